/- What the proofs of this seat lean on, part 11. -/
import Derived.Test.YtkllhfajldnpoaaPk10
import Derived.Test.YtkllhfajldnpoaaSh
import Derived.Laws.CopyRow
namespace Go.Proofs.Ytkllhfajldnpoaa
open Go Go.RowKit Fw
set_option linter.unusedVariables false
set_option maxRecDepth 20000
namespace Fw
section
variable {P : Program} {w : World} {ρ : Operand → Value} {dst : Option Tmp} {ty : TypeId} {pos : String} {af : Array Edge} {g : Option (Nat × Bool)} {v : Value}
/-- copy of single cells into a row that is known. -/
theorem r_cpy {t e : TypeId} {x y : Operand} {gb o k c m c' r : Nat} {ad : Addr} {cs news : List Value} {T : TypeId} (ht : P.underlying t = some (.slice e)) (hsz : szT P e = some 1) (hd : ρ x = .slice (some ⟨gb, o, none⟩) k c) (hs : ρ y = .slice (some ad) m c')
    (hr : r = min m k) (hl : news.length = r) (hsrc : ∀ j u, news[j]? = some u → w.cell? (ad.add j) = some u) (h1 : news.all Value.oneCell' = true) (hb : w.heap[gb]? = some (.cells cs.toArray T (0, 0))) (ho : o + r ≤ cs.length) :
    Rn P ρ ⟨dst, .call ⟨.builtin .copy, #[x, y], #[t, t]⟩, ty, pos, af, g⟩ w (.ok (.value (.int .i64 r)) (w.setRow gb (setAt cs o news).toArray)) := by
  refine run_bi (xs := [x, y]) (Builtin.copy_ #[t, t] ty #[ρ x, ρ y]) (fun cn args e => by subst e; rfl) ?_
  rw [hd, hs]
  have hsz' : (P.info? e).map (·.size) = some 1 := by
    obtain ⟨i, h1, h2⟩ := szT_info hsz
    rw [h1, Option.map_some, h2]
  have := run_copy_row P w t t ty e gb o k c ad m c' cs.toArray T news ht hsz' hb (by rw [hl, hr]) hsrc (by simpa [hl] using ho) (by simpa using h1)
  rw [setAt_eq news o cs (by omega)]
  rw [hl] at this ⊢
  exact this
end
end Fw
namespace Ck
theorem mulF (x y : Nat) (hx : x < 18446744073709551616) (hy : y < 18446744073709551616) (w : World) : Ret Try.prog 38 [.int .u64 x, .int .u64 y] w fun v w1 => v = .tuple #[.int .u64 ((x * y / 18446744073709551616 : Nat) : Int), .int .u64 ((x * y % 18446744073709551616 : Nat) : Int)] ∧ w1 = w := by
  refine Calls.mono (Try.bits_Mul x y hx hy w) ?_
  rintro _ _ ⟨rfl, h⟩
  exact ⟨_, rfl, rfl, h⟩
theorem setAt_rep {cur : List Value} {x : Value} {n m N : Nat} (hl : cur.length = N) (hn : n + m ≤ N) (h : ∀ j, j < n → cur[j]? = some x) : (setAt cur n (List.replicate m x)).length = N ∧ ∀ j, j < n + m → (setAt cur n (List.replicate m x))[j]? = some x := by
  refine ⟨by rw [setAt_length, hl], fun j hj => ?_⟩
  rw [setAt_eq _ _ _ (by rw [List.length_replicate]; omega), List.append_assoc]
  by_cases hjn : j < n
  · rw [List.getElem?_append_left (by rw [List.length_take]; omega), List.getElem?_take, if_pos hjn]
    exact h j hjn
  · rw [List.getElem?_append_right (by rw [List.length_take]; omega), List.length_take, show min n cur.length = n from by omega, List.getElem?_append_left (by rw [List.length_replicate]; omega), List.getElem?_replicate, if_pos (by omega)]
set_option maxHeartbeats 4000000 in
theorem repeatF (b c N : Nat) (x : Int) (w : World) (hb : w.heap[b]? = some (.cells [Value.int .i64 x].toArray 3 (0, 0))) (h1 : 1 ≤ N) (h2 : N ≤ 1000000) :
    Ret Try.prog 27 [.slice (some ⟨b, 0, none⟩) 1 c, .int .i64 N] w fun v w1 => ∃ g, v = .slice (some ⟨g, 0, none⟩) N N ∧ w1.heap[g]? = some (.cells (List.replicate N (Value.int .i64 x)).toArray 3 (0, 0)) ∧ w.heap.size ≤ g ∧ Kp No w w1 := by
  refine ret_enter Try.func27 rfl Try.ntmps27 rfl ?_
  (repeat refine Zr ?_)
  refine c_dec rfl (fun h => absurd h (by omega)) (fun _ => ?_)
  (repeat refine Zr ?_)
  have ew : ∀ n : Nat, n ≤ 1000000 → IntKind.u64.wrap (n : Int) = (n : Int) := fun n h => by rw [IntKind.wrap_u64]; omega
  have ei : IntKind.i64.wrap (N : Int) = (N : Int) := wrap_in (by omega)
  rw [ew N h2, ew 1 (by omega)]
  refine s_call (us := []) (zs := []) (by kernel_rfl) rfl rfl (mulF 1 N (by omega) (by omega) w) ?_
  rintro _ w1 ⟨rfl, rfl⟩
  rw [show 1 * N / 18446744073709551616 = 0 from by omega, show 1 * N % 18446744073709551616 = N from by omega]
  (repeat refine Zr ?_)
  refine s_set 23 false rfl (by decide) ?_
  (repeat (first | refine Zr ?_ | refine Zn ?_ | refine Zu ?_ | refine Zg ?_))
  refine c_dec rfl (fun h => absurd h (by omega)) (fun _ => ?_)
  (repeat refine Zr ?_)
  try rw [ei]
  refine s_ms1 (m := N) (c := N) rfl rfl rfl rfl rfl rfl rfl (Nat.le_refl _) (by show 8 * N ≤ _; omega) (by omega) (fun g w2 n2 => ?_)
  have g2 := n2.ge
  have eb := n2.kp.get0 hb
  have ltb := lt_of_get hb
  (repeat refine Zr ?_)
  refine s_wr n2.blk (r_cpy (r := 1) (news := [.int .i64 x]) rfl rfl rfl rfl (by omega) rfl (fun j u hj => ?_) rfl n2.blk (by rw [List.length_replicate]; omega)) (fun w3 s3 => ?_)
  · match j, hj with
    | 0, hj => cases hj; exact cell_of_blk eb rfl
  have k3 : Kp No w1 w3 := n2.kp.trans s3.kp (fun q hq e => by have e : q = g := e; omega)
  have hl0 : (setAt (List.replicate N (Value.int .i64 0)) 0 [.int .i64 x]).length = N := by rw [setAt_length, List.length_replicate]
  (repeat refine Zr ?_)
  refine k_loop (σ := Nat) (fun n => [(7, .slice (some ⟨g, 0, none⟩) N N), (8, .int .i64 n)])
    (fun n m => 1 ≤ n ∧ n ≤ N ∧ Kp No w1 m ∧ ∃ cur : List Value, cur.length = N ∧ m.heap[g]? = some (.cells cur.toArray 3 (0, 0)) ∧ ∀ j, j < n → cur[j]? = some (.int .i64 x)) (fun n => N - n) 1 ⟨rfl, rfl, trivial⟩ ⟨Nat.le_refl _, h1, k3, _, hl0, s3.blk, fun j hj => ?_⟩ ?_
  · obtain rfl : j = 0 := by omega
    rw [setAt_eq _ _ _ (by simp; omega)]
    rfl
  rintro n l m ⟨hn1, hn2, km, cur, hcl, hcb, hcj⟩
  (repeat refine Zr ?_)
  refine c_dec rfl (fun hlt => ?_) (fun hge => ?_)
  · have hlt' : n < N := by omega
    (repeat refine Zr ?_)
    refine k_h (fun w' => Kp (fun k => k = g) m w') [(0, false), (1, false), (2, false), (3, false), (4, false), (5, false), (6, false), (7, true), (8, false), (9, false)] 99 (by kernel_rfl) (by exact waits_of_out (by kernel_rfl)) (by kernel_rfl) (by kernel_rfl) rfl rfl (fun m1 k1 _ => ?_)
    have k1' : Kp (fun k => k = g) m m1 := k1.mono (fun _ _ h => False.elim h)
    refine h_v k1' (fun w' hw => r_mv rfl) ?_
    refine h_v k1' (fun w' hw => r_mv rfl) ?_
    refine h_v k1' (fun w' hw => r_mv rfl) ?_
    refine h_v k1' (fun w' hw => r_slx (a' := some ⟨g, 0 + n * 1, none⟩) (n' := N - n) (c' := N - n) rfl rfl rfl rfl rfl (by omega) (by omega) (by omega) (by omega) (subA_at (by omega)) (by omega) (by omega)) ?_
    refine h_v k1' (fun w' hw => r_mv rfl) ?_
    refine h_v k1' (fun w' hw => r_mv rfl) ?_
    refine h_v k1' (fun w' hw => r_slx (a' := some ⟨g, 0, none⟩) (n' := n) (c' := N) rfl rfl rfl rfl rfl (by omega) (by omega) (by omega) (by omega) subA_0 (by omega) (by omega)) ?_
    have e1 := k1.get0 hcb
    refine h_wr e1 (r_cpy (r := min n (N - n)) (news := List.replicate (min n (N - n)) (.int .i64 x)) rfl rfl rfl rfl rfl (List.length_replicate ..) (fun j u hj => ?_) (by simp [List.all_replicate]; right; rfl) e1 (by omega)) (fun m2 s2 => ⟨fun _ => k1'.trans s2.kp (fun _ _ h => h), ?_⟩)
    · rw [List.getElem?_replicate] at hj
      split at hj
      · cases hj
        rw [addr_add]
        exact cell_of_blk e1 (by rw [Nat.zero_add]; exact hcj j (by omega))
      · cases hj
    have k2 : Kp (fun k => k = g) m m2 := k1'.trans s2.kp (fun _ _ h => h)
    refine h_v k2 (fun w' hw => r_add rfl rfl (by omega)) ?_
    refine h_v k2 (fun w' hw => r_as rfl) ?_
    refine h_nil ?_
    obtain ⟨q1, q2⟩ := setAt_rep (x := .int .i64 x) (m := min n (N - n)) hcl (by omega) hcj
    have e2 := s2.blk
    rw [show 0 + n * 1 = n from by omega] at e2
    (repeat refine Zr ?_)
    refine l_next (n + min n (N - n)) ⟨rfl, by rw [Int.natCast_add]; rfl, trivial⟩ ⟨by omega, by omega, km.trans k2 (fun q hq e => by omega), _, q1, e2, q2⟩ (by omega)
  · obtain rfl : n = N := by omega
    have hcur : cur = List.replicate n (.int .i64 x) := by
      refine List.ext_getElem? (fun j => ?_)
      by_cases hj : j < n
      · rw [hcj j hj, List.getElem?_replicate, if_pos hj]
      · rw [List.getElem?_eq_none (by omega), List.getElem?_eq_none (by rw [List.length_replicate]; omega)]
    subst hcur
    (repeat refine Zr ?_)
    exact ret_1 rfl rfl ⟨g, rfl, hcb, g2, km⟩
end Ck
end Go.Proofs.Ytkllhfajldnpoaa
namespace Go.Proofs.Ytkllhfajldnpoaa.Ck
open Go Go.RowKit Fw Sy Rf Fn
set_option linter.unusedVariables false
set_option maxRecDepth 20000
theorem indexF (l : List Int) (x : Int) {va : Value} {w : World} (ha : LI w va l) : Ret Try.prog 48 [va, .int .i64 x] w fun v w1 => (∃ i : Int, v = .int .i64 i ∧ (0 ≤ i ↔ x ∈ l)) ∧ Kp No w w1 := by
  obtain ⟨aa, ac, rfl, hat⟩ := li_at ha
  have hll : l.length ≤ 9223372036854775807 := by have := own_mx ha; unfold maxLen at this; omega
  refine ret_enter Try.func48 rfl Try.ntmps48 rfl ?_
  (repeat refine Zlr ?_)
  refine k_loop (σ := Nat) (fun i => [(0, .slice aa l.length ac), (1, .int .i64 x), (7, .int .i64 (l.length : Int)), (8, .int .i64 (i : Int))])
    (fun i w' => i ≤ l.length ∧ x ∉ l.take i ∧ Kp No w w') (fun i => l.length - i) 0 ⟨rfl, rfl, rfl, rfl, trivial⟩ ⟨Nat.zero_le _, by simp, Kp.refl _ _⟩ ?_
  rintro i l2 w2 ⟨hi, hx, k2⟩
  (repeat refine Zlr ?_)
  refine c_dec rfl (fun hlt => ?_) (fun hge => ?_)
  · have hlt : i < l.length := by omega
    obtain ⟨y, hy⟩ : ∃ y, l[i]? = some y := ⟨_, List.getElem?_eq_getElem hlt⟩
    obtain ⟨ga, hga, hca⟩ := hat i y hy
    have h1 : Value.slice aa l.length ac = .slice (some ⟨ga, 0, none⟩) l.length ac := by rw [hga]
    (repeat refine Zlr ?_)
    refine s_v (r_ia (size := 1) rfl rfl h1 rfl (by omega) (by omega)) ?_
    refine s_v (r_ld rfl rfl (hca _ k2)) ?_
    (repeat refine Zlr ?_)
    refine c_eq rfl (fun e => ?_) (fun e => ?_)
    · (repeat refine Zlr ?_)
      exact ret_c1 rfl (rv_t rfl) ⟨⟨_, rfl, ⟨fun _ => by rw [e]; exact List.mem_of_getElem? hy, fun _ => by omega⟩⟩, k2⟩
    · (repeat refine Zlr ?_)
      refine l_next (i + 1) ⟨rfl, rfl, rfl, rfl, trivial⟩ ⟨hlt, ?_, k2⟩ (by show l.length - (i + 1) < l.length - i; omega)
      rw [List.take_add_one, hy]
      intro h
      rcases List.mem_append.1 h with h | h
      · exact hx h
      · simp at h; exact e h
  · have hi : i = l.length := by omega
    subst hi
    rw [List.take_length] at hx
    (repeat refine Zlr ?_)
    exact ret_c1 rfl (rv_t rfl) ⟨⟨-1, rfl, ⟨fun h => by omega, fun h => (hx h).elim⟩⟩, k2⟩
theorem containsF (l : List Int) (x : Int) {va : Value} {w : World} (ha : LI w va l) : Ret Try.prog 33 [va, .int .i64 x] w fun v w1 => v = .bool (decide (x ∈ l)) ∧ Kp No w w1 := by
  obtain ⟨aa, ac, rfl⟩ := ha.val
  refine ret_enter Try.func33 rfl Try.ntmps33 rfl ?_
  (repeat refine Zlr ?_)
  refine s_call (us := []) (zs := []) (by kernel_rfl) rfl rfl (indexF l x ha) ?_
  rintro _ w1 ⟨⟨i, rfl, hi⟩, k1⟩
  (repeat refine Zlr ?_)
  have hi : (i ≥ 0) ↔ x ∈ l := hi
  have e : decide (x ∈ l) = decide (i ≥ 0) := by by_cases h : x ∈ l <;> simp [h, hi]
  rw [e]
  exact ret_c1 rfl (rv_t rfl) ⟨rfl, k1⟩
/-- Lists that grow, each in memory of its own, in a row. -/
structure Bk (base : Nat) (w : World) (g : Nat) (vs : List Sl) (rs : List (List Int)) : Prop where
  len : vs.length = rs.length
  blk : w.heap[g]? = some (.cells (vs.map Sl.v).toArray tInts (0, 0))
  own : ∀ (i : Nat) v l, vs[i]? = some v → rs[i]? = some l → w.ownsRow base tInt 1 v.v l.length (l.map (Value.int .i64))
  dj : ∀ (i j : Nat) v u b, vs[i]? = some v → vs[j]? = some u → v.v.ownBlock = some b → u.v.ownBlock = some b → i = j
section
variable {base g : Nat} {w w1 w2 : World} {vs : List Sl} {rs : List (List Int)}
theorem Bk.no (h : Bk base w g vs rs) (k : Kp No w w1) : Bk base w1 g vs rs := ⟨h.len, k.get0 h.blk, fun i v l a b => own_kp (h.own i v l a b) k fun _ _ h => h, h.dj⟩
theorem Bk.app (h : Bk base w g vs rs) {i : Nat} {v v' : Sl} {l : List Int} {x : Int} (hv : vs[i]? = some v) (hl : rs[i]? = some l) (a : Ap w base tInt 1 v.v (l.length + 1) (l.map (Value.int .i64) ++ [.int .i64 x]) v'.v w1) (s : Sb w1 g ((vs.set i v').map Sl.v) tInts w2) : Bk base w2 g (vs.set i v') (rs.set i (l ++ [x])) := by
  have ho := h.own i v l hv hl
  have hS : ∀ {e' : TypeId} {u : Value} {n : Nat} {cs : List Value}, w1.ownsRow base tInt 1 u n cs → w2.ownsRow base tInt 1 u n cs := fun ho => own_kp ho s.kp fun b hb e => by
    obtain ⟨c, hc⟩ := own_ty ho hb
    exact ty_ne hc (by rw [e]; exact a.get (base := base) (by exact h.own i v l hv hl) h.blk rfl) rfl rfl
  refine ⟨by rw [List.length_set, List.length_set]; exact h.len, s.blk, fun j u m hj hm => ?_, fun j k u t b hj hk h1 h2 => ?_⟩
  · rw [List.getElem?_set] at hj hm
    split at hj
    · rename_i e
      rw [if_pos e] at hm
      split at hj
      · split at hm
        · cases hj; cases hm
          rw [List.length_append, List.map_append]
          exact hS (e' := tInt) a.own
        · cases hm
      · cases hj
    · rename_i e
      rw [if_neg e] at hm
      exact hS (e' := tInt) (own_kp (h.own j u m hj hm) a.kp fun b hb e2 => e (h.dj i j v u b hv hj e2.symm hb))
  · have old : ∀ {j : Nat} {u : Sl}, vs[j]? = some u → v'.v.ownBlock = some b → u.v.ownBlock = some b → i = j := fun {j u} hj h1 h2 => by
      rcases a.row b h1 with h3 | h3
      · exact h.dj i j v u b hv hj h3 h2
      · have hjr : j < rs.length := by rw [← h.len]; exact (List.getElem?_eq_some_iff.1 hj).1
        have := own_lt (h.own j u _ hj (List.getElem?_eq_getElem hjr)) h2
        omega
    rw [List.getElem?_set] at hj hk
    split at hj
    · rename_i e
      split at hk
      · rename_i e'; omega
      · split at hj
        · cases hj
          rw [← e]
          exact old hk h1 h2
        · cases hj
    · split at hk
      · rename_i _ e'
        split at hk
        · cases hk
          rw [← e']
          exact (old hj h2 h1).symm
        · cases hk
      · exact h.dj j k u t b hj hk h1 h2
end
section
variable {nx : List (List Int)}
set_option maxHeartbeats 2000000 in
theorem backF (W : Wel nx) {w : World} {fs : Sl} {v : Value} (hN : NX w v nx) (hb : nx.length ≤ 1000) :
    Ret Try.prog 39 [.agg #[fs.v, v]] w (fun u w1 => ∃ g vs, u = .slice (some ⟨g, 0, none⟩) nx.length nx.length ∧ Bk w.heap.size w1 g vs (bkL nx) ∧ w.heap.size ≤ g ∧ Kp No w w1) := by
  obtain ⟨va, vc, rfl⟩ := hN.val
  refine ret_enter Try.func39 rfl Try.ntmps39 rfl ?_
  (repeat refine Zlr ?_)
  refine s_box (cs := [fs.v, .slice va nx.length vc]) rfl rfl (fun b1 w1 n1 => ?_)
  have h1 := n1.blk
  (repeat refine Zlr ?_)
  refine s_ms1 (m := nx.length) (c := nx.length) rfl rfl rfl rfl rfl rfl rfl (Nat.le_refl _) (by show 24 * _ ≤ _; omega) (by omega) (fun g w2 n2 => ?_)
  have h1 := n2.kp.get0 n1.blk
  have hB : Bk w.heap.size w2 g (List.replicate nx.length nS) (List.replicate nx.length []) := by
    refine ⟨by simp, by rw [List.map_replicate]; exact n2.blk, fun i v l hv hl => ?_, fun i j v u b hv hu h1 _ => ?_⟩
    · have e1 : v = nS := (List.mem_replicate.1 (List.mem_of_getElem? hv)).2
      have e2 : l = [] := (List.mem_replicate.1 (List.mem_of_getElem? hl)).2
      rw [e1, e2]
      exact World.ownsRow_nil _ _ _ _
    · have e1 : v = nS := (List.mem_replicate.1 (List.mem_of_getElem? hv)).2
      rw [e1] at h1; cases h1
  have hg : w.heap.size ≤ g := by have := n1.kp.size; have := n2.ge; omega
  have k2 := n1.kp.no n2.kp
  (repeat refine Zlr ?_)
  refine k_loop (σ := Nat × List Sl × List (List Int)) (fun t => [(3, .slice (some ⟨g, 0, none⟩) nx.length nx.length), (13, .slice va nx.length vc), (14, .int .i64 (nx.length : Int)), (15, .int .i64 (t.1 : Int))])
    (fun t w' => t.1 ≤ nx.length ∧ t.2.2.length = nx.length ∧ (∀ l ∈ t.2.2, l.length ≤ 2 * t.1) ∧ bkA t.1 (nx.drop t.1) t.2.2 = bkL nx ∧ Bk w.heap.size w' g t.2.1 t.2.2 ∧ Kp No w w') (fun t => nx.length - t.1) (0, List.replicate nx.length nS, List.replicate nx.length []) ⟨rfl, rfl, rfl, rfl, trivial⟩
    ⟨Nat.zero_le _, List.length_replicate, fun l hl => by rw [(List.mem_replicate.1 hl).2]; exact Nat.zero_le _, by rw [List.drop_zero]; rfl, hB, k2⟩ ?_
  clear hB k2 h1 n1 n2
  rintro ⟨i, vs, rs⟩ l3 w3 ⟨hi, hrl, hll, hbk, hB, k3⟩
  simp only at hi hrl hll hbk hB k3
  try dsimp only
  (repeat refine Zlr ?_)
  refine c_dec rfl (fun hlt => ?_) (fun hge => ?_)
  · have hlt : i < nx.length := by omega
    have hni : Nd nx.length (i : Int) := ⟨by omega, by omega⟩
    obtain ⟨vg, la, lc, rfl, hl, hvc⟩ := hN.at_ hni
    obtain ⟨L, hL⟩ : ∃ L, gl nx (i : Int) = L := ⟨_, rfl⟩
    have hL2 : L.length ≤ 2 := by rw [← hL]; exact (W.hr _ hni).1
    have hLt : ∀ t ∈ L, t = -1 ∨ Nd nx.length t := by rw [← hL]; exact (W.hr _ hni).2
    rw [hL] at hl hvc
    obtain ⟨_, _, e, hlat⟩ := li_at hl
    cases e
    (repeat refine Zlr ?_)
    refine s_v (r_ia (size := 1) rfl rfl rfl rfl (by omega) (by omega)) ?_
    refine s_v (r_ld rfl rfl (hvc _ k3)) ?_
    (repeat refine Zlr ?_)
    refine k_loop (σ := Nat × List Sl × List (List Int)) (fun t => [(3, .slice (some ⟨g, 0, none⟩) nx.length nx.length), (4, .int .i64 (i : Int)), (13, .slice (some ⟨vg, 0, none⟩) nx.length vc), (14, .int .i64 (nx.length : Int)), (15, .int .i64 (i : Int)), (20, .slice la L.length lc), (21, .int .i64 (L.length : Int)), (22, .int .i64 (t.1 : Int))])
      (fun t w' => t.1 ≤ L.length ∧ t.2.2.length = nx.length ∧ (∀ l ∈ t.2.2, l.length ≤ 2 * i + t.1) ∧ bk1 (i : Int) (L.drop t.1) t.2.2 = bk1 (i : Int) L rs ∧ Bk w.heap.size w' g t.2.1 t.2.2 ∧ Kp No w w') (fun t => L.length - t.1) (0, vs, rs) ⟨rfl, rfl, rfl, rfl, rfl, rfl, rfl, rfl, trivial⟩
      ⟨Nat.zero_le _, hrl, hll, by rw [List.drop_zero], hB, k3⟩ ?_
    clear hB k3 hll
    rintro ⟨j, vs2, rs2⟩ l4 w4 ⟨hj, hrl2, hll, hb1, hB, k4⟩
    simp only at hj hrl2 hll hb1 hB k4
    try dsimp only
    (repeat refine Zlr ?_)
    refine c_dec rfl (fun hlj => ?_) (fun hgj => ?_)
    · have hlj : j < L.length := by omega
      obtain ⟨t, ht⟩ : ∃ t, L[j]? = some t := ⟨_, List.getElem?_eq_getElem hlj⟩
      obtain ⟨lg, hla, hlc⟩ := hlat j t ht
      have hls : Value.slice la L.length lc = .slice (some ⟨lg, 0, none⟩) L.length lc := by rw [hla]
      rw [List.drop_eq_getElem_cons hlj] at hb1
      have ej : L[j] = t := by rw [List.getElem?_eq_getElem hlj] at ht; exact Option.some.inj ht
      rw [ej, bk1] at hb1
      have nxt : bk1 (i : Int) (L.drop (j + 1)) rs2 = bk1 (i : Int) L rs → (j + 1 ≤ L.length ∧ rs2.length = nx.length ∧ (∀ l ∈ rs2, l.length ≤ 2 * i + (j + 1)) ∧ bk1 (i : Int) (L.drop (j + 1)) rs2 = bk1 (i : Int) L rs) := fun h => ⟨hlj, hrl2, fun l hl => by have := hll l hl; omega, h⟩
      (repeat refine Zlr ?_)
      refine s_v (r_ia (size := 1) rfl rfl hls rfl (by omega) (by omega)) ?_
      refine s_v (r_ld rfl rfl (hlc _ k4)) ?_
      (repeat refine Zlr ?_)
      by_cases ht1 : t = -1
      · rw [if_neg (fun h => h.1 ht1)] at hb1
        refine s_set 28 false rfl (bne_eq_false_iff_eq.2 ht1) ?_
        (repeat (first | refine Zlr ?_ | refine Zn ?_ | refine Zu ?_ | refine Zg ?_ | refine Zgl ?_))
        refine c_f rfl ?_
        (repeat refine Zlr ?_)
        obtain ⟨y1, y2, y3, y4⟩ := nxt hb1
        exact l_next (j + 1, vs2, rs2) ⟨rfl, rfl, rfl, rfl, rfl, rfl, rfl, rfl, trivial⟩ ⟨y1, y2, y3, y4, hB, k4⟩ (by show L.length - (j + 1) < L.length - j; omega)
      have hnt : Nd nx.length t := (hLt t (List.mem_of_getElem? ht)).resolve_left ht1
      have ht0 := hnt.1
      have htN := hnt.2
      obtain ⟨sv', hsv⟩ : ∃ v, vs2[t.toNat]? = some v := ⟨_, List.getElem?_eq_getElem (by rw [hB.len]; omega)⟩
      obtain ⟨m, hm⟩ : ∃ m, rs2[t.toNat]? = some m := ⟨_, List.getElem?_eq_getElem (by omega)⟩
      have hgm : gl rs2 t = m := by unfold gl; rw [List.getD_eq_getElem?_getD, hm]; rfl
      have hml := hll m (List.mem_of_getElem? hm)
      rw [hgm] at hb1
      have hcl : w4.cell? ⟨g, 0 + t.toNat * 1, none⟩ = some (sv'.v) := by
        have := blk_cells hB.blk t.toNat sv'.v (by rw [List.getElem?_map, hsv]; rfl)
        rw [show 0 + t.toNat * 1 = 0 + t.toNat by omega]; exact this
      have hmo := hB.own _ _ _ hsv hm
      have hmL : LI w4 sv'.v m := own_lo hmo (Nat.zero_le _)
      refine s_set 28 true rfl (bne_iff_ne.2 ht1) ?_
      (repeat (first | refine Zlr ?_ | refine Zn ?_ | refine Zu ?_ | refine Zg ?_ | refine Zgl ?_))
      try (refine s_gv rfl (r_ia (size := 1) rfl rfl rfl rfl (by omega) (by omega)) ?_; (repeat (first | refine Zlr ?_ | refine Zn ?_ | refine Zu ?_ | refine Zg ?_ | refine Zgl ?_)))
      refine s_gcall (us := []) (zs := []) rfl (by kernel_rfl) rfl rfl (containsF m (i : Int) hmL) ?_
      rintro _ w5 ⟨rfl, k5⟩
      have k5' := k4.no k5
      have hB := hB.no k5
      by_cases hin : (i : Int) ∈ m
      · rw [if_neg (fun h => h.2 hin)] at hb1
        rw [decide_eq_true hin]
        (repeat (first | refine Zlr ?_ | refine Zn ?_ | refine Zu ?_ | refine Zg ?_ | refine Zgl ?_))
        refine c_f rfl ?_
        (repeat refine Zlr ?_)
        obtain ⟨y1, y2, y3, y4⟩ := nxt hb1
        exact l_next (j + 1, vs2, rs2) ⟨rfl, rfl, rfl, rfl, rfl, rfl, rfl, rfl, trivial⟩ ⟨y1, y2, y3, y4, hB, k5'⟩ (by show L.length - (j + 1) < L.length - j; omega)
      · rw [if_pos ⟨ht1, hin⟩] at hb1
        rw [decide_eq_false hin]
        (repeat (first | refine Zlr ?_ | refine Zn ?_ | refine Zu ?_ | refine Zg ?_ | refine Zgl ?_))
        refine c_t rfl ?_
        have hcl := k5.cell0 hcl
        (repeat refine Zlr ?_)
        refine s_v (r_ia (size := 1) rfl rfl rfl rfl (by omega) (by omega)) ?_
        refine s_v (r_ld rfl rfl hcl) ?_
        (repeat refine Zlr ?_)
        refine s_bs (cs := [.int .i64 (i : Int)]) (e := tInt) rfl (fun b9 w6 n9 => ?_)
        have hB := hB.no n9.kp
        have k6 := k5'.no n9.kp
        have h9 := n9.blk
        refine s_app (v0 := sv'.v) (k := m.length) (m := 1) (size := 1) (bytes := 8) (base := w.heap.size) (xs := m.map (Value.int .i64)) (news := [.int .i64 (i : Int)]) rfl rfl rfl rfl rfl rfl rfl rfl (hB.own _ _ _ hsv hm) rfl (blk_cells h9) rfl rfl (by omega) (by omega) k6.size ?_
        intro v7 w7 ap
        obtain ⟨a9, c9, e9, _⟩ := own_read ap.own
        subst e9
        have hg7 := ap.get (hB.own _ _ _ hsv hm) hB.blk rfl
        (repeat refine Zlr ?_)
        refine s_v (r_ia (size := 1) rfl rfl rfl rfl (by omega) (by omega)) ?_
        refine s_st (vs := [.slice a9 (m.length + 1) c9]) rfl rfl rfl rfl rfl hg7 (by rw [List.length_map, hB.len]; show _ + 1 ≤ _; omega) (fun w8 s => ?_)
        have s : Sb w7 g ((vs2.set t.toNat ⟨a9, m.length + 1, c9⟩).map Sl.v) tInts w8 := by
          have e : setAt (vs2.map Sl.v) t.toNat [.slice a9 (m.length + 1) c9] = (vs2.set t.toNat ⟨a9, m.length + 1, c9⟩).map Sl.v := by
            have hl : t.toNat < (vs2.map Sl.v).length := by rw [List.length_map, hB.len]; omega
            rw [setAt_eq _ _ _ (by simp at hl ⊢; omega), List.map_set, List.set_eq_take_append_cons_drop, if_pos hl]
            simp [Sl.v]
          rw [← e]
          rw [show t.toNat = 0 + t.toNat * 1 by omega]
          exact s
        have hB' := hB.app (v' := ⟨a9, m.length + 1, c9⟩) hsv hm ap s
        have k8 : Kp No w w8 := (k6.from0' ap.kp fun b hb e => (by have := own_lt (hB.own _ _ _ hsv hm) e.symm; omega)).from0' s.kp fun b hb e => by omega
        (repeat refine Zlr ?_)
        refine l_next (j + 1, vs2.set t.toNat ⟨a9, m.length + 1, c9⟩, rs2.set t.toNat (m ++ [(i : Int)])) ⟨rfl, rfl, rfl, rfl, rfl, rfl, rfl, rfl, trivial⟩ ⟨hlj, by rw [List.length_set]; exact hrl2, fun l hl => ?_, hb1, hB', k8⟩ (by show L.length - (j + 1) < L.length - j; omega)
        rcases List.mem_or_eq_of_mem_set hl with h | h
        · have := hll l h; show l.length ≤ 2 * i + (j + 1); omega
        · rw [h, List.length_append]; show m.length + 1 ≤ 2 * i + (j + 1); omega
    · have hj : j = L.length := by omega
      subst hj
      rw [List.drop_length] at hb1
      have hb1 : rs2 = bk1 (i : Int) L rs := hb1
      (repeat refine Zlr ?_)
      refine l_next (i + 1, vs2, rs2) ⟨rfl, rfl, rfl, rfl, trivial⟩ ⟨hlt, hrl2, fun l hl => by have := hll l hl; show l.length ≤ 2 * (i + 1); omega, ?_, hB, k4⟩ (by show nx.length - (i + 1) < nx.length - i; omega)
      rw [← hbk, List.drop_eq_getElem_cons hlt]
      have ej : nx[i] = L := by
        rw [← hL]; unfold gl
        rw [List.getD_eq_getElem?_getD, Int.toNat_natCast, List.getElem?_eq_getElem hlt]; rfl
      rw [ej, hb1]
      rfl
  · have hi : i = nx.length := by omega
    subst hi
    rw [List.drop_length] at hbk
    have hbk : rs = bkL nx := hbk
    rw [← hbk]
    (repeat refine Zlr ?_)
    exact ret_c1 rfl (rv_t rfl) ⟨g, vs, rfl, hB, hg, k3⟩
end
end Go.Proofs.Ytkllhfajldnpoaa.Ck
namespace Go.Proofs.Ytkllhfajldnpoaa.Ck
open Go Go.RowKit Fw Sy Rf Fn
set_option linter.unusedVariables false
set_option maxRecDepth 20000
/-- Where a search's things lie. -/
structure Vc where
  wB : World
  N : Nat
  back : List (List Int)
  s5 : Nat
  gs : Nat
  b3 : Nat
  gb : Nat
  vs : List Sl
  b6 : Nat
  b4 : Nat
def Vc.fn (V : Vc) : Value := .func (.func 40) #[] #[.pointer (some ⟨V.s5, 0, none⟩), .pointer (some ⟨V.b3, 0, none⟩), .pointer (some ⟨V.b6, 0, none⟩), .pointer (some ⟨V.b4, 0, none⟩)]
abbrev tSB : TypeId := 64
abbrev tNX : TypeId := 24
abbrev tVis : TypeId := 92
structure Vw (V : Vc) (w : World) (st : SO) (os : Sl) : Prop where
  k0 : Kp No V.wB w
  h5 : w.heap[V.s5]? = some (.cells [Value.slice (some ⟨V.gs, 0, none⟩) V.N V.N].toArray tSB (0, 0))
  hs : w.heap[V.gs]? = some (.cells (st.1.map Value.bool).toArray tBool (0, 0))
  h3 : w.heap[V.b3]? = some (.cells [Value.slice (some ⟨V.gb, 0, none⟩) V.N V.N].toArray tNX (0, 0))
  bk : Bk V.wB.heap.size w V.gb V.vs V.back
  h6 : w.heap[V.b6]? = some (.cells [V.fn].toArray tVis (0, 0))
  h4 : w.heap[V.b4]? = some (.cells [os.v].toArray tInts (0, 0))
  ho : w.ownsRow V.wB.heap.size tInt 1 os.v st.2.length (st.2.map (Value.int .i64))
  dj : ∀ v ∈ V.vs, ∀ b, v.v.ownBlock = some b → os.v.ownBlock = some b → False
  sl : st.1.length = V.N
  ne : V.b4 ≠ V.gb
  ge : V.wB.heap.size ≤ V.gs ∧ V.wB.heap.size ≤ V.b4
section
variable {V : Vc} {w w' : World} {st : SO} {os : Sl}
theorem Vw.no (h : Vw V w st os) (k : Kp No w w') : Vw V w' st os :=
  ⟨h.k0.no k, k.get0 h.h5, k.get0 h.hs, k.get0 h.h3, h.bk.no k, k.get0 h.h6, k.get0 h.h4, own_kp h.ho k fun _ _ h => h, h.dj, h.sl, h.ne, h.ge⟩
theorem ty_neq {b g : Nat} {cur cur' : Array Value} {e e' : TypeId} (h : w.heap[b]? = some (.cells cur e (0, 0))) (h' : w.heap[g]? = some (.cells cur' e' (0, 0))) (he : Nat.beq e e' = false) : b ≠ g := ty_ne h h' he
/-- One is seen. -/
theorem Vw.see (h : Vw V w st os) {s : List Bool} (hl : s.length = V.N) (k : Sb w V.gs (s.map Value.bool) tBool w') : Vw V w' (s, st.2) os := by
  have no : ∀ {b : Nat} {cur : Array Value} {T : TypeId}, w.heap[b]? = some (.cells cur T (0, 0)) → Nat.beq T tBool = false → w'.heap[b]? = some (.cells cur T (0, 0)) := fun hb hT => k.kp.get hb (ty_neq hb h.hs hT)
  have row : ∀ {v : Value} {n : Nat} {cs : List Value}, w.ownsRow V.wB.heap.size tInt 1 v n cs → w'.ownsRow V.wB.heap.size tInt 1 v n cs := fun ho => own_kp ho k.kp fun g hg e => by
    obtain ⟨c, hc⟩ := own_ty ho hg
    exact ty_neq hc h.hs rfl e
  exact ⟨h.k0.from0' k.kp fun i hi e => (by have := h.ge.1; omega), no h.h5 rfl, k.blk, no h.h3 rfl, ⟨h.bk.len, no h.bk.blk rfl, fun i v l a b => row (h.bk.own i v l a b), h.bk.dj⟩, no h.h6 rfl, no h.h4 rfl, row h.ho, h.dj, hl, h.ne, h.ge⟩
/-- One is put behind the others. -/
theorem Vw.put (h : Vw V w st os) {w1 w2 : World} {a : Int} {os' : Sl} (ap : Ap w V.wB.heap.size tInt 1 os.v (st.2.length + 1) (st.2.map (Value.int .i64) ++ [.int .i64 a]) os'.v w1) (s : Sb w1 V.b4 [os'.v] tInts w2) : Vw V w2 (st.1, st.2 ++ [a]) os' := by
  have no : ∀ {b : Nat} {cur : Array Value} {T : TypeId}, w.heap[b]? = some (.cells cur T (0, 0)) → Nat.beq tInt T = false → b ≠ V.b4 → w2.heap[b]? = some (.cells cur T (0, 0)) := fun hb hT hn => s.kp.get (ap.get h.ho hb hT) hn
  have h41 := ap.get h.ho h.h4 rfl
  have row : ∀ {v : Value} {n : Nat} {cs : List Value}, w1.ownsRow V.wB.heap.size tInt 1 v n cs → w2.ownsRow V.wB.heap.size tInt 1 v n cs := fun ho => own_kp ho s.kp fun g hg e => by
    obtain ⟨c, hc⟩ := own_ty ho hg
    exact ty_neq hc h41 rfl e
  refine ⟨(h.k0.from0' ap.kp fun i hi e => ?_).from0' s.kp fun i hi e => ?_, no h.h5 rfl (ty_neq h.h5 h.h4 rfl), no h.hs rfl (ty_neq h.hs h.h4 rfl), no h.h3 rfl (ty_neq h.h3 h.h4 rfl),
    ⟨h.bk.len, no h.bk.blk rfl h.ne.symm, fun i v l a b => row (own_kp (h.bk.own i v l a b) ap.kp fun g hg e => h.dj v (List.mem_of_getElem? a) g hg e.symm), h.bk.dj⟩, no h.h6 rfl (ty_neq h.h6 h.h4 rfl), s.blk, ?_, fun v hv b hb hb2 => ?_, h.sl, h.ne, h.ge⟩
  · have := (own_lt h.ho e.symm).1; omega
  · have := h.ge.2; omega
  · rw [List.length_append, List.map_append]
    exact row ap.own
  · rcases ap.row b hb2 with h1 | h1
    · exact h.dj v hv b hb h1
    · obtain ⟨i, hi⟩ := List.getElem?_of_mem hv
      have hir : i < V.back.length := by rw [← h.bk.len]; exact (List.getElem?_eq_some_iff.1 hi).1
      have := (own_lt (h.bk.own i v _ hi (List.getElem?_eq_getElem hir)) hb).2
      omega
theorem Vw.bl (h : Vw V w st os) {a : Int} (ha : Nd V.back.length a) {v : Sl} (hv : V.vs[a.toNat]? = some v) : LI w v.v (gl V.back a) := by
  have hlt : a.toNat < V.back.length := by have := ha.1; have := ha.2; omega
  have hg : V.back[a.toNat]? = some (gl V.back a) := by unfold gl; rw [List.getD_eq_getElem?_getD, List.getElem?_eq_getElem hlt]; rfl
  exact own_lo (h.bk.own _ _ _ hv hg) (Nat.zero_le _)
theorem Vw.bc (h : Vw V w st os) {a : Int} {v : Sl} (hv : V.vs[a.toNat]? = some v) : w.cell? ⟨V.gb, 0 + a.toNat * 1, none⟩ = some v.v := by
  have := blk_cells h.bk.blk a.toNat v.v (by rw [List.getElem?_map, hv]; rfl)
  rw [show 0 + a.toNat * 1 = 0 + a.toNat by omega]; exact this
theorem vis_cnt {N : Nat} {back : List (List Int)} (hb : ∀ y, Nd N y → ∀ z ∈ gl back y, Nd N z) : ∀ (n : Nat) (a : Int) (st : SO), st.1.length = N → Nd N a → gb st.1 a = false → (vis back n a st).1.length = N ∧ (vis back n a st).2.length + uns (vis back n a st).1 ≤ st.2.length + uns st.1 := by
  have rows : ∀ n, (∀ (a : Int) (st : SO), st.1.length = N → Nd N a → gb st.1 a = false → (vis back n a st).1.length = N ∧ (vis back n a st).2.length + uns (vis back n a st).1 ≤ st.2.length + uns st.1) →
      ∀ (l : List Int) (st : SO), st.1.length = N → (∀ y ∈ l, Nd N y) → (visR back n l st).1.length = N ∧ (visR back n l st).2.length + uns (visR back n l st).1 ≤ st.2.length + uns st.1 := by
    intro n hv l
    induction l with
    | nil => intro st hl _; exact ⟨hl, Nat.le_refl _⟩
    | cons y l ih =>
      intro st hl hn
      rw [visR_cons]
      by_cases e : gb st.1 y = true
      · rw [if_pos e]
        exact ih st hl fun z hz => hn z (List.mem_cons_of_mem _ hz)
      · rw [if_neg e]
        obtain ⟨h1, h2⟩ := hv y st hl (hn y List.mem_cons_self) (by simpa using e)
        obtain ⟨h3, h4⟩ := ih _ h1 fun z hz => hn z (List.mem_cons_of_mem _ hz)
        exact ⟨h3, Nat.le_trans h4 h2⟩
  intro n
  induction n with
  | zero => intro a st hl _ _; exact ⟨hl, Nat.le_refl _⟩
  | succ n ih =>
    intro a st hl ha hg
    have hu := uns_pos hl ha hg
    obtain ⟨h1, h2⟩ := rows n ih (gl back a) (st.1.set a.toNat true, st.2) (by simp [hl]) (hb a ha)
    rw [vis_succ]
    refine ⟨h1, ?_⟩
    show ((visR back n (gl back a) (st.1.set a.toNat true, st.2)).2 ++ [a]).length + uns (visR back n (gl back a) (st.1.set a.toNat true, st.2)).1 ≤ _
    have h2 : (visR back n (gl back a) (st.1.set a.toNat true, st.2)).2.length + uns (visR back n (gl back a) (st.1.set a.toNat true, st.2)).1 ≤ st.2.length + uns (st.1.set a.toNat true) := h2
    rw [List.length_append, List.length_singleton]
    omega
set_option maxHeartbeats 2000000 in
theorem visF (hN : V.N ≤ 1000) (hlen : V.back.length = V.N) (hb : ∀ y, Nd V.N y → ∀ z ∈ gl V.back y, Nd V.N z) : ∀ (n : Nat) (a : Int) (st : SO) (os : Sl) (w : World), Vw V w st os → Nd V.N a → gb st.1 a = false → uns st.1 ≤ n → st.2.length + uns st.1 ≤ V.N →
    Ret Try.prog 40 [.int .i64 a, .pointer (some ⟨V.s5, 0, none⟩), .pointer (some ⟨V.b3, 0, none⟩), .pointer (some ⟨V.b6, 0, none⟩), .pointer (some ⟨V.b4, 0, none⟩)] w (fun v w1 => v = .tuple #[] ∧ ∃ os', Vw V w1 (vis V.back n a st) os') := by
  intro n
  induction n with
  | zero =>
    intro a st os w h ha hg hu
    have := uns_pos (N := V.N) h.sl ha hg
    omega
  | succ n ih =>
  intro a st os w h ha hg hu hle
  have ha0 := ha.1
  have haN := ha.2
  have hu1 := uns_pos (N := V.N) h.sl ha hg
  rw [vis_succ]
  refine ret_enter Try.func40 rfl Try.ntmps40 rfl ?_
  have h5 := h.h5
  (repeat refine Zlr ?_)
  refine s_v (r_ia (size := 1) rfl rfl rfl rfl (by omega) (by omega)) ?_
  refine s_st (vs := [.bool true]) rfl rfl rfl rfl rfl h.hs (by rw [List.length_map, h.sl]; show _ + 1 ≤ _; omega) (fun w1 s1 => ?_)
  have hsl := h.sl
  have s1 : Sb w V.gs ((st.1.set a.toNat true).map Value.bool) tBool w1 := by
    rw [← setAt_b _ _ _ (by omega)]
    rw [show a.toNat = 0 + a.toNat * 1 by omega]
    exact s1
  have H := h.see (by rw [List.length_set]; exact hsl) s1
  obtain ⟨v, hv⟩ : ∃ v, V.vs[a.toNat]? = some v := ⟨_, List.getElem?_eq_getElem (by rw [h.bk.len, hlen]; omega)⟩
  have haB : Nd V.back.length a := by rw [hlen]; exact ha
  obtain ⟨la, lc, ev, _⟩ := li_at (H.bl haB hv)
  obtain ⟨L, hL⟩ : ∃ L, gl V.back a = L := ⟨_, rfl⟩
  have hLn : ∀ z ∈ L, Nd V.N z := by rw [← hL]; exact hb a ha
  rw [hL] at ev ⊢
  have hbc := H.bc hv
  rw [ev] at hbc
  clear h5 s1
  have h3 := H.h3
  (repeat refine Zlr ?_)
  refine s_v (r_ia (size := 1) rfl rfl rfl rfl (by omega) (by omega)) ?_
  refine s_v (r_ld rfl rfl hbc) ?_
  (repeat refine Zlr ?_)
  obtain ⟨st1, hst1⟩ : ∃ st1 : SO, (st.1.set a.toNat true, st.2) = st1 := ⟨_, rfl⟩
  have hu2 : uns st1.1 ≤ n := by rw [← hst1]; show uns (st.1.set a.toNat true) ≤ n; omega
  have hle1 : st1.2.length + uns st1.1 + 1 ≤ V.N := by rw [← hst1]; show st.2.length + uns (st.1.set a.toNat true) + 1 ≤ V.N; omega
  rw [hst1] at H ⊢
  have hLl : L.length ≤ 9223372036854775807 := by have := own_mx (H.bl haB hv); rw [hL] at this; unfold maxLen at this; omega
  refine k_loop (σ := Nat × SO × Sl) (fun t => [(0, .int .i64 a), (1, .pointer (some ⟨V.s5, 0, none⟩)), (3, .pointer (some ⟨V.b6, 0, none⟩)), (4, .pointer (some ⟨V.b4, 0, none⟩)), (14, .slice la L.length lc), (15, .int .i64 (L.length : Int)), (16, .int .i64 (t.1 : Int))])
    (fun t w' => t.1 ≤ L.length ∧ uns t.2.1.1 ≤ n ∧ t.2.1.2.length + uns t.2.1.1 + 1 ≤ V.N ∧ visR V.back n (L.drop t.1) t.2.1 = visR V.back n L st1 ∧ Vw V w' t.2.1 t.2.2) (fun t => L.length - t.1) (0, st1, os) ⟨rfl, rfl, rfl, rfl, rfl, rfl, rfl, trivial⟩
    ⟨Nat.zero_le _, hu2, hle1, by rw [List.drop_zero], H⟩ ?_
  clear H hbc h3 hu2 hle1
  rintro ⟨i, st2, os2⟩ l3 w3 ⟨hi, hu2, hle2, hvr, H⟩
  simp only at hi hu2 hle2 hvr H
  try dsimp only
  have h5 := H.h5
  have h6 := H.h6
  have h4 := H.h4
  (repeat refine Zlr ?_)
  refine c_dec rfl (fun hlt => ?_) (fun hge => ?_)
  · have hlt : i < L.length := by omega
    obtain ⟨y, hy⟩ : ∃ y, L[i]? = some y := ⟨_, List.getElem?_eq_getElem hlt⟩
    have hyn := hLn y (List.mem_of_getElem? hy)
    have hy0 := hyn.1
    have hyN := hyn.2
    have hbl := H.bl haB hv
    rw [ev, hL] at hbl
    obtain ⟨_, _, e, hlat⟩ := li_at hbl
    cases e
    obtain ⟨lg, hla, hlc⟩ := hlat i y hy
    have hls : Value.slice la L.length lc = .slice (some ⟨lg, 0, none⟩) L.length lc := by rw [hla]
    rw [List.drop_eq_getElem_cons hlt] at hvr
    have ej : L[i] = y := by rw [List.getElem?_eq_getElem hlt] at hy; exact Option.some.inj hy
    rw [ej, visR_cons] at hvr
    obtain ⟨sb, hsb⟩ : ∃ sb, st2.1[y.toNat]? = some sb := ⟨_, List.getElem?_eq_getElem (by rw [H.sl]; omega)⟩
    have hgb : gb st2.1 y = sb := by unfold gb; rw [List.getD_eq_getElem?_getD, hsb]; rfl
    have hsc : w3.cell? ⟨V.gs, 0 + y.toNat * 1, none⟩ = some (.bool sb) := by
      have := blk_cells H.hs y.toNat (.bool sb) (by rw [List.getElem?_map, hsb]; rfl)
      rw [show 0 + y.toNat * 1 = 0 + y.toNat by omega]; exact this
    rw [hgb] at hvr
    have hsl2 := H.sl
    (repeat refine Zlr ?_)
    refine s_v (r_ia (size := 1) rfl rfl hls rfl (by omega) (by omega)) ?_
    refine s_v (r_ld rfl rfl (hlc _ (Kp.refl _ _))) ?_
    (repeat refine Zlr ?_)
    refine s_v (r_ia (size := 1) rfl rfl rfl rfl (by omega) (by omega)) ?_
    refine s_v (r_ld rfl rfl hsc) ?_
    (repeat refine Zlr ?_)
    cases sb with
    | true =>
      refine c_f rfl ?_
      (repeat refine Zlr ?_)
      exact l_next (i + 1, st2, os2) ⟨rfl, rfl, rfl, rfl, rfl, rfl, rfl, trivial⟩ ⟨hlt, hu2, hle2, hvr, H⟩ (by show L.length - (i + 1) < L.length - i; omega)
    | false =>
      rw [if_neg (by decide)] at hvr
      refine c_t rfl ?_
      (repeat refine Zlr ?_)
      refine s_call (us := []) (zs := [.pointer (some ⟨V.s5, 0, none⟩), .pointer (some ⟨V.b3, 0, none⟩), .pointer (some ⟨V.b6, 0, none⟩), .pointer (some ⟨V.b4, 0, none⟩)]) (by kernel_rfl) rfl rfl (ih y st2 os2 w3 H hyn hgb hu2 (by omega)) ?_
      rintro _ w4 ⟨rfl, os4, H⟩
      obtain ⟨new, hvs, _, _⟩ := (visS hb n).1 y st2 hsl2 hyn hgb hu2
      (repeat refine Zlr ?_)
      refine l_next (i + 1, vis V.back n y st2, os4) ⟨rfl, rfl, rfl, rfl, rfl, rfl, rfl, trivial⟩ ⟨hlt, Nat.le_trans hvs.un hu2, ?_, hvr, H⟩ (by show L.length - (i + 1) < L.length - i; omega)
      have := (vis_cnt hb n y st2 hsl2 hyn hgb).2
      show (vis V.back n y st2).2.length + uns (vis V.back n y st2).1 + 1 ≤ V.N
      omega
  · have hi : i = L.length := by omega
    subst hi
    rw [List.drop_length] at hvr
    have hvr : st2 = visR V.back n L st1 := hvr
    rw [← hvr]
    (repeat refine Zlr ?_)
    refine s_bs (cs := [.int .i64 a]) (e := tInt) rfl (fun b9 w4 n9 => ?_)
    have H := H.no n9.kp
    have h9 := n9.blk
    refine s_app (v0 := os2.v) (k := st2.2.length) (m := 1) (size := 1) (bytes := 8) (base := V.wB.heap.size) (xs := st2.2.map (Value.int .i64)) (news := [.int .i64 a]) rfl rfl rfl rfl rfl rfl rfl rfl H.ho rfl (blk_cells h9) rfl rfl (by omega) (by omega) H.k0.size ?_
    intro v7 w7 ap
    obtain ⟨a9, c9, e9, _⟩ := own_read ap.own
    subst e9
    have h47 := ap.get H.ho H.h4 rfl
    (repeat refine Zlr ?_)
    refine s_st (vs := [.slice a9 (st2.2.length + 1) c9]) rfl rfl rfl rfl rfl h47 (Nat.le_of_ble_eq_true rfl) (fun w8 s => ?_)
    have H := H.put (os' := ⟨a9, st2.2.length + 1, c9⟩) ap s
    refine k_nil ?_
    exact end_0 rfl ⟨rfl, _, H⟩
end
end Go.Proofs.Ytkllhfajldnpoaa.Ck
namespace Go.Proofs.Ytkllhfajldnpoaa.Ck
open Go Go.RowKit Fw Sy Rf Fn
set_option linter.unusedVariables false
set_option maxRecDepth 20000
theorem setAt_one (cs : List Value) (i : Nat) (u : Value) (hi : i < cs.length) : setAt cs i [u] = cs.set i u := by
  rw [setAt_eq _ _ _ (by simp; omega), List.set_eq_take_append_cons_drop, if_pos hi]
  simp
/-- So many turned at both ends. -/
def Half (l m : List Int) (i : Nat) : Prop := m.length = l.length ∧ ∀ k, k < l.length → m[k]? = if k < i ∨ l.length - i ≤ k then l[l.length - 1 - k]? else l[k]?
theorem half_0 (l : List Int) : Half l l 0 := ⟨rfl, fun k hk => by rw [if_neg (by omega)]⟩
theorem half_step {l m : List Int} {i : Nat} {x y : Int} (h : Half l m i) (hi : i < l.length - 1 - i) (hx : m[i]? = some x) (hy : m[l.length - 1 - i]? = some y) : Half l ((m.set i y).set (l.length - 1 - i) x) (i + 1) := by
  obtain ⟨h1, h2⟩ := h
  have ex : l[i]? = some x := by rw [h2 i (by omega), if_neg (by omega)] at hx; exact hx
  have ey : l[l.length - 1 - i]? = some y := by rw [h2 _ (by omega), if_neg (by omega)] at hy; exact hy
  refine ⟨by simp [h1], fun k hk => ?_⟩
  rw [List.getElem?_set, List.getElem?_set]
  simp only [List.length_set]
  by_cases e1 : l.length - 1 - i = k
  · rw [if_pos e1, if_pos (by omega), if_pos (by omega), ← e1, show l.length - 1 - (l.length - 1 - i) = i by omega, ex]
  · rw [if_neg e1]
    by_cases e2 : i = k
    · rw [if_pos e2, if_pos (by omega), if_pos (by omega), ← e2, ey]
    · rw [if_neg e2, h2 k hk]
      by_cases e3 : k < i ∨ l.length - i ≤ k
      · rw [if_pos e3, if_pos (by omega)]
      · rw [if_neg e3, if_neg (by omega)]
theorem half_end {l m : List Int} {i : Nat} (h : Half l m i) (hi : l.length - 1 - i ≤ i) : m = l.reverse := by
  obtain ⟨h1, h2⟩ := h
  apply List.ext_getElem?
  intro k
  by_cases hk : k < l.length
  · rw [h2 k hk, List.getElem?_reverse hk]
    split
    · rfl
    · rw [show l.length - 1 - k = k by omega]
  · rw [List.getElem?_eq_none (by omega), List.getElem?_eq_none (by simp; omega)]
set_option maxHeartbeats 2000000 in
theorem reverseF (l : List Int) {base : Nat} {sa : Option Addr} {sc : Nat} {w : World} (hl : l.length ≤ 1000000) (ho : w.ownsRow base tInt 1 (.slice sa l.length sc) l.length (l.map (Value.int .i64))) :
    Ret Try.prog 41 [.slice sa l.length sc] w (fun u w1 => u = .tuple #[] ∧ w1.ownsRow base tInt 1 (.slice sa l.length sc) l.length (l.reverse.map (Value.int .i64)) ∧ Kp (fun i => (Value.slice sa l.length sc).ownBlock = some i) w w1) := by
  refine ret_enter Try.func41 rfl Try.ntmps41 rfl ?_
  (repeat refine Zlr ?_)
  refine k_loop (σ := Nat × List Int) (fun t => [(0, .slice sa l.length sc), (2, .int .i64 (t.1 : Int)), (3, .int .i64 ((l.length : Int) - 1 - t.1))])
    (fun t w' => t.1 ≤ l.length ∧ Half l t.2 t.1 ∧ w'.ownsRow base tInt 1 (.slice sa l.length sc) l.length (t.2.map (Value.int .i64)) ∧ Kp (fun i => (Value.slice sa l.length sc).ownBlock = some i) w w') (fun t => l.length - t.1) (0, l) ⟨rfl, rfl, by simp; rfl, trivial⟩ ⟨Nat.zero_le _, half_0 l, ho, Kp.refl _ _⟩ ?_
  clear ho
  rintro ⟨i, m⟩ l3 w3 ⟨hi, hh, ho, k3⟩
  simp only at hi hh ho k3
  try dsimp only
  (repeat refine Zlr ?_)
  refine c_dec rfl (fun hlt => ?_) (fun hge => ?_)
  · have hlt : i < l.length - 1 - i := by omega
    have hml := hh.1
    obtain ⟨j, hj⟩ : ∃ j, l.length - 1 - i = j := ⟨_, rfl⟩
    have ej : (l.length : Int) - 1 - i = (j : Int) := by omega
    obtain ⟨x, hx⟩ : ∃ x, m[i]? = some x := ⟨_, List.getElem?_eq_getElem (by omega)⟩
    obtain ⟨y, hy⟩ : ∃ y, m[j]? = some y := ⟨_, List.getElem?_eq_getElem (by omega)⟩
    obtain ⟨g, cur, ha, hbg, hcur, hcl, _⟩ := own_put (k := i) ho (by rw [List.length_map]; omega)
    subst ha
    obtain ⟨_, cur', ha', _, hcur', hcl', _⟩ := own_put (k := j) ho (by rw [List.length_map]; omega)
    cases ha'
    obtain ⟨_, _, e9, _, _, hrd⟩ := own_read ho
    cases e9
    obtain ⟨_, e8, _, _, hrd⟩ := hrd _ rfl
    cases e8
    have cx : w3.cell? ⟨g, 0 + (i : Int).toNat * 1, none⟩ = some (.int .i64 x) := by
      rw [show 0 + (i : Int).toNat * 1 = 0 + i by omega]; exact hrd i _ (by rw [List.getElem?_map, hx]; rfl)
    have cy : w3.cell? ⟨g, 0 + (j : Int).toNat * 1, none⟩ = some (.int .i64 y) := by
      rw [show 0 + (j : Int).toNat * 1 = 0 + j by omega]; exact hrd j _ (by rw [List.getElem?_map, hy]; rfl)
    simp only [ej]
    (repeat refine Zlr ?_)
    refine k_ht (fun _ => True) 99 (by kernel_rfl) (fun m1 k1 _ => ?_)
    have cx := k1.cell0 cx
    have cy := k1.cell0 cy
    have ho := own_kp ho k1 fun _ _ h => h
    refine t_q (i := 0) (by exact waits_of_out (by kernel_rfl)) (by kernel_rfl) rfl (by kernel_rfl) (by kernel_rfl) trivial (fun w' hw => r_mv rfl) ?_
    refine t_q (i := 1) (by exact waits_of_out (by kernel_rfl)) (by kernel_rfl) rfl (by kernel_rfl) (by kernel_rfl) trivial (fun w' hw => r_mv rfl) ?_
    refine t_q (i := 2) (by exact waits_of_out (by kernel_rfl)) (by kernel_rfl) rfl (by kernel_rfl) (by kernel_rfl) trivial (fun w' hw => r_mv rfl) ?_
    refine t_q (i := 3) (by exact waits_of_out (by kernel_rfl)) (by kernel_rfl) rfl (by kernel_rfl) (by kernel_rfl) trivial (fun w' hw => r_mv rfl) ?_
    refine t_q (i := 4) (by exact waits_of_out (by kernel_rfl)) (by kernel_rfl) rfl (by kernel_rfl) (by kernel_rfl) trivial (fun w' hw => r_mv rfl) ?_
    refine t_q (i := 5) (by exact waits_of_out (by kernel_rfl)) (by kernel_rfl) rfl (by kernel_rfl) (by kernel_rfl) trivial (fun w' hw => r_mv rfl) ?_
    refine t_q (i := 6) (by exact waits_of_out (by kernel_rfl)) (by kernel_rfl) rfl (by kernel_rfl) (by kernel_rfl) trivial (fun w' hw => r_ia (size := 1) rfl rfl rfl rfl (by omega) (by omega)) ?_
    refine t_q (i := 8) (by exact waits_of_out (by kernel_rfl)) (by kernel_rfl) rfl (by kernel_rfl) (by kernel_rfl) trivial (fun w' hw => r_mv rfl) ?_
    refine t_q (i := 9) (by exact waits_of_out (by kernel_rfl)) (by kernel_rfl) rfl (by kernel_rfl) (by kernel_rfl) trivial (fun w' hw => r_mv rfl) ?_
    refine t_q (i := 10) (by exact waits_of_out (by kernel_rfl)) (by kernel_rfl) rfl (by kernel_rfl) (by kernel_rfl) trivial (fun w' hw => r_ia (size := 1) rfl rfl rfl rfl (by omega) (by omega)) ?_
    refine t_2 (i := 7) (i2 := 11) (by kernel_rfl) ?_ ?_
    · refine ts_o (ord := [(11, true), (12, false), (13, true), (14, false), (15, true)]) (by exact waits_of_out (by kernel_rfl)) (by kernel_rfl) rfl (by kernel_rfl) rfl rfl ?_
      refine h_w (r_ld rfl rfl cy) (fun _ => trivial) ?_
      refine h_w (r_ld rfl rfl cx) (fun _ => trivial) ?_
      refine h_v trivial (fun w' hw => r_ia (size := 1) rfl rfl rfl rfl (by omega) (by omega)) ?_
      obtain ⟨_, cu, e7, _, hcu, hcul, hput⟩ := own_put (k := i) ho (by rw [List.length_map]; omega)
      cases e7
      refine h_st (vs := [.int .i64 y]) rfl rfl rfl rfl rfl hcu (by show _ + 1 ≤ _; omega) (fun w4 s4 => ⟨fun _ => trivial, ?_⟩)
      have s4 : Sb m1 g (cu.set i (.int .i64 y)) tInt w4 := by
        rw [← setAt_one _ _ _ hcul]
        rw [show i = 0 + (i : Int).toNat * 1 by omega]
        exact s4
      have ho4 := hput w4 _ s4
      refine h_v trivial (fun w' hw => r_ia (size := 1) rfl rfl rfl rfl (by omega) (by omega)) ?_
      obtain ⟨_, cu5, e7, _, hcu5, hcul5, hput5⟩ := own_put (k := j) ho4 (by rw [List.length_set, List.length_map]; omega)
      cases e7
      refine h_st (vs := [.int .i64 x]) rfl rfl rfl rfl rfl hcu5 (by show _ + 1 ≤ _; omega) (fun w5 s5 => ⟨fun _ => trivial, ?_⟩)
      have s5 : Sb w4 g (cu5.set j (.int .i64 x)) tInt w5 := by
        rw [← setAt_one _ _ _ hcul5]
        rw [show j = 0 + (j : Int).toNat * 1 by omega]
        exact s5
      have ho5 := hput5 w5 _ s5
      refine h_nil ?_
      (repeat refine Zlr ?_)
      refine l_next (i + 1, (m.set i y).set j x) ⟨rfl, rfl, ?_, trivial⟩ ⟨by show i + 1 ≤ l.length; omega, by rw [← hj]; exact half_step hh hlt hx (by rw [hj]; exact hy), by rw [List.map_set, List.map_set]; exact ho5, ((k3.no k1).trans s4.kp fun q _ e => by rw [e]; rfl).trans s5.kp fun q _ e => by rw [e]; rfl⟩ (by show l.length - (i + 1) < l.length - i; omega)
      show Value.int .i64 _ = Value.int .i64 _
      congr 1
      simp only
      omega
    · refine ts_o (ord := [(7, true), (12, false), (13, true), (14, false), (15, true)]) (by exact waits_of_out (by kernel_rfl)) (by kernel_rfl) rfl (by kernel_rfl) rfl rfl ?_
      refine h_w (r_ld rfl rfl cx) (fun _ => trivial) ?_
      refine h_w (r_ld rfl rfl cy) (fun _ => trivial) ?_
      refine h_v trivial (fun w' hw => r_ia (size := 1) rfl rfl rfl rfl (by omega) (by omega)) ?_
      obtain ⟨_, cu, e7, _, hcu, hcul, hput⟩ := own_put (k := i) ho (by rw [List.length_map]; omega)
      cases e7
      refine h_st (vs := [.int .i64 y]) rfl rfl rfl rfl rfl hcu (by show _ + 1 ≤ _; omega) (fun w4 s4 => ⟨fun _ => trivial, ?_⟩)
      have s4 : Sb m1 g (cu.set i (.int .i64 y)) tInt w4 := by
        rw [← setAt_one _ _ _ hcul]
        rw [show i = 0 + (i : Int).toNat * 1 by omega]
        exact s4
      have ho4 := hput w4 _ s4
      refine h_v trivial (fun w' hw => r_ia (size := 1) rfl rfl rfl rfl (by omega) (by omega)) ?_
      obtain ⟨_, cu5, e7, _, hcu5, hcul5, hput5⟩ := own_put (k := j) ho4 (by rw [List.length_set, List.length_map]; omega)
      cases e7
      refine h_st (vs := [.int .i64 x]) rfl rfl rfl rfl rfl hcu5 (by show _ + 1 ≤ _; omega) (fun w5 s5 => ⟨fun _ => trivial, ?_⟩)
      have s5 : Sb w4 g (cu5.set j (.int .i64 x)) tInt w5 := by
        rw [← setAt_one _ _ _ hcul5]
        rw [show j = 0 + (j : Int).toNat * 1 by omega]
        exact s5
      have ho5 := hput5 w5 _ s5
      refine h_nil ?_
      (repeat refine Zlr ?_)
      refine l_next (i + 1, (m.set i y).set j x) ⟨rfl, rfl, ?_, trivial⟩ ⟨by show i + 1 ≤ l.length; omega, by rw [← hj]; exact half_step hh hlt hx (by rw [hj]; exact hy), by rw [List.map_set, List.map_set]; exact ho5, ((k3.no k1).trans s4.kp fun q _ e => by rw [e]; rfl).trans s5.kp fun q _ e => by rw [e]; rfl⟩ (by show l.length - (i + 1) < l.length - i; omega)
      show Value.int .i64 _ = Value.int .i64 _
      congr 1
      simp only
      omega
  · rw [← half_end hh (by omega)]
    (repeat refine Zlr ?_)
    exact end_0 rfl ⟨rfl, ho, k3⟩
end Go.Proofs.Ytkllhfajldnpoaa.Ck
namespace Go.Proofs.Ytkllhfajldnpoaa.Ck
open Go Go.RowKit Fw Sy Rf Fn
set_option linter.unusedVariables false
set_option maxRecDepth 20000
abbrev tFen : TypeId := 61
theorem Bk.box {base g b : Nat} {w w1 : World} {vs : List Sl} {rs : List (List Int)} {cs : Array Value} {T : TypeId} (h : Bk base w g vs rs) (k : Kp (fun i => i = b) w w1) (hb : w.heap[b]? = some (.cells cs T (0, 0))) (h1 : Nat.beq tInt T = false) (h2 : Nat.beq tInts T = false) : Bk base w1 g vs rs :=
  ⟨h.len, k.get h.blk (ty_neq h.blk hb h2), fun i v l a c => own_kp (h.own i v l a c) k fun q hq e => by
    obtain ⟨c, hc⟩ := own_ty (h.own i v l a c) hq
    exact ty_neq hc hb h1 e, h.dj⟩
section
variable {nx : List (List Int)}
set_option maxHeartbeats 2000000 in
theorem finishF (W : Wel nx) {w : World} {fs : Sl} {va : Option Addr} {vc bt go : Nat} {nv : Value} (hN : NX w (.slice va nx.length vc) nx) (hb : nx.length ≤ 1000)
    (ht : w.heap[bt]? = some (.cells [fs.v, .slice va nx.length vc, nv, .slice (some ⟨go, 0, none⟩) nx.length nx.length].toArray tFen (0, 0))) (hgo : w.heap[go]? = some (.cells ((List.replicate nx.length (0 : Int)).map (Value.int .i64)).toArray tInt (0, 0))) :
    Ret Try.prog 28 [.pointer (some ⟨bt, 0, none⟩)] w (fun u w1 => LI w1 u (finL nx) ∧ (∀ g, u.ownBlock = some g → w.heap.size ≤ g) ∧ w1.heap[go]? = some (.cells ((ordO nx).map (Value.int .i64)).toArray tInt (0, 0)) ∧ Kp (fun i => i = go) w w1) := by
  refine ret_enter Try.func28 rfl Try.ntmps28 rfl ?_
  (repeat refine Zlr ?_)
  refine s_v (r_ldb (vs := [fs.v, .slice va nx.length vc]) rfl rfl rfl ht rfl rfl) ?_
  (repeat refine Zlr ?_)
  refine s_call (us := []) (zs := []) (by kernel_rfl) rfl rfl (backF W hN hb) ?_
  rintro _ w1 ⟨gb, vs, rfl, hB, hgb, k1⟩
  have G := (Lw.start w).no k1
  (repeat refine Zlr ?_)
  refine s_al rfl (fun b3 w2 n3 => ?_)
  have G := G.new n3
  have hB := hB.no n3.kp
  have h3 := n3.blk
  (repeat refine Zlr ?_)
  refine s_st (vs := [.slice (some ⟨gb, 0, none⟩) nx.length nx.length]) rfl rfl rfl rfl rfl h3 (Nat.le_of_ble_eq_true rfl) (fun w3 s3 => ?_)
  have hB := hB.box s3.kp h3 rfl rfl
  have G : Lw w No w3 [(b3, [.slice (some ⟨gb, 0, none⟩) nx.length nx.length], tNX)] := G.put 0 rfl s3
  clear h3
  (repeat refine Zlr ?_)
  refine s_al rfl (fun b4 w4 n4 => ?_)
  have G : Lw w No w4 [(b4, [.slice none 0 0], tInts), (b3, [.slice (some ⟨gb, 0, none⟩) nx.length nx.length], tNX)] := G.new n4
  have n4g : b4 ≠ gb := fun e => by have := lt_of_get hB.blk; have := n4.ge; omega
  have hB := hB.no n4.kp
  have ht4 := G.kE.get0 ht
  (repeat refine Zlr ?_)
  refine s_ms1 (m := nx.length) (c := nx.length) rfl rfl rfl rfl rfl rfl rfl (Nat.le_refl _) (by show 1 * _ ≤ _; omega) (by omega) (fun gs w5 n5 => ?_)
  have n5 : Nb w4 gs ((List.replicate nx.length false).map Value.bool) tBool w5 := by rw [List.map_replicate]; exact n5
  have G := G.new n5
  have hB := hB.no n5.kp
  (repeat refine Zlr ?_)
  refine s_al rfl (fun s5 w6 n6 => ?_)
  have G := G.new n6
  have hB := hB.no n6.kp
  have h6 := n6.blk
  (repeat refine Zlr ?_)
  refine s_st (vs := [.slice (some ⟨gs, 0, none⟩) nx.length nx.length]) rfl rfl rfl rfl rfl h6 (Nat.le_of_ble_eq_true rfl) (fun w7 s7 => ?_)
  have hB := hB.box s7.kp h6 rfl rfl
  have G : Lw w No w7 [(s5, [.slice (some ⟨gs, 0, none⟩) nx.length nx.length], tSB), (gs, (List.replicate nx.length false).map Value.bool, tBool), (b4, [.slice none 0 0], tInts), (b3, [.slice (some ⟨gb, 0, none⟩) nx.length nx.length], tNX)] := G.put 0 rfl s7
  clear h6
  (repeat refine Zlr ?_)
  refine s_al rfl (fun b6 w8 n8 => ?_)
  have G := G.new n8
  have hB := hB.no n8.kp
  have h8 := n8.blk
  (repeat refine Zlr ?_)
  refine s_st (vs := [.func (.func 40) #[] #[.pointer (some ⟨s5, 0, none⟩), .pointer (some ⟨b3, 0, none⟩), .pointer (some ⟨b6, 0, none⟩), .pointer (some ⟨b4, 0, none⟩)]]) rfl rfl rfl rfl rfl h8 (Nat.le_of_ble_eq_true rfl) (fun w9 s9 => ?_)
  have hB := hB.box s9.kp h8 rfl rfl
  have G : Lw w No w9 [(b6, [.func (.func 40) #[] #[.pointer (some ⟨s5, 0, none⟩), .pointer (some ⟨b3, 0, none⟩), .pointer (some ⟨b6, 0, none⟩), .pointer (some ⟨b4, 0, none⟩)]], tVis), (s5, [.slice (some ⟨gs, 0, none⟩) nx.length nx.length], tSB), (gs, (List.replicate nx.length false).map Value.bool, tBool), (b4, [.slice none 0 0], tInts), (b3, [.slice (some ⟨gb, 0, none⟩) nx.length nx.length], tNX)] := G.put 0 rfl s9
  clear h8
  obtain ⟨V, hV⟩ : ∃ V : Vc, V = ⟨w, nx.length, bkL nx, s5, gs, b3, gb, vs, b6, b4⟩ := ⟨_, rfl⟩
  have H : Vw V w9 (List.replicate nx.length false, []) nS := by
    subst hV
    exact ⟨G.kE, G.blk 1 rfl, G.blk 2 rfl, G.blk 4 rfl, hB, G.blk 0 rfl, G.blk 3 rfl, World.ownsRow_nil _ _ _ _, fun v hv b h1 h2 => (by cases h2), List.length_replicate, n4g, (G.bx 2 _ _ _ rfl).1.resolve_left id, (G.bx 3 _ _ _ rfl).1.resolve_left id⟩
  have eN : V.N = nx.length := by rw [hV]
  have eb : V.back = bkL nx := by rw [hV]
  have e5 : V.s5 = s5 := by rw [hV]
  have e6 : V.b6 = b6 := by rw [hV]
  have e4 : V.b4 = b4 := by rw [hV]
  have e7 : V.gs = gs := by rw [hV]
  have ew : V.wB = w := by rw [hV]
  have e3 : V.b3 = b3 := by rw [hV]
  have hbn : ∀ y, Nd V.N y → ∀ z ∈ gl V.back y, Nd V.N z := fun y hy z hz => by
    rw [eN] at hy ⊢
    rw [eb] at hz
    exact ((bkL_mem rfl W.to hy).1 hz).1
  have hbl : V.back.length = V.N := by rw [eb, eN, bkL_len]
  have ht9 := G.kE.get0 ht
  clear G hB n3 n4 n5 n6 n8 s3 s7 s9 ht4 k1
  (repeat refine Zlr ?_)
  refine k_loop (σ := Nat × SO × Sl) (fun t => [(0, .pointer (some ⟨bt, 0, none⟩)), (4, .pointer (some ⟨b4, 0, none⟩)), (5, .pointer (some ⟨s5, 0, none⟩)), (6, .pointer (some ⟨b6, 0, none⟩)), (28, .slice va nx.length vc), (29, .int .i64 (nx.length : Int)), (30, .int .i64 (t.1 : Int))])
    (fun t w' => t.1 ≤ nx.length ∧ t.2.1.2.length + uns t.2.1.1 ≤ nx.length ∧ finA (bkL nx) nx (nx.length + 1) t.1 (nx.drop t.1) t.2.1 = finA (bkL nx) nx (nx.length + 1) 0 nx (List.replicate nx.length false, []) ∧ Vw V w' t.2.1 t.2.2) (fun t => nx.length - t.1) (0, (List.replicate nx.length false, []), nS) ⟨rfl, rfl, rfl, rfl, rfl, rfl, rfl, trivial⟩
    ⟨Nat.zero_le _, by show 0 + uns (List.replicate nx.length false) ≤ nx.length; unfold uns; have := List.countP_le_length (p := fun b : Bool => !b) (l := List.replicate nx.length false); rw [List.length_replicate] at this; omega, by rw [List.drop_zero], H⟩ ?_
  clear H ht9
  rintro ⟨i, st, os⟩ l3 w3 ⟨hi, hle, hfa, H⟩
  simp only at hi hle hfa H
  try dsimp only
  have h5 := H.h5
  have h6 := H.h6
  rw [e5, e7, eN] at h5
  rw [e6] at h6
  unfold Vc.fn at h6
  have kw : Kp No w w3 := by have := H.k0; rw [ew] at this; exact this
  have hsl := H.sl
  rw [eN] at hsl
  (repeat refine Zlr ?_)
  refine c_dec rfl (fun hlt => ?_) (fun hge => ?_)
  · have hlt : i < nx.length := by omega
    have hni : Nd nx.length (i : Int) := ⟨by omega, by omega⟩
    obtain ⟨vg, la, lc, rfl, hl, hvc⟩ := hN.at_ hni
    obtain ⟨L, hL⟩ : ∃ L, gl nx (i : Int) = L := ⟨_, rfl⟩
    have eL : nx[i] = L := by
      rw [← hL]; unfold gl
      rw [List.getD_eq_getElem?_getD, Int.toNat_natCast, List.getElem?_eq_getElem hlt]; rfl
    rw [List.drop_eq_getElem_cons hlt, eL, finA] at hfa
    rw [hL] at hl hvc
    obtain ⟨sb, hsb⟩ : ∃ sb, st.1[i]? = some sb := ⟨_, List.getElem?_eq_getElem (by omega)⟩
    have hgs : Fn.gb st.1 (i : Int) = sb := by unfold Fn.gb; rw [List.getD_eq_getElem?_getD, Int.toNat_natCast, hsb]; rfl
    have hsc : w3.cell? ⟨gs, 0 + (i : Int).toNat * 1, none⟩ = some (.bool sb) := by
      have := blk_cells H.hs i (.bool sb) (by rw [List.getElem?_map, hsb]; rfl)
      rw [e7] at this
      rw [show 0 + (i : Int).toNat * 1 = 0 + i by omega]; exact this
    (repeat refine Zlr ?_)
    refine s_v (r_ia (size := 1) rfl rfl rfl rfl (by omega) (by omega)) ?_
    refine s_v (r_ld rfl rfl (hvc _ kw)) ?_
    (repeat refine Zlr ?_)
    refine s_call (us := []) (zs := []) (by kernel_rfl) rfl rfl (containsF L (-1) (LI.kp hl kw)) ?_
    rintro _ w4 ⟨rfl, k4⟩
    have H := H.no k4
    have h5 := k4.get0 h5
    have h6 := k4.get0 h6
    have hsc := k4.cell0 hsc
    by_cases hx : -1 ∈ L
    · rw [decide_eq_true hx]
      cases sb with
      | true =>
        rw [if_neg (fun h => by rw [hgs] at h; cases h.2)] at hfa
        (repeat (first | refine Zlr ?_ | refine Zn ?_ | refine Zu ?_ | refine Zg ?_ | refine Zgl ?_))
        try (refine s_gv rfl (r_ia (size := 1) rfl rfl rfl rfl (by omega) (by omega)) ?_; (repeat (first | refine Zlr ?_ | refine Zn ?_ | refine Zu ?_ | refine Zg ?_ | refine Zgl ?_)))
        refine c_f rfl ?_
        (repeat refine Zlr ?_)
        exact l_next (i + 1, st, os) ⟨rfl, rfl, rfl, rfl, rfl, rfl, rfl, trivial⟩ ⟨hlt, hle, hfa, H⟩ (by show nx.length - (i + 1) < nx.length - i; omega)
      | false =>
        rw [if_pos ⟨hx, hgs⟩] at hfa
        (repeat (first | refine Zlr ?_ | refine Zn ?_ | refine Zu ?_ | refine Zg ?_ | refine Zgl ?_))
        try (refine s_gv rfl (r_ia (size := 1) rfl rfl rfl rfl (by omega) (by omega)) ?_; (repeat (first | refine Zlr ?_ | refine Zn ?_ | refine Zu ?_ | refine Zg ?_ | refine Zgl ?_)))
        refine c_t rfl ?_
        have hcall := visF (by omega) hbl hbn (nx.length + 1) (i : Int) st os w4 H (by rw [eN]; exact hni) hgs (by omega) (by rw [eN]; exact hle)
        have hvc2 := vis_cnt (N := nx.length) (back := bkL nx) (by rw [← eN, ← eb]; exact hbn) (nx.length + 1) (i : Int) st hsl hni hgs
        rw [eb, e5, e3, e6, e4] at hcall
        rw [e5, e3, e6, e4] at h6
        (repeat refine Zlr ?_)
        refine s_call (us := []) (zs := [.pointer (some ⟨s5, 0, none⟩), .pointer (some ⟨b3, 0, none⟩), .pointer (some ⟨b6, 0, none⟩), .pointer (some ⟨b4, 0, none⟩)]) (by kernel_rfl) rfl rfl hcall ?_
        rintro _ w5 ⟨rfl, os5, H⟩
        (repeat refine Zlr ?_)
        exact l_next (i + 1, vis (bkL nx) (nx.length + 1) i st, os5) ⟨rfl, rfl, rfl, rfl, rfl, rfl, rfl, trivial⟩ ⟨hlt, Nat.le_trans hvc2.2 hle, hfa, H⟩ (by show nx.length - (i + 1) < nx.length - i; omega)
    · rw [if_neg (fun h => hx h.1)] at hfa
      rw [decide_eq_false hx]
      (repeat (first | refine Zlr ?_ | refine Zn ?_ | refine Zu ?_ | refine Zg ?_ | refine Zgl ?_))
      refine c_f rfl ?_
      (repeat refine Zlr ?_)
      exact l_next (i + 1, st, os) ⟨rfl, rfl, rfl, rfl, rfl, rfl, rfl, trivial⟩ ⟨hlt, hle, hfa, H⟩ (by show nx.length - (i + 1) < nx.length - i; omega)
  have hi : i = nx.length := by omega
  subst hi
  rw [List.drop_length] at hfa
  have hfa : st = finA (bkL nx) nx (nx.length + 1) 0 nx (List.replicate nx.length false, []) := hfa
  have hL : st.2.reverse = finL nx := by rw [hfa]; rfl
  have F := finL_spec (N := nx.length) rfl W.to W.rx
  have hFl : (finL nx).length = nx.length := nodup_len _ _ F.nodup F.nd
  have hsl2 : st.2.length = nx.length := by rw [← hFl, ← hL, List.length_reverse]
  have ho := H.ho
  rw [ew, hsl2] at ho
  obtain ⟨sa, sc, eo, _⟩ := own_read ho
  have h4 := H.h4
  rw [e4, eo] at h4
  rw [eo] at ho
  have hge := H.ge
  rw [ew, e4] at hge
  have hog : ∀ g, (Value.slice sa nx.length sc).ownBlock = some g → w.heap.size ≤ g := fun g hg => (own_lt ho hg).1
  have hlgo := lt_of_get hgo
  have nbg : bt ≠ go := ty_neq ht hgo rfl
  clear h5 h6 hfa
  have hgb4 := hge.2
  (repeat refine Zlr ?_)
  have hrev := reverseF st.2 (sa := sa) (sc := sc) (w := w3) (base := w.heap.size) (by omega) (by rw [hsl2]; exact ho)
  rw [hsl2, hL] at hrev
  refine s_call (us := []) (zs := []) (by kernel_rfl) rfl rfl hrev ?_
  rintro _ w6 ⟨rfl, ho6, k6⟩
  have h46 : w6.heap[b4]? = some (.cells [Value.slice sa nx.length sc].toArray tInts (0, 0)) := k6.get h4 fun e => by
    obtain ⟨c, hc⟩ := own_ty ho e
    exact ty_neq hc h4 rfl rfl
  have kw6 : Kp No w w6 := kw.from0' k6 fun i hi e => by have := hog i e; omega
  have hgo6 := kw6.get0 hgo
  have ht6 := kw6.get0 ht
  clear H h4 ho kw k6
  (repeat refine Zlr ?_)
  refine k_loop (σ := Nat × List Int) (fun t => [(0, .pointer (some ⟨bt, 0, none⟩)), (4, .pointer (some ⟨b4, 0, none⟩)), (50, .slice sa nx.length sc), (51, .int .i64 (nx.length : Int)), (52, .int .i64 (t.1 : Int))])
    (fun t w' => t.1 ≤ nx.length ∧ t.2.length = nx.length ∧ ordA t.1 ((finL nx).drop t.1) t.2 = ordO nx ∧ w'.heap[go]? = some (.cells (t.2.map (Value.int .i64)).toArray tInt (0, 0)) ∧ w'.heap[b4]? = some (.cells [Value.slice sa nx.length sc].toArray tInts (0, 0)) ∧ w'.ownsRow w.heap.size tInt 1 (.slice sa nx.length sc) nx.length ((finL nx).map (Value.int .i64)) ∧ w'.heap[bt]? = some (.cells [fs.v, .slice va nx.length vc, nv, .slice (some ⟨go, 0, none⟩) nx.length nx.length].toArray tFen (0, 0)) ∧ Kp (fun i => i = go) w w')
    (fun t => nx.length - t.1) (0, List.replicate nx.length 0) ⟨rfl, rfl, rfl, rfl, rfl, trivial⟩ ⟨Nat.zero_le _, List.length_replicate, rfl, hgo6, h46, ho6, ht6, kw6.mono fun _ _ h => h.elim⟩ ?_
  clear hgo6 h46 ho6 ht6 kw6
  rintro ⟨j, od⟩ l4 w7 ⟨hj, hol, hoa, hgo7, h47, ho7, ht7, k7⟩
  simp only at hj hol hoa hgo7 h47 ho7 ht7 k7
  try dsimp only
  (repeat refine Zlr ?_)
  refine c_dec rfl (fun hlj => ?_) (fun hgj => ?_)
  · have hlj : j < nx.length := by omega
    obtain ⟨x, hx⟩ : ∃ x, (finL nx)[j]? = some x := ⟨_, List.getElem?_eq_getElem (by omega)⟩
    have hxn := (F.nd x).1 (List.mem_of_getElem? hx)
    have hx0 := hxn.1
    have hxN := hxn.2
    rw [List.drop_eq_getElem_cons (by omega)] at hoa
    have ej : (finL nx)[j] = x := by rw [List.getElem?_eq_getElem (by omega)] at hx; exact Option.some.inj hx
    rw [ej, ordA] at hoa
    obtain ⟨_, _, e9, _, h09, hrd⟩ := own_read ho7
    cases e9
    obtain ⟨lg, hla, cx⟩ : ∃ lg, sa = some ⟨lg, 0, none⟩ ∧ w7.cell? ⟨lg, 0 + (j : Int).toNat * 1, none⟩ = some (.int .i64 x) := by
      cases sa with
      | none => have := h09 rfl; omega
      | some ad =>
        obtain ⟨g, e8, _, _, hc⟩ := hrd _ rfl
        refine ⟨g, by rw [e8], ?_⟩
        rw [show 0 + (j : Int).toNat * 1 = 0 + j by omega]
        exact hc j _ (by rw [List.getElem?_map, hx]; rfl)
    have hls : Value.slice sa nx.length sc = .slice (some ⟨lg, 0, none⟩) nx.length sc := by rw [hla]
    (repeat refine Zlr ?_)
    refine s_v (r_ia (size := 1) rfl rfl hls rfl (by omega) (by omega)) ?_
    refine s_v (r_ld rfl rfl cx) ?_
    (repeat refine Zlr ?_)
    refine s_v (r_ia (size := 1) rfl rfl rfl rfl (by omega) (by omega)) ?_
    refine s_st (vs := [.int .i64 (j : Int)]) rfl rfl rfl rfl rfl hgo7 (by rw [List.length_map, hol]; show _ + 1 ≤ _; omega) (fun w8 s => ?_)
    have s : Sb w7 go ((od.set x.toNat (j : Int)).map (Value.int .i64)) tInt w8 := by
      rw [List.map_set, ← setAt_one _ _ _ (by rw [List.length_map]; omega)]
      rw [show x.toNat = 0 + x.toNat * 1 by omega]
      exact s
    (repeat refine Zlr ?_)
    refine l_next (j + 1, od.set x.toNat (j : Int)) ⟨rfl, rfl, rfl, rfl, rfl, trivial⟩ ⟨hlj, by rw [List.length_set]; exact hol, hoa, s.blk, s.kp.get h47 (by omega), own_kp ho7 s.kp fun g hg e => ?_, s.kp.get ht7 nbg, k7.trans s.kp fun _ _ h => h⟩ (by show nx.length - (j + 1) < nx.length - j; omega)
    have := (own_lt ho7 hg).1
    omega
  · have hj : j = nx.length := by omega
    subst hj
    rw [show nx.length = (finL nx).length from hFl.symm, List.drop_length] at hoa
    have hoa : od = ordO nx := hoa
    rw [← hoa]
    (repeat refine Zlr ?_)
    refine ret_c1 rfl (rv_t rfl) ⟨?_, hog, hgo7, k7⟩
    show LI w7 (.slice sa nx.length sc) (finL nx)
    unfold LI
    rw [hFl]
    exact own_lo ho7 (Nat.zero_le _)
end
end Go.Proofs.Ytkllhfajldnpoaa.Ck
namespace Go.Proofs.Ytkllhfajldnpoaa.Ck
open Go Go.RowKit Fw Sy Rf Fn
set_option linter.unusedVariables false
set_option maxRecDepth 20000
/-- Where next fences lie: the struct, the lists of it. -/
structure Ft (nx : List (List Int)) (fs : Sl) (va : Option Addr) (vc bt gn go : Nat) (w : World) (nxs : List Int) : Prop where
  bx : w.heap[bt]? = some (.cells [fs.v, .slice va nx.length vc, .slice (some ⟨gn, 0, none⟩) nx.length nx.length, .slice (some ⟨go, 0, none⟩) nx.length nx.length].toArray tFen (0, 0))
  nr : w.heap[gn]? = some (.cells (nxs.map (Value.int .i64)).toArray tInt (0, 0))
  od : w.heap[go]? = some (.cells ((ordO nx).map (Value.int .i64)).toArray tInt (0, 0))
  ln : nxs.length = nx.length
  ne : gn ≠ go
section
variable {nx : List (List Int)} {fs : Sl} {va : Option Addr} {vc bt gn go : Nat} {w w' : World} {nxs : List Int}
theorem Ft.no (h : Ft nx fs va vc bt gn go w nxs) (k : Kp No w w') : Ft nx fs va vc bt gn go w' nxs := ⟨k.get0 h.bx, k.get0 h.nr, k.get0 h.od, h.ln, h.ne⟩
theorem cell_i {g : Nat} {l : List Int} (h : w.heap[g]? = some (.cells (l.map (Value.int .i64)).toArray tInt (0, 0))) {x : Int} (h0 : 0 ≤ x) (hx : x < l.length) : w.cell? ⟨g, 0 + x.toNat * 1, none⟩ = some (.int .i64 (gi l x)) := by
  have hl : x.toNat < l.length := by omega
  have := blk_cells h x.toNat (.int .i64 (gi l x)) (by rw [List.getElem?_map]; unfold gi; rw [List.getD_eq_getElem?_getD, List.getElem?_eq_getElem hl]; rfl)
  rw [show 0 + x.toNat * 1 = 0 + x.toNat by omega]; exact this
theorem ordO_len (W : Wel nx) : (ordO nx).length = nx.length := by unfold ordO Fn.ordL; rw [ordA_len, List.length_replicate]
theorem rk_fa (hg : (gr nx).Ok) {f : Int → Int} (h1 : I1 (gr nx) f) {a : Int} (ha : K (gr nx) f a) (hn : a ≠ -1) : K (gr nx) f (f a) ∧ rk (gr nx) (f a) < rk (gr nx) a := by
  obtain ⟨h2, h3⟩ := ha.resolve_left hn
  obtain ⟨k1, k2⟩ := h1 a h2 h3
  refine ⟨k1, ?_⟩
  have o1 := hg.o0 a h2
  unfold rk
  rw [if_neg hn]
  rcases k2 with k2 | k2
  · rw [if_pos k2]; omega
  · split
    · omega
    · rename_i h4
      have o2 := hg.o0 (f a) (k1.resolve_left h4).1
      omega
set_option maxHeartbeats 2000000 in
theorem meetF (W : Wel nx) (hg : (gr nx).Ok) (hb : nx.length ≤ 1000) (F : Ft nx fs va vc bt gn go w nxs) (h1 : I1 (gr nx) (gi nxs)) {n : Nat} {a b : Int} (ha : K (gr nx) (gi nxs) a) (hbk : K (gr nx) (gi nxs) b) (hn : rk (gr nx) a + rk (gr nx) b < n) :
    Ret Try.prog 42 [.pointer (some ⟨bt, 0, none⟩), .int .i64 a, .int .i64 b] w (fun u w1 => u = .int .i64 (meet (gi (ordO nx)) (gi nxs) n a b) ∧ Kp No w w1) := by
  have hol := ordO_len W
  refine ret_enter Try.func42 rfl Try.ntmps42 rfl ?_
  (repeat refine Zlr ?_)
  refine k_loop (σ := Nat × Int × Int) (fun t => [(0, .pointer (some ⟨bt, 0, none⟩)), (1, .int .i64 t.2.1), (2, .int .i64 t.2.2)])
    (fun t w' => K (gr nx) (gi nxs) t.2.1 ∧ K (gr nx) (gi nxs) t.2.2 ∧ rk (gr nx) t.2.1 + rk (gr nx) t.2.2 < t.1 ∧ meet (gi (ordO nx)) (gi nxs) t.1 t.2.1 t.2.2 = meet (gi (ordO nx)) (gi nxs) n a b ∧ Kp No w w') (fun t => t.1) (n, a, b) ⟨rfl, rfl, rfl, trivial⟩ ⟨ha, hbk, hn, rfl, Kp.refl _ _⟩ ?_
  clear ha hbk hn
  rintro ⟨m, x, y⟩ l2 w2 ⟨hx, hy, hm, he, k2⟩
  simp only at hx hy hm he k2
  try dsimp only
  obtain ⟨m, rfl⟩ : ∃ m', m = m' + 1 := ⟨m - 1, by omega⟩
  rw [Fn.meet] at he
  (repeat refine Zlr ?_)
  refine c_ne rfl (fun hxy => ?_) (fun hxy => ?_)
  · rw [if_neg hxy] at he
    (repeat refine Zlr ?_)
    by_cases h2 : x = -1
    · rw [if_pos (.inl h2)] at he
      refine s_set 20 true rfl (beq_iff_eq.2 h2) ?_
      (repeat (first | refine Zlr ?_ | refine Zn ?_ | refine Zu ?_ | refine Zg ?_ | refine Zgl ?_))
      refine c_t rfl ?_
      (repeat refine Zlr ?_)
      exact ret_c1 rfl (rv_t rfl) ⟨by rw [← he], k2⟩
    refine s_set 20 false rfl (beq_eq_false_iff_ne.2 h2) ?_
    (repeat (first | refine Zlr ?_ | refine Zn ?_ | refine Zu ?_ | refine Zg ?_ | refine Zgl ?_))
    refine c_eq rfl (fun h3 => ?_) (fun h3 => ?_)
    · rw [if_pos (.inr h3)] at he
      (repeat refine Zlr ?_)
      exact ret_c1 rfl (rv_t rfl) ⟨by rw [← he], k2⟩
    rw [if_neg (fun h => h.elim h2 h3)] at he
    have F2 := F.no k2
    obtain ⟨kx, rx⟩ := rk_fa hg h1 hx h2
    obtain ⟨ky, ry⟩ := rk_fa hg h1 hy h3
    have nx0 := (hx.resolve_left h2).1
    have ny0 := (hy.resolve_left h3).1
    have nx0 : 0 ≤ x ∧ x < nx.length := nx0
    have ny0 : 0 ≤ y ∧ y < nx.length := ny0
    have hln := F.ln
    have cx := cell_i F2.nr nx0.1 (by omega)
    have cy := cell_i F2.nr ny0.1 (by omega)
    have dx : ∀ w', Kp No w2 w' → w'.cell? ⟨go, 0 + x.toNat * 1, none⟩ = some (.int .i64 (gi (ordO nx) x)) := fun w' k => k.cell0 (cell_i F2.od nx0.1 (by omega))
    have dy : ∀ w', Kp No w2 w' → w'.cell? ⟨go, 0 + y.toNat * 1, none⟩ = some (.int .i64 (gi (ordO nx) y)) := fun w' k => k.cell0 (cell_i F2.od ny0.1 (by omega))
    have hbx := F2.bx
    (repeat refine Zlr ?_)
    refine k_q (by kernel_rfl) (by kernel_rfl) ?_
    refine q_v (fun w' hw => r_mv rfl) ?_
    refine q_v (fun w' hw => r_nc rfl) ?_
    refine q_v (fun w' hw => r_fa rfl rfl) ?_
    refine q_v (fun w' hw => r_ld rfl rfl (cell_of_blk (hw.get0 hbx) rfl)) ?_
    refine q_v (fun w' hw => r_mv rfl) ?_
    refine q_v (fun w' hw => r_ia (size := 1) rfl rfl rfl rfl (by omega) (by omega)) ?_
    refine q_v (fun w' hw => r_ld rfl rfl (dx w' hw)) ?_
    refine q_v (fun w' hw => r_mv rfl) ?_
    refine q_v (fun w' hw => r_nc rfl) ?_
    refine q_v (fun w' hw => r_fa rfl rfl) ?_
    refine q_v (fun w' hw => r_ld rfl rfl (cell_of_blk (hw.get0 hbx) rfl)) ?_
    refine q_v (fun w' hw => r_mv rfl) ?_
    refine q_v (fun w' hw => r_ia (size := 1) rfl rfl rfl rfl (by omega) (by omega)) ?_
    refine q_v (fun w' hw => r_ld rfl rfl (dy w' hw)) ?_
    refine q_v (fun w' hw => r_bin rfl) ?_
    refine q_v (fun w' hw => r_as rfl) ?_
    refine q_nil (fun w3 k3 => ?_)
    have hbx := k3.get0 hbx
    have cx := k3.cell0 cx
    have cy := k3.cell0 cy
    (repeat refine Zlr ?_)
    refine c_dec rfl (fun h4 => ?_) (fun h4 => ?_)
    · rw [if_pos h4] at he
      (repeat refine Zlr ?_)
      refine s_v (r_ia (size := 1) rfl rfl rfl rfl (by omega) (by omega)) ?_
      refine s_v (r_ld rfl rfl cx) ?_
      (repeat refine Zlr ?_)
      exact l_next (m, gi nxs x, y) ⟨rfl, rfl, rfl, trivial⟩ ⟨kx, hy, by show rk (gr nx) (gi nxs x) + rk (gr nx) y < m; omega, he, k2.no k3⟩ (by show m < m + 1; omega)
    · rw [if_neg h4] at he
      (repeat refine Zlr ?_)
      refine s_v (r_ia (size := 1) rfl rfl rfl rfl (by omega) (by omega)) ?_
      refine s_v (r_ld rfl rfl cy) ?_
      (repeat refine Zlr ?_)
      exact l_next (m, x, gi nxs y) ⟨rfl, rfl, rfl, trivial⟩ ⟨hx, ky, by show rk (gr nx) x + rk (gr nx) (gi nxs y) < m; omega, he, k2.no k3⟩ (by show m < m + 1; omega)
  · rw [if_pos hxy] at he
    (repeat refine Zlr ?_)
    exact ret_c1 rfl (rv_t rfl) ⟨by rw [← he], k2⟩
end
end Go.Proofs.Ytkllhfajldnpoaa.Ck
namespace Go.Proofs.Ytkllhfajldnpoaa.Ck
open Go Go.RowKit Fw Sy Rf Fn
set_option linter.unusedVariables false
set_option maxRecDepth 20000
section
variable {nx : List (List Int)} {fs : Sl} {va : Option Addr} {vc bt gn go : Nat} {w w' wN : World} {nxs : List Int}
theorem pass_step (W : Wel nx) {nxs : List Int} {k : Nat} {x : Int} (hn : nxs.length = nx.length) (hi : Inv (gr nx) (gi nxs) k) (hx : (finL nx)[k]? = some x) :
    Inv (gr nx) (gi (if nowL nx nxs x ≠ gi nxs x then nxs.set x.toNat (nowL nx nxs x) else nxs)) ((k + 1 : Nat) : Int) := by
  have hg := gr_ok W.to W.rx
  have F := finL_spec (N := nx.length) rfl W.to W.rx
  have hxn := (F.nd x).1 (List.mem_of_getElem? hx)
  have ho : gi (ordO nx) x = (k : Int) := ordL_get (fun x hx => (F.nd x).1 hx) F.nodup hx
  obtain ⟨I, kz, dec, fx⟩ := inv_step hg hi (m := 2 * nx.length + 3) (by show 2 * (nx.length : Int).toNat + 2 < _; omega) (x := x) hxn ho (z := nowL nx nxs x) rfl
  split
  · exact inv_congr (fun y hy => by rw [gi_set hn hxn hy]; rfl) I
  · rename_i hne
    have hz : nowL nx nxs x = gi nxs x := Decidable.byContradiction hne
    exact inv_congr (fun y hy => by
      unfold upd
      split
      · rename_i e; rw [hz, e]
      · rfl) I
theorem rk_le (hg : (gr nx).Ok) {f : Int → Int} {a : Int} (ha : K (gr nx) f a) : rk (gr nx) a ≤ nx.length := by
  unfold rk
  split
  · exact Nat.zero_le _
  · rename_i h
    have := hg.o0 a (ha.resolve_left h).1
    have e : (gr nx).N = (nx.length : Int) := rfl
    omega
set_option maxHeartbeats 4000000 in
theorem passF (W : Wel nx) (hb : nx.length ≤ 1000) (hN : NX wN (.slice va nx.length vc) nx) (hk : Kp No wN w) (hgn : wN.heap.size ≤ gn) (F : Ft nx fs va vc bt gn go w nxs) (hI : Inv (gr nx) (gi nxs) 0) {la : Option Addr} {lc : Nat} (hl : LI w (.slice la nx.length lc) (finL nx)) (hlg : ∀ g, (Value.slice la nx.length lc).ownBlock = some g → g ≠ gn) :
    Ret Try.prog 29 [.pointer (some ⟨bt, 0, none⟩), .slice la nx.length lc] w (fun u w1 => ∃ nxs' c', passL nx (finL nx) nxs false = (nxs', c') ∧ u = .bool c' ∧ Ft nx fs va vc bt gn go w1 nxs' ∧ Kp (fun i => i = gn) w w1) := by
  have hg := gr_ok W.to W.rx
  have FS := finL_spec (N := nx.length) rfl W.to W.rx
  have hFl : (finL nx).length = nx.length := nodup_len _ _ FS.nodup FS.nd
  refine ret_enter Try.func29 rfl Try.ntmps29 rfl ?_
  (repeat refine Zlr ?_)
  refine k_loop (σ := Nat × Bool × List Int) (fun t => [(0, .pointer (some ⟨bt, 0, none⟩)), (5, .bool t.2.1), (11, .slice la nx.length lc), (12, .int .i64 (nx.length : Int)), (13, .int .i64 (t.1 : Int))])
    (fun t w' => t.1 ≤ nx.length ∧ passL nx ((finL nx).drop t.1) t.2.2 t.2.1 = passL nx (finL nx) nxs false ∧ Inv (gr nx) (gi t.2.2) (t.1 : Nat) ∧ Ft nx fs va vc bt gn go w' t.2.2 ∧ LI w' (.slice la nx.length lc) (finL nx) ∧ Kp (fun i => i = gn) w w') (fun t => nx.length - t.1) (0, false, nxs) ⟨rfl, rfl, rfl, rfl, rfl, trivial⟩
    ⟨Nat.zero_le _, by rw [List.drop_zero], hI, F, hl, Kp.refl _ _⟩ ?_
  clear F hl hI
  rintro ⟨k, ch, ns⟩ l2 w2 ⟨hkn, hp, hI, F, hl, k2⟩
  simp only at hkn hp hI F hl k2
  try dsimp only
  have kN : Kp No wN w2 := hk.from0' k2 fun i hi e => by omega
  have hbx := F.bx
  (repeat refine Zlr ?_)
  refine c_dec rfl (fun hlt => ?_) (fun hge => ?_)
  · have hlt : k < nx.length := by omega
    obtain ⟨x, hx⟩ : ∃ x, (finL nx)[k]? = some x := ⟨_, List.getElem?_eq_getElem (by omega)⟩
    have hxn := (FS.nd x).1 (List.mem_of_getElem? hx)
    have hx0 := hxn.1
    have hxN := hxn.2
    obtain ⟨_, _, e, hlat⟩ := li_at hl
    rw [Value.slice.injEq] at e
    obtain ⟨rfl, _, rfl⟩ := e
    obtain ⟨lg, hla, hlc⟩ := hlat k x hx
    have hls : Value.slice la nx.length lc = .slice (some ⟨lg, 0, none⟩) nx.length lc := by rw [hla]
    rw [List.drop_eq_getElem_cons (by omega)] at hp
    have ej : (finL nx)[k] = x := by rw [List.getElem?_eq_getElem (by omega)] at hx; exact Option.some.inj hx
    rw [ej, passL] at hp
    have hst := pass_step W F.ln hI hx
    obtain ⟨vg, l3a, l3c, rfl, hl3, hvc⟩ := hN.at_ hxn
    obtain ⟨L, hL⟩ : ∃ L, gl nx x = L := ⟨_, rfl⟩
    have hLt : ∀ t ∈ L, t = -1 ∨ Nd nx.length t := by rw [← hL]; exact (W.hr x hxn).2
    have hnow : nowL nx ns x = now (gi (ordO nx)) (gi ns) (2 * nx.length + 3) L (-2) := by unfold nowL; rw [hL]
    rw [hL] at hl3 hvc
    obtain ⟨_, _, e, hlat3⟩ := li_at hl3
    cases e
    have hL63 : L.length ≤ 9223372036854775807 := by have := own_mx hl3; unfold maxLen at this; omega
    (repeat refine Zlr ?_)
    refine s_v (r_ia (size := 1) rfl rfl hls rfl (by omega) (by omega)) ?_
    refine s_v (r_ld rfl rfl (hlc _ (Kp.refl _ _))) ?_
    (repeat refine Zlr ?_)
    refine s_v (r_ia (size := 1) rfl rfl rfl rfl (by omega) (by omega)) ?_
    refine s_v (r_ld rfl rfl (hvc _ kN)) ?_
    (repeat refine Zlr ?_)
    refine k_loop (σ := Nat × Int) (fun t => [(0, .pointer (some ⟨bt, 0, none⟩)), (5, .bool ch), (7, .int .i64 x), (8, .int .i64 t.2), (11, .slice la nx.length lc), (12, .int .i64 (nx.length : Int)), (13, .int .i64 (k : Int)), (24, .slice l3a L.length l3c), (25, .int .i64 (L.length : Int)), (26, .int .i64 (t.1 : Int))])
      (fun t w' => t.1 ≤ L.length ∧ (t.2 = -2 ∨ K (gr nx) (gi ns) t.2) ∧ now (gi (ordO nx)) (gi ns) (2 * nx.length + 3) (L.drop t.1) t.2 = nowL nx ns x ∧ Kp No w2 w') (fun t => L.length - t.1) (0, -2) ⟨rfl, rfl, rfl, rfl, rfl, rfl, rfl, rfl, rfl, rfl, trivial⟩
      ⟨Nat.zero_le _, .inl rfl, by rw [List.drop_zero, hnow], Kp.refl _ _⟩ ?_
    rintro ⟨j, z⟩ l4 w4 ⟨hj, hz, hnw, k4⟩
    simp only at hj hz hnw k4
    try dsimp only
    have F4 := F.no k4
    have kN4 := kN.no k4
    have hbx := F4.bx
    (repeat refine Zlr ?_)
    refine c_dec rfl (fun hlj => ?_) (fun hgj => ?_)
    · have hlj : j < L.length := by omega
      obtain ⟨s, hs⟩ : ∃ s, L[j]? = some s := ⟨_, List.getElem?_eq_getElem hlj⟩
      obtain ⟨lg3, hla3, hlc3⟩ := hlat3 j s hs
      have hls3 : Value.slice l3a L.length l3c = .slice (some ⟨lg3, 0, none⟩) L.length l3c := by rw [hla3]
      rw [List.drop_eq_getElem_cons hlj] at hnw
      have ejs : L[j] = s := by rw [List.getElem?_eq_getElem hlj] at hs; exact Option.some.inj hs
      rw [ejs, now] at hnw
      have hsn := hLt s (List.mem_of_getElem? hs)
      (repeat refine Zlr ?_)
      refine s_v (r_ia (size := 1) rfl rfl hls3 rfl (by omega) (by omega)) ?_
      refine s_v (r_ld rfl rfl (hlc3 _ kN4)) ?_
      (repeat refine Zlr ?_)
      by_cases hs1 : s = -1
      · rw [if_neg (fun h => h.1 hs1)] at hnw
        have hKs : K (gr nx) (gi ns) s := .inl hs1
        refine s_set 37 false rfl (bne_eq_false_iff_eq.2 hs1) ?_
        (repeat (first | refine Zlr ?_ | refine Zn ?_ | refine Zu ?_ | refine Zg ?_ | refine Zgl ?_))
        refine c_f rfl ?_
        (repeat refine Zlr ?_)
        refine c_eq rfl (fun hz2 => ?_) (fun hz2 => ?_)
        · rw [if_pos hz2] at hnw
          (repeat refine Zlr ?_)
          exact l_next (j + 1, s) ⟨rfl, rfl, rfl, rfl, rfl, rfl, rfl, rfl, rfl, rfl, trivial⟩ ⟨hlj, .inr hKs, hnw, k4⟩ (by show L.length - (j + 1) < L.length - j; omega)
        · rw [if_neg hz2] at hnw
          have hKz := hz.resolve_left hz2
          have r1 := rk_le hg hKz
          have r2 := rk_le hg hKs
          have MS := meetS hg hI.i1 hI.i2 (2 * nx.length + 3) z s hKz hKs (by omega)
          (repeat refine Zlr ?_)
          refine s_call (us := []) (zs := []) (by kernel_rfl) rfl rfl (meetF W hg hb F4 hI.i1 (n := 2 * nx.length + 3) hKz hKs (by omega)) ?_
          rintro _ w5 ⟨rfl, k5⟩
          (repeat refine Zlr ?_)
          exact l_next (j + 1, Fn.meet (gi (ordO nx)) (gi ns) (2 * nx.length + 3) z s) ⟨rfl, rfl, rfl, rfl, rfl, rfl, rfl, rfl, rfl, rfl, trivial⟩ ⟨hlj, .inr MS.k, hnw, k4.no k5⟩ (by show L.length - (j + 1) < L.length - j; omega)
      have hsN := hsn.resolve_left hs1
      have hs0 := hsN.1
      have hsN2 := hsN.2
      have hln := F4.ln
      have cs := cell_i F4.nr hs0 (by omega)
      refine s_set 37 true rfl (bne_iff_ne.2 hs1) ?_
      (repeat (first | refine Zlr ?_ | refine Zn ?_ | refine Zu ?_ | refine Zg ?_ | refine Zgl ?_))
      try (refine s_gv rfl (r_ia (size := 1) rfl rfl rfl rfl (by omega) (by omega)) ?_; (repeat (first | refine Zlr ?_ | refine Zn ?_ | refine Zu ?_ | refine Zg ?_ | refine Zgl ?_)))
      by_cases hu : gi ns s = -2
      · rw [if_pos ⟨hs1, hu⟩] at hnw
        refine c_t (congrArg Value.bool (beq_iff_eq.2 hu)) ?_
        (repeat refine Zlr ?_)
        exact l_next (j + 1, z) ⟨rfl, rfl, rfl, rfl, rfl, rfl, rfl, rfl, rfl, rfl, trivial⟩ ⟨hlj, hz, hnw, k4⟩ (by show L.length - (j + 1) < L.length - j; omega)
      · rw [if_neg (fun h => hu h.2)] at hnw
        have hKs : K (gr nx) (gi ns) s := .inr ⟨hsN, hu⟩
        refine c_f (congrArg Value.bool (beq_eq_false_iff_ne.2 hu)) ?_
        (repeat refine Zlr ?_)
        refine c_eq rfl (fun hz2 => ?_) (fun hz2 => ?_)
        · rw [if_pos hz2] at hnw
          (repeat refine Zlr ?_)
          exact l_next (j + 1, s) ⟨rfl, rfl, rfl, rfl, rfl, rfl, rfl, rfl, rfl, rfl, trivial⟩ ⟨hlj, .inr hKs, hnw, k4⟩ (by show L.length - (j + 1) < L.length - j; omega)
        · rw [if_neg hz2] at hnw
          have hKz := hz.resolve_left hz2
          have r1 := rk_le hg hKz
          have r2 := rk_le hg hKs
          have MS := meetS hg hI.i1 hI.i2 (2 * nx.length + 3) z s hKz hKs (by omega)
          (repeat refine Zlr ?_)
          refine s_call (us := []) (zs := []) (by kernel_rfl) rfl rfl (meetF W hg hb F4 hI.i1 (n := 2 * nx.length + 3) hKz hKs (by omega)) ?_
          rintro _ w5 ⟨rfl, k5⟩
          (repeat refine Zlr ?_)
          exact l_next (j + 1, Fn.meet (gi (ordO nx)) (gi ns) (2 * nx.length + 3) z s) ⟨rfl, rfl, rfl, rfl, rfl, rfl, rfl, rfl, rfl, rfl, trivial⟩ ⟨hlj, .inr MS.k, hnw, k4.no k5⟩ (by show L.length - (j + 1) < L.length - j; omega)
    · have hj : j = L.length := by omega
      subst hj
      rw [List.drop_length] at hnw
      have hnw : z = nowL nx ns x := hnw
      have hln := F4.ln
      have cx := cell_i F4.nr hx0 (by omega)
      rw [← hnw] at hp hst
      (repeat refine Zlr ?_)
      refine s_v (r_ia (size := 1) rfl rfl rfl rfl (by omega) (by omega)) ?_
      refine s_v (r_ld rfl rfl cx) ?_
      (repeat refine Zlr ?_)
      refine c_ne rfl (fun hne => ?_) (fun heq => ?_)
      · rw [if_pos hne] at hp hst
        (repeat refine Zlr ?_)
        refine s_v (r_ia (size := 1) rfl rfl rfl rfl (by omega) (by omega)) ?_
        refine s_st (vs := [.int .i64 z]) rfl rfl rfl rfl rfl F4.nr (by rw [List.length_map, hln]; show _ + 1 ≤ _; omega) (fun w5 s5 => ?_)
        have s5 : Sb w4 gn ((ns.set x.toNat z).map (Value.int .i64)) tInt w5 := by
          rw [List.map_set, ← setAt_one _ _ _ (by rw [List.length_map]; omega)]
          rw [show x.toNat = 0 + x.toNat * 1 by omega]
          exact s5
        have F5 : Ft nx fs (some ⟨vg, 0, none⟩) vc bt gn go w5 (ns.set x.toNat z) := ⟨s5.kp.get F4.bx (ty_neq F4.bx F4.nr rfl), s5.blk, s5.kp.get F4.od F4.ne.symm, by rw [List.length_set]; exact hln, F4.ne⟩
        (repeat refine Zlr ?_)
        exact l_next (k + 1, true, ns.set x.toNat z) ⟨rfl, rfl, rfl, rfl, rfl, trivial⟩ ⟨hlt, hp, hst, F5, own_kp (LI.kp hl k4) s5.kp fun g hg e => hlg g hg e, (k2.no k4).trans s5.kp fun _ _ h => h⟩ (by show nx.length - (k + 1) < nx.length - k; omega)
      · rw [if_neg (fun h => h heq)] at hp hst
        (repeat refine Zlr ?_)
        exact l_next (k + 1, ch, ns) ⟨rfl, rfl, rfl, rfl, rfl, trivial⟩ ⟨hlt, hp, hst, F4, LI.kp hl k4, k2.no k4⟩ (by show nx.length - (k + 1) < nx.length - k; omega)
  · have hkn : k = nx.length := by omega
    subst hkn
    rw [show nx.length = (finL nx).length from hFl.symm, List.drop_length] at hp
    (repeat refine Zlr ?_)
    exact ret_c1 rfl (rv_t rfl) ⟨ns, ch, hp.symm, rfl, F, k2⟩
end
end Go.Proofs.Ytkllhfajldnpoaa.Ck
namespace Go.Proofs.Ytkllhfajldnpoaa.Ck
open Go Go.RowKit Fw Sy Rf Fn
set_option linter.unusedVariables false
set_option maxRecDepth 20000
theorem li_row {w : World} {g n : Nat} {l : List Int} (h : w.heap[g]? = some (.cells (l.map (Value.int .i64)).toArray tInt (0, 0))) (hl : l.length = n) (hn : n ≤ maxLen) : LI w (.slice (some ⟨g, 0, none⟩) n n) l := by
  subst hl
  exact ⟨by simp, .inr ⟨g, l.length, (l.map (Value.int .i64)).toArray, rfl, Nat.zero_le _, h, Nat.le_refl _, hn, by simp, by rw [Nat.mul_one]; exact List.take_of_length_le (by simp)⟩⟩
section
variable {nx : List (List Int)}
set_option maxHeartbeats 4000000 in
theorem nextFn (W : Wel nx) (hb : nx.length ≤ 1000) (h1 : 1 ≤ nx.length) {w : World} {fs : Sl} {v : Value} (hN : NX w v nx) :
    Ret Try.prog 12 [.agg #[fs.v, v]] w (fun u w1 => ∃ g, u = .slice (some ⟨g, 0, none⟩) nx.length nx.length ∧ LI w1 u (fenL nx) ∧ Kp No w w1) := by
  obtain ⟨va, vc, rfl⟩ := hN.val
  have hg := gr_ok W.to W.rx
  have FS := finL_spec (N := nx.length) rfl W.to W.rx
  have hFl : (finL nx).length = nx.length := nodup_len _ _ FS.nodup FS.nd
  refine ret_enter Try.func12 rfl Try.ntmps12 rfl ?_
  (repeat refine Zlr ?_)
  refine s_box (cs := [fs.v, .slice va nx.length vc]) rfl rfl (fun b1 w1 n1 => ?_)
  have hb1 := n1.blk
  (repeat refine Zlr ?_)
  refine k_cutc (σ := Nat × Nat × Nat) (fun t => [(1, .pointer (some ⟨b1, 0, none⟩)), (3, .pointer (some ⟨t.2.2, 0, none⟩))])
    (fun t w' => w'.heap[t.2.2]? = some (.cells [fs.v, .slice va nx.length vc, .slice (some ⟨t.1, 0, none⟩) nx.length nx.length, .slice (some ⟨t.2.1, 0, none⟩) nx.length nx.length].toArray tFen (0, 0)) ∧ w'.heap[t.1]? = some (.cells ((List.replicate nx.length (-2 : Int)).map (Value.int .i64)).toArray tInt (0, 0)) ∧ w'.heap[t.2.1]? = some (.cells ((List.replicate nx.length (0 : Int)).map (Value.int .i64)).toArray tInt (0, 0)) ∧ t.1 ≠ t.2.1 ∧ w.heap.size ≤ t.1 ∧ w.heap.size ≤ t.2.1 ∧ Kp No w w') ?_ ?_
  · have hd := fun (w' : World) (hw : Kp No w1 w') => hw.get0 hb1
    have rp : ∀ (z : Int), (List.replicate nx.length z).map (Value.int .i64) = List.replicate nx.length (Value.int .i64 z) := fun z => List.map_replicate
    refine k_ht (fun w' => Kp No w1 w') 12 (by kernel_rfl) (fun m1 k1 _ => ?_)
    refine t_q (i := 0) (by exact waits_of_last (by kernel_rfl)) (by kernel_rfl) rfl (by kernel_rfl) (by kernel_rfl) k1 (fun w' hw => r_ldb (vs := [fs.v, .slice va nx.length vc]) rfl rfl rfl (hd w' hw) rfl rfl) ?_
    refine t_q (i := 2) (by exact waits_of_last (by kernel_rfl)) (by kernel_rfl) rfl (by kernel_rfl) (by kernel_rfl) k1 (fun w' hw => r_fa rfl rfl) ?_
    refine t_q (i := 3) (by exact waits_of_last (by kernel_rfl)) (by kernel_rfl) rfl (by kernel_rfl) (by kernel_rfl) k1 (fun w' hw => r_ld rfl rfl (cell_of_blk (hd w' hw) rfl)) ?_
    refine t_q (i := 4) (by exact waits_of_last (by kernel_rfl)) (by kernel_rfl) rfl (by kernel_rfl) (by kernel_rfl) k1 (fun w' hw => r_len rfl) ?_
    refine t_q (i := 6) (by exact waits_of_last (by kernel_rfl)) (by kernel_rfl) rfl (by kernel_rfl) (by kernel_rfl) k1 (fun w' hw => r_fa rfl rfl) ?_
    refine t_q (i := 7) (by exact waits_of_last (by kernel_rfl)) (by kernel_rfl) rfl (by kernel_rfl) (by kernel_rfl) k1 (fun w' hw => r_ld rfl rfl (cell_of_blk (hd w' hw) rfl)) ?_
    refine t_q (i := 8) (by exact waits_of_last (by kernel_rfl)) (by kernel_rfl) rfl (by kernel_rfl) (by kernel_rfl) k1 (fun w' hw => r_len rfl) ?_
    refine t_2 (i := 1) (i2 := 9) (by kernel_rfl) ?_ ?_
    · refine ts_nb (r := fun a => .slice (some a) 1 1) (cs := [.int .i64 (-2)]) (T := tInt) rfl (r_bs rfl) (fun b6 m2 n6 => ⟨fun _ => k1.no n6.kp, ?_⟩)
      have k2 := k1.no n6.kp
      refine t_2 (i := 5) (i2 := 9) (by kernel_rfl) ?_ ?_
      · refine ts_o (ord := [(9, true), (10, false), (11, true), (12, false)]) (by exact waits_of_last (by kernel_rfl)) (by kernel_rfl) rfl (by kernel_rfl) rfl rfl ?_
        refine h_call (us := []) (zs := []) (by kernel_rfl) rfl rfl (repeatF b6 1 nx.length (-2) m2 n6.blk h1 (by omega)) ?_
        rintro _ m3 ⟨gn, rfl, hgn, ggn, k3⟩
        have k3' := k2.no k3
        refine ⟨fun _ => k3', ?_⟩
        refine h_nb (r := fun a => .slice (some a) nx.length nx.length) (r_ms1 (l := nx.length) (c := nx.length) rfl rfl rfl rfl rfl rfl rfl (Nat.le_refl _) (by show 8 * _ ≤ _; omega) (by omega)) (fun go m4 n4 => ⟨fun _ => k3'.no n4.kp, ?_⟩)
        have k4 := k3'.no n4.kp
        have hgn := n4.kp.get0 hgn
        have hgo := n4.blk
        have hne : gn ≠ go := fun e => by have := n4.ge; have := lt_of_get ‹m3.heap[gn]? = _›; omega
        refine h_v k4 (fun w' hw => r_bd rfl) ?_
        refine h_box (cs := [fs.v, .slice va nx.length vc, .slice (some ⟨gn, 0, none⟩) nx.length nx.length, .slice (some ⟨go, 0, none⟩) nx.length nx.length]) rfl rfl (fun bt m5 n8 => ⟨fun _ => k4.no n8.kp, ?_⟩)
        refine h_v (k4.no n8.kp) (fun w' hw => r_as rfl) ?_
        refine h_nil ?_
        exact l_cut (gn, go, bt) ⟨rfl, rfl, trivial⟩ ⟨n8.blk, by rw [rp]; exact n8.kp.get0 hgn, by rw [rp]; exact n8.kp.get0 hgo, hne, by show w.heap.size ≤ gn; have := n1.kp.size; have := k1.size; have := n6.kp.size; have := n4.kp.size; omega, by show w.heap.size ≤ go; have := n1.kp.size; have := k1.size; have := n6.kp.size; have := n4.ge; have := k2.size; have := k3'.size; omega, n1.kp.no (k4.no n8.kp)⟩
      · refine ts_o (ord := [(5, true), (10, false), (11, true), (12, false)]) (by exact waits_of_last (by kernel_rfl)) (by kernel_rfl) rfl (by kernel_rfl) rfl rfl ?_
        refine h_nb (r := fun a => .slice (some a) nx.length nx.length) (r_ms1 (l := nx.length) (c := nx.length) rfl rfl rfl rfl rfl rfl rfl (Nat.le_refl _) (by show 8 * _ ≤ _; omega) (by omega)) (fun go m3 n4 => ⟨fun _ => k2.no n4.kp, ?_⟩)
        have k3 := k2.no n4.kp
        refine h_call (us := []) (zs := []) (by kernel_rfl) rfl rfl (repeatF b6 1 nx.length (-2) m3 (n4.kp.get0 n6.blk) h1 (by omega)) ?_
        rintro _ m4 ⟨gn, rfl, hgn, ggn, k5⟩
        have k4 := k3.no k5
        refine ⟨fun _ => k4, ?_⟩
        have hgo := k5.get0 n4.blk
        have hne : gn ≠ go := fun e => by have := n4.lt; omega
        refine h_v k4 (fun w' hw => r_bd rfl) ?_
        refine h_box (cs := [fs.v, .slice va nx.length vc, .slice (some ⟨gn, 0, none⟩) nx.length nx.length, .slice (some ⟨go, 0, none⟩) nx.length nx.length]) rfl rfl (fun bt m5 n8 => ⟨fun _ => k4.no n8.kp, ?_⟩)
        refine h_v (k4.no n8.kp) (fun w' hw => r_as rfl) ?_
        refine h_nil ?_
        exact l_cut (gn, go, bt) ⟨rfl, rfl, trivial⟩ ⟨n8.blk, by rw [rp]; exact n8.kp.get0 hgn, by rw [rp]; exact n8.kp.get0 hgo, hne, by show w.heap.size ≤ gn; have := n1.kp.size; have := k1.size; have := n6.kp.size; have := n4.kp.size; omega, by show w.heap.size ≤ go; have := n1.kp.size; have := k1.size; have := n6.kp.size; have := n4.ge; have := k2.size; have := k2.size; omega, n1.kp.no (k4.no n8.kp)⟩
    · refine ts_o (ord := [(1, true), (5, true), (10, false), (11, true), (12, false)]) (by exact waits_of_last (by kernel_rfl)) (by kernel_rfl) rfl (by kernel_rfl) rfl rfl ?_
      refine h_nb (r := fun a => .slice (some a) nx.length nx.length) (r_ms1 (l := nx.length) (c := nx.length) rfl rfl rfl rfl rfl rfl rfl (Nat.le_refl _) (by show 8 * _ ≤ _; omega) (by omega)) (fun go m2 n4 => ⟨fun _ => k1.no n4.kp, ?_⟩)
      have k2 := k1.no n4.kp
      refine h_bs (cs := [.int .i64 (-2)]) (e := tInt) rfl (fun b6 m3 n6 => ⟨fun _ => k2.no n6.kp, ?_⟩)
      have k3 := k2.no n6.kp
      refine h_call (us := []) (zs := []) (by kernel_rfl) rfl rfl (repeatF b6 1 nx.length (-2) m3 n6.blk h1 (by omega)) ?_
      rintro _ m4 ⟨gn, rfl, hgn, ggn, k5⟩
      have k4 := k3.no k5
      refine ⟨fun _ => k4, ?_⟩
      have hgo := k5.get0 (n6.kp.get0 n4.blk)
      have hne : gn ≠ go := fun e => by have := n4.lt; have := n6.kp.size; omega
      refine h_v k4 (fun w' hw => r_bd rfl) ?_
      refine h_box (cs := [fs.v, .slice va nx.length vc, .slice (some ⟨gn, 0, none⟩) nx.length nx.length, .slice (some ⟨go, 0, none⟩) nx.length nx.length]) rfl rfl (fun bt m5 n8 => ⟨fun _ => k4.no n8.kp, ?_⟩)
      refine h_v (k4.no n8.kp) (fun w' hw => r_as rfl) ?_
      refine h_nil ?_
      exact l_cut (gn, go, bt) ⟨rfl, rfl, trivial⟩ ⟨n8.blk, by rw [rp]; exact n8.kp.get0 hgn, by rw [rp]; exact n8.kp.get0 hgo, hne, by show w.heap.size ≤ gn; have := n1.kp.size; have := k1.size; have := n6.kp.size; have := n4.kp.size; omega, by show w.heap.size ≤ go; have := n1.kp.size; have := k1.size; have := n6.kp.size; have := n4.ge; have := k2.size; have := k1.size; omega, n1.kp.no (k4.no n8.kp)⟩
  clear hb1
  rintro ⟨gn, go, bt⟩ l2 w2 ⟨hbt, hgn, hgo, hne, ggn, ggo, k2⟩
  simp only at hbt hgn hgo hne ggn ggo k2
  try dsimp only
  (repeat refine Zlr ?_)
  refine s_call (us := []) (zs := []) (by kernel_rfl) rfl rfl (finishF W (hN.kp k2) hb hbt hgo) ?_
  rintro lv w3 ⟨hl, hlo, hod, k3⟩
  obtain ⟨la, lc, rfl⟩ := hl.val
  rw [hFl] at hl hlo ⊢
  have hbt3 := k3.get hbt (ty_neq hbt hgo rfl)
  have hgn3 := k3.get hgn hne
  have F3 : Ft nx fs va vc bt gn go w3 (List.replicate nx.length (-2)) := ⟨hbt3, hgn3, hod, List.length_replicate, hne⟩
  have hlg : ∀ g, (Value.slice la nx.length lc).ownBlock = some g → g ≠ gn := fun g hgg => by
    have := hlo g hgg
    have := lt_of_get hgn
    omega
  have k3' : Kp No w w3 := k2.from0' k3 fun i hi e => by omega
  have hg0 : ∀ x : Int, gi (List.replicate nx.length (-2)) x = -2 := fun x => by
    unfold gi
    rw [List.getD_eq_getElem?_getD, List.getElem?_replicate]
    split <;> rfl
  have hI : Inv (gr nx) (gi (List.replicate nx.length (-2))) 0 := inv_congr (fun x _ => (hg0 x).symm) (inv_start hg)
  have hm : mu (gr nx) (List.replicate nx.length (-2)) < (nx.length + 2) * nx.length + 1 := by
    have e : wt (gr nx) (-2) = nx.length + 1 := rfl
    unfold mu
    rw [List.map_replicate, e, List.sum_replicate_nat]
    have : (nx.length + 2) * nx.length = nx.length * (nx.length + 1) + nx.length := by rw [Nat.mul_comm, Nat.mul_succ]
    omega
  have hlx : ∀ (j : Nat) (x : Int), (finL nx)[j]? = some x → Nd nx.length x ∧ gi (ordO nx) x = (j : Int) := fun j x h => ⟨(FS.nd x).1 (List.mem_of_getElem? h), ordL_get (fun x hx => (FS.nd x).1 hx) FS.nodup h⟩
  clear hbt hgn hgo k2 k3 hod hbt3 hgn3
  (repeat refine Zlr ?_)
  refine k_loop (σ := Nat × List Int) (fun t => [(3, .pointer (some ⟨bt, 0, none⟩)), (4, .slice la nx.length lc)])
    (fun t w' => mu (gr nx) t.2 < t.1 ∧ runL nx t.1 t.2 = fenL nx ∧ Inv (gr nx) (gi t.2) 0 ∧ Ft nx fs va vc bt gn go w' t.2 ∧ LI w' (.slice la nx.length lc) (finL nx) ∧ Kp No w w') (fun t => t.1) ((nx.length + 2) * nx.length + 1, List.replicate nx.length (-2)) ⟨rfl, rfl, trivial⟩
    ⟨hm, rfl, hI, F3, hl, k3'⟩ ?_
  clear F3 hl k3' hI hm
  rintro ⟨n, ns⟩ l3 w4 ⟨hm, hr, hI, F4, hl, k4⟩
  simp only at hm hr hI F4 hl k4
  try dsimp only
  obtain ⟨n, rfl⟩ : ∃ m, n = m + 1 := ⟨n - 1, by omega⟩
  (repeat refine Zlr ?_)
  refine s_call (us := []) (zs := []) (by kernel_rfl) rfl rfl (passF W hb hN k4 ggn F4 hI hl hlg) ?_
  rintro _ w5 ⟨ns', c', hp, rfl, F5, k5⟩
  obtain ⟨nx', cc, p1, p2, p3, p4, p5, p6⟩ := passL_spec hg hlx (finL nx) 0 ns false rfl F4.ln hI
  rw [hp] at p1
  obtain ⟨rfl, rfl⟩ := Prod.mk.inj p1
  rw [runL, hp] at hr
  have k5' : Kp No w w5 := k4.from0' k5 fun i hi e => by omega
  (repeat refine Zlr ?_)
  cases c' with
  | true =>
    refine c_t rfl ?_
    rw [if_pos rfl] at hr
    have hmu := (p5 rfl).resolve_left (by decide)
    have hI' : Inv (gr nx) (gi ns') 0 := inv_next hg (by rw [Nat.zero_add, hFl] at p3; exact p3)
    (repeat refine Zlr ?_)
    exact l_next (n, ns') ⟨rfl, rfl, trivial⟩ ⟨by show mu (gr nx) ns' < n; omega, hr, hI', F5, own_kp hl k5 fun g hgg e => hlg g hgg e, k5'⟩ (by show n < n + 1; omega)
  | false =>
    refine c_f rfl ?_
    have hr : ns' = fenL nx := hr
    subst hr
    have hbx := F5.bx
    (repeat refine Zlr ?_)
    exact ret_c1 rfl (rv_t rfl) ⟨gn, rfl, li_row F5.nr F5.ln (by unfold maxLen; omega), k5'⟩
end
end Go.Proofs.Ytkllhfajldnpoaa.Ck
namespace Go.Proofs.Ytkllhfajldnpoaa.Ck
open Go Go.RowKit Fw Sy Rf Fn
set_option linter.unusedVariables false
set_option maxRecDepth 20000
section
variable {nx : List (List Int)}
set_option maxHeartbeats 1000000 in
theorem allFn (W : Wel nx) (hb : nx.length ≤ 1000) (h1 : 1 ≤ nx.length) {w : World} {fs : Sl} {v : Value} (hN : NX w v nx) {x : Int} (hx : x = -1 ∨ Nd nx.length x) :
    Ret Try.prog 16 [.agg #[fs.v, v], .int .i64 x] w (fun u w1 => LI w1 u (chL nx x) ∧ Kp No w w1) := by
  obtain ⟨va, vc, rfl⟩ := hN.val
  have hfl : (fenL nx).length = nx.length := W.fen.len
  refine ret_enter Try.func16 rfl Try.ntmps16 rfl ?_
  (repeat refine Zlr ?_)
  refine s_box (cs := [fs.v, .slice va nx.length vc]) rfl rfl (fun b2 w1 n1 => ?_)
  have hb1 := n1.blk
  (repeat refine Zlr ?_)
  refine s_call (us := []) (zs := []) (by kernel_rfl) rfl rfl (nextFn W hb h1 (fs := fs) (hN.kp n1.kp)) ?_
  rintro _ w2 ⟨gn, rfl, hf, k2⟩
  have k2 := n1.kp.no k2
  (repeat refine Zlr ?_)
  refine s_bs (cs := [.int .i64 x]) (e := tInt) rfl (fun b w3 n3 => ?_)
  have own1 : w3.ownsRow w2.heap.size tInt 1 (.slice (some ⟨b, 0, none⟩) 1 1) 1 [.int .i64 x] := ⟨rfl, .inr ⟨b, 1, #[.int .i64 x], rfl, n3.ge, n3.blk, Nat.le_refl _, Nat.le_of_ble_eq_true rfl, rfl, rfl⟩⟩
  obtain ⟨_, _, e, hfat⟩ := li_at hf
  rw [Value.slice.injEq] at e
  obtain ⟨rfl, _, rfl⟩ := e
  (repeat refine Zlr ?_)
  refine k_loop (σ := Int × List Int × Sl) (fun t => [(1, .int .i64 t.1), (5, .slice (some ⟨gn, 0, none⟩) nx.length nx.length), (6, t.2.2.v)])
    (fun t w' => (t.1 = -1 ∨ Nd nx.length t.1) ∧ t.2.1 ++ (chL nx t.1).tail = chL nx x ∧ w'.ownsRow w2.heap.size tInt 1 t.2.2.v t.2.1.length (t.2.1.map (Value.int .i64)) ∧ Kp No w2 w') (fun t => rkL nx t.1) (x, [x], ⟨some ⟨b, 0, none⟩, 1, 1⟩) ⟨rfl, rfl, rfl, trivial⟩ ⟨hx, ?_, own1, n3.kp⟩ ?_
  · rcases hx with rfl | hx
    · rfl
    · show [x] ++ (chL nx x).tail = chL nx x
      rw [W.ch_step hx]; rfl
  clear own1
  rintro ⟨a, out, ⟨sa, sn, sc⟩⟩ l w4 ⟨ha, hch, ho, k4⟩
  simp only at ha hch ho k4
  try dsimp only
  (repeat refine Zlr ?_)
  refine c_ne rfl (fun hge => ?_) (fun hlt => ?_)
  · have hn : Nd nx.length a := ha.resolve_left hge
    have hn0 := hn.1
    have hnN := hn.2
    have hlen : out.length ≤ nx.length + 1 := by
      have := ch_len W hx
      rw [← hch, List.length_append] at this
      omega
    obtain ⟨y, hy⟩ : ∃ y, (fenL nx)[a.toNat]? = some y := ⟨_, List.getElem?_eq_getElem (by omega)⟩
    have hgy : gi (fenL nx) a = y := by unfold gi; rw [List.getD_eq_getElem?_getD, hy]; rfl
    obtain ⟨g', hg', hc⟩ := hfat _ y hy
    cases hg'
    have hcy : w4.cell? ⟨gn, 0 + a.toNat * 1, none⟩ = some (.int .i64 y) := by
      have := hc w4 k4
      rw [show ((a.toNat : Nat) : Int).toNat = a.toNat by omega] at this
      exact this
    (repeat refine Zlr ?_)
    refine s_v (r_ia (size := 1) rfl rfl rfl rfl (by omega) (by omega)) ?_
    refine s_v (r_ld rfl rfl hcy) ?_
    (repeat refine Zlr ?_)
    refine s_bs (cs := [.int .i64 y]) (e := tInt) rfl (fun b4 w5 n4 => ?_)
    have h4 := n4.blk
    have ho := own_kp ho n4.kp fun _ _ h => h
    have k5 := k4.no n4.kp
    (repeat refine Zlr ?_)
    refine s_app (v0 := .slice sa sn sc) (k := out.length) (m := 1) (size := 1) (bytes := 8) (base := w2.heap.size) (xs := out.map (Value.int .i64)) (news := [.int .i64 y]) rfl rfl rfl rfl rfl rfl rfl rfl ho rfl (blk_cells h4) rfl rfl (by omega) (by omega) k5.size ?_
    intro v' w6 ap
    obtain ⟨a9, c9, e9, _⟩ := own_read ap.own
    subst e9
    (repeat refine Zlr ?_)
    refine l_next (y, out ++ [y], ⟨a9, out.length + 1, c9⟩) ⟨rfl, rfl, rfl, trivial⟩ ⟨?_, ?_, ?_, k5.from0' ap.kp fun i hi e => (by have := own_lt ho e.symm; omega)⟩ (by show rkL nx y < rkL nx a; rw [← hgy]; exact (W.rk hn).1)
    · rw [← hgy]; exact (W.fen.i1 a hn).imp id fun h => h.1
    · show (out ++ [y]) ++ (chL nx y).tail = chL nx x
      rw [← hch, W.ch_step hn, List.tail_cons, List.append_assoc, hgy]
      congr 1
      rcases (W.fen.i1 a hn) with e | e
      · rw [← hgy, e, ch_exit]; rfl
      · rw [← hgy, W.ch_step e.1]; rfl
    · have := ap.own
      rw [← List.map_singleton, ← List.map_append] at this
      simp only [List.length_append, List.length_singleton]
      exact this
  · subst hlt
    rw [ch_exit] at hch
    simp only [List.tail_cons, List.append_nil] at hch
    rw [← hch]
    (repeat refine Zlr ?_)
    exact ret_c1 rfl (rv_t rfl) ⟨own_lo ho (Nat.zero_le _), k2.no k4⟩
theorem fencesFn (W : Wel nx) (hb : nx.length ≤ 1000) (h1 : 1 ≤ nx.length) {w : World} {fs : Sl} {v : Value} (hN : NX w v nx) (a : Int) {x : Int} (hx : x = -1 ∨ Nd nx.length x) :
    Ret Try.prog 17 [.agg #[fs.v, v], .int .i64 a, .int .i64 x] w (fun u w1 => u = .bool (decide (a ∈ chL nx x)) ∧ Kp No w w1) := by
  obtain ⟨va, vc, rfl⟩ := hN.val
  refine ret_enter Try.func17 rfl Try.ntmps17 rfl ?_
  (repeat refine Zlr ?_)
  refine s_box (cs := [fs.v, .slice va nx.length vc]) rfl rfl (fun b2 w1 n1 => ?_)
  have hb1 := n1.blk
  (repeat refine Zlr ?_)
  refine s_call (us := []) (zs := []) (by kernel_rfl) rfl rfl (allFn W hb h1 (fs := fs) (hN.kp n1.kp) hx) ?_
  rintro u w2 ⟨hl, k2⟩
  obtain ⟨ua, uc, rfl⟩ := hl.val
  (repeat refine Zlr ?_)
  refine s_call (us := []) (zs := []) (by kernel_rfl) rfl rfl (containsF _ a hl) ?_
  rintro _ w3 ⟨rfl, k3⟩
  (repeat refine Zlr ?_)
  exact ret_c1 rfl (rv_t rfl) ⟨rfl, (n1.kp.no k2).no k3⟩
def meetP (nx : List (List Int)) (a b : Int) : Int := ((chL nx a).find? fun x => decide (x ∈ chL nx b)).getD (-1)
theorem meetFn (W : Wel nx) (hb : nx.length ≤ 1000) (h1 : 1 ≤ nx.length) {w : World} {fs : Sl} {v : Value} (hN : NX w v nx) {a b : Int} (ha : a = -1 ∨ Nd nx.length a) (hx : b = -1 ∨ Nd nx.length b) :
    Ret Try.prog 18 [.agg #[fs.v, v], .int .i64 a, .int .i64 b] w (fun u w1 => u = .int .i64 (meetP nx a b) ∧ Kp No w w1) := by
  obtain ⟨va, vc, rfl⟩ := hN.val
  refine ret_enter Try.func18 rfl Try.ntmps18 rfl ?_
  (repeat refine Zlr ?_)
  refine s_box (cs := [fs.v, .slice va nx.length vc]) rfl rfl (fun b2 w1 n1 => ?_)
  have hb1 := n1.blk
  (repeat refine Zlr ?_)
  refine s_call (us := []) (zs := []) (by kernel_rfl) rfl rfl (allFn W hb h1 (fs := fs) (hN.kp n1.kp) hx) ?_
  rintro u w2 ⟨hl, k2⟩
  obtain ⟨ua, uc, rfl⟩ := hl.val
  have hb2 := k2.get0 hb1
  have k2 := n1.kp.no k2
  (repeat refine Zlr ?_)
  refine s_call (us := []) (zs := []) (by kernel_rfl) rfl rfl (allFn W hb h1 (fs := fs) (hN.kp k2) ha) ?_
  rintro u3 w3 ⟨hl3, k3⟩
  obtain ⟨L, hL⟩ : ∃ L, chL nx a = L := ⟨_, rfl⟩
  have hll : L.length ≤ 9223372036854775807 := by rw [← hL]; have := own_mx hl3; unfold maxLen at this; omega
  unfold meetP
  rw [hL] at hl3 ⊢
  obtain ⟨va3, vc3, rfl, hlat⟩ := li_at hl3
  have hl := LI.kp hl k3
  have k3 := k2.no k3
  clear hb1 hb2
  (repeat refine Zlr ?_)
  refine k_loop (σ := Nat) (fun i => [(7, .slice ua (chL nx b).length uc), (15, .slice va3 L.length vc3), (16, .int .i64 (L.length : Int)), (17, .int .i64 (i : Int))])
    (fun i w' => i ≤ L.length ∧ (L.drop i).find? (fun x => decide (x ∈ chL nx b)) = L.find? (fun x => decide (x ∈ chL nx b)) ∧ Kp No w3 w') (fun i => L.length - i) 0 ⟨rfl, rfl, rfl, rfl, trivial⟩ ⟨Nat.zero_le _, by rw [List.drop_zero], Kp.refl _ _⟩ ?_
  rintro i l4 w4 ⟨hi, hf, k4⟩
  (repeat refine Zlr ?_)
  refine c_dec rfl (fun hlt => ?_) (fun hge => ?_)
  · have hlt : i < L.length := by omega
    obtain ⟨y, hy⟩ : ∃ y, L[i]? = some y := ⟨_, List.getElem?_eq_getElem hlt⟩
    obtain ⟨ga, hga, hca⟩ := hlat i y hy
    have hls : Value.slice va3 L.length vc3 = .slice (some ⟨ga, 0, none⟩) L.length vc3 := by rw [hga]
    rw [List.drop_eq_getElem_cons hlt] at hf
    have ej : L[i] = y := by rw [List.getElem?_eq_getElem hlt] at hy; exact Option.some.inj hy
    rw [ej, List.find?_cons] at hf
    (repeat refine Zlr ?_)
    refine s_v (r_ia (size := 1) rfl rfl hls rfl (by omega) (by omega)) ?_
    refine s_v (r_ld rfl rfl (hca _ k4)) ?_
    (repeat refine Zlr ?_)
    refine s_call (us := []) (zs := []) (by kernel_rfl) rfl rfl (containsF _ y (LI.kp hl k4)) ?_
    rintro _ w5 ⟨rfl, k5⟩
    by_cases hin : y ∈ chL nx b
    · rw [decide_eq_true hin] at hf ⊢
      (repeat refine Zlr ?_)
      refine c_t rfl ?_
      (repeat refine Zlr ?_)
      exact ret_c1 rfl (rv_t rfl) ⟨by rw [← hf]; rfl, (k3.no k4).no k5⟩
    · rw [decide_eq_false hin] at hf ⊢
      (repeat refine Zlr ?_)
      refine c_f rfl ?_
      (repeat refine Zlr ?_)
      exact l_next (i + 1) ⟨rfl, rfl, rfl, rfl, trivial⟩ ⟨hlt, hf, k4.no k5⟩ (by show L.length - (i + 1) < L.length - i; omega)
  · have hi : i = L.length := by omega
    subst hi
    rw [List.drop_length] at hf
    (repeat refine Zlr ?_)
    exact ret_c1 rfl (rv_t rfl) ⟨by rw [← hf]; rfl, k3.no k4⟩
end
end Go.Proofs.Ytkllhfajldnpoaa.Ck
namespace Go.Proofs.Ytkllhfajldnpoaa.Ck
open Go Go.RowKit Fw Sy Rf Fn
set_option linter.unusedVariables false
set_option maxRecDepth 20000
def RgtR (s : ByteArray) (w : World) (v : Value) (w1 : World) : Prop := ∃ (ux us uf : Sl) (b : Bool), v = .tuple #[.agg #[ux.v, us.v, uf.v], .bool b] ∧ Kp No w w1 ∧ (b = true → ∃ S, s.size ≤ 800 ∧ prs (B s) = .ok () S ∧ Ty w1 ux us uf S ∧ Wys S) ∧ (s.size ≤ 800 → ∀ S, prs (B s) = .ok () S → (kchk0 S → b = true) ∧ Ty w1 ux us uf S)
theorem rgb_B (s : ByteArray) : Rgb (B s) := fun c hc => by
  unfold B at hc
  obtain ⟨x, _, rfl⟩ := List.mem_map.1 hc
  have := x.toNat_lt
  omega
theorem ty_of {w : World} {ux us uf : Sl} {S : PS} {L : List Int} (h : prs L = .ok () S) (hT : Tr w ux.v us.v uf.v S) (b2 : S.st.length ≤ 1000) (b3 : S.fn.length ≤ 32) : Ty w ux us uf S := by
  have W := prs_whole h
  refine ⟨hT, fun i y hy j hj => ?_, fun f hf j hj => ?_, b2, b3⟩
  · obtain ⟨m, z, rfl, h1, _⟩ := W.st i y hy j hj
    omega
  · obtain ⟨m, y, rfl, h1, _⟩ := W.fn f hf j hj
    have := (List.getElem?_eq_some_iff.1 h1).1
    omega
theorem Tr.box {w w' : World} {ux us uf : Value} {S : PS} (h : Tr w ux us uf S) {b : Nat} {cs : Array Value} {T : TypeId} (k : Kp (fun i => i = b) w w') (hb : w.heap[b]? = some (.cells cs T (0, 0))) (t1 : Nat.beq 146 T = false) (t2 : Nat.beq 86 T = false) (t3 : Nat.beq 46 T = false) (t4 : Nat.beq tInt T = false) (t5 : Nat.beq 9 T = false) : Tr w' ux us uf S := by
  have no : ∀ {base : Nat} {e : TypeId} {size : Nat} {v : Value} {n : Nat} {cs : List Value}, w.ownsRow base e size v n cs → Nat.beq e T = false → w'.ownsRow base e size v n cs := fun ho he => own_kp ho k fun g hg e' => by
    obtain ⟨c, hc⟩ := own_ty ho hg
    exact ty_neq hc hb he e'
  obtain ⟨⟨rx, e1, o1, l1⟩, ⟨ry, e2, o2, l2⟩, rz, e3, o3, l3⟩ := h
  exact ⟨⟨rx, e1, no o1 t1, fun r hr => ⟨no (l1 r hr).1 t4, (l1 r hr).2⟩⟩, ⟨ry, e2, no o2 t2, fun r hr => ⟨⟨no (l2 r hr).1.1 t4, (l2 r hr).1.2⟩, no (l2 r hr).2.1 t4, (l2 r hr).2.2⟩⟩,
    ⟨rz, e3, no o3 t3, fun r hr => ⟨⟨no (l3 r hr).1.1 t5, (l3 r hr).1.2⟩, no (l3 r hr).2.1 t4, (l3 r hr).2.2⟩⟩⟩
set_option maxHeartbeats 1000000 in
theorem rightF (s : ByteArray) (w : World) : Ret Try.prog 15 [.string s] w (RgtR s w) := by
  refine ret_enter Try.func15 rfl Try.ntmps15 rfl ?_
  (repeat refine Zlr ?_)
  refine s_al rfl (fun b2 w1 n1 => ?_)
  have G := (Lw.start w).new n1
  have h0 := G.blk 0 rfl; try have h1 := G.blk 1 rfl; try have h2 := G.blk 2 rfl; try have h3 := G.blk 3 rfl; try have h4 := G.blk 4 rfl; try have h5 := G.blk 5 rfl
  (repeat refine Zlr ?_)
  refine c_dec rfl (fun hlen => ?_) (fun hlen => ?_)
  · (repeat refine Zlr ?_)
    refine s_stw (vs := [.slice none 0 0, .slice none 0 0, .slice none 0 0]) rfl rfl rfl rfl rfl h0 rfl (fun w2 s2 => ?_)
    have G := G.put 0 rfl s2
    have h0 := G.blk 0 rfl; try have h1 := G.blk 1 rfl; try have h2 := G.blk 2 rfl; try have h3 := G.blk 3 rfl; try have h4 := G.blk 4 rfl; try have h5 := G.blk 5 rfl
    (repeat refine Zlr ?_)
    exact ret_c2 rfl (rv_agw rfl h0 rfl rfl) (rv_t rfl) ⟨nS, nS, nS, false, rfl, G.kE, fun h => (by cases h), fun h => by omega⟩
  have hs : s.size ≤ 800 := by omega
  (repeat refine Zlr ?_)
  refine s_call (us := []) (zs := []) (by kernel_rfl) rfl rfl (parseF s w1 (by omega)) ?_
  rintro _ w2 ⟨ux, us, uf, a, c, rfl, k2, hor⟩
  have G := G.no k2
  have hsl : ∃ vx vs vf : Sl, ux = vx.v ∧ us = vs.v ∧ uf = vf.v := by
    rcases hor with ⟨S, _, _, hT, _⟩ | ⟨_, _, e1, e2, e3⟩
    · obtain ⟨a, b, c, a', b', c', e1, e2, e3⟩ := Tr.val hT
      exact ⟨⟨a, _, a'⟩, ⟨b, _, b'⟩, ⟨c, _, c'⟩, e1, e2, e3⟩
    · exact ⟨nS, nS, nS, e1, e2, e3⟩
  obtain ⟨ux, us, uf, rfl, rfl, rfl⟩ := hsl
  have h0 := G.blk 0 rfl; try have h1 := G.blk 1 rfl; try have h2 := G.blk 2 rfl; try have h3 := G.blk 3 rfl; try have h4 := G.blk 4 rfl; try have h5 := G.blk 5 rfl
  (repeat refine Zlr ?_)
  refine s_al rfl (fun b4 w3 n4 => ?_)
  have G := G.new n4
  have h0 := G.blk 0 rfl; try have h1 := G.blk 1 rfl; try have h2 := G.blk 2 rfl; try have h3 := G.blk 3 rfl; try have h4 := G.blk 4 rfl; try have h5 := G.blk 5 rfl
  (repeat refine Zlr ?_)
  refine s_stw (vs := [ux.v, us.v, uf.v]) rfl rfl rfl rfl rfl h0 rfl (fun w4 s4 => ?_)
  have G := G.put 0 rfl s4
  obtain ⟨ic, hic, hG⟩ : ∃ ic : List Value, ic.length = 3 ∧ Lw w No w4 [(b4, [ux.v, us.v, uf.v], tTree), (b2, ic, tTree)] := ⟨_, rfl, G⟩
  have k24 : Kp No w2 w4 := n4.kp.trans s4.kp fun i hi e => (by have := n4.ge; have e : i = b4 := e; omega)
  clear G h0 h1 n4 s4 n1
  have G := hG
  clear hG
  have h0 := G.blk 0 rfl; try have h1 := G.blk 1 rfl; try have h2 := G.blk 2 rfl; try have h3 := G.blk 3 rfl; try have h4 := G.blk 4 rfl; try have h5 := G.blk 5 rfl
  (repeat refine Zlr ?_)
  refine c_ne rfl (fun hc => ?_) (fun hc => ?_)
  · (repeat refine Zlr ?_)
    refine s_stw (vs := [.slice none 0 0, .slice none 0 0, .slice none 0 0]) rfl rfl rfl rfl rfl h1 hic (fun w5 s5 => ?_)
    have G := G.put 1 rfl s5
    have h1 := G.blk 1 rfl
    (repeat refine Zlr ?_)
    refine ret_c2 rfl (rv_agw rfl h1 rfl rfl) (rv_t rfl) ⟨nS, nS, nS, false, rfl, G.kE, fun h => (by cases h), fun _ S hS => ?_⟩
    rcases hor with ⟨S', _, e, _⟩ | ⟨hn, _⟩
    · exact (hc e).elim
    · exact (hn S hS).elim
  · obtain ⟨S, hS, _, hT, x1, x2, x3⟩ : ∃ S, prs (B s) = .ok () S ∧ c = 0 ∧ Tr w2 ux.v us.v uf.v S ∧ S.ex.length ≤ 1000001 ∧ S.st.length ≤ 1000 ∧ S.fn.length ≤ 32 := by
      rcases hor with h | ⟨_, h, _⟩
      · exact h
      · exact (h hc).elim
    have hT4 := hT.kp k24
    (repeat refine Zlr ?_)
    refine s_call (us := []) (zs := []) (by kernel_rfl) rfl rfl (checkF hT4 (pg_of hS (rgb_B s) x1 x2 x3)) ?_
    rintro _ w5 ⟨i1, i2, i3, i4, i5, p, c2, rfl, k5, hj, hx⟩
    have G := G.no k5
    have h0 := G.blk 0 rfl; try have h1 := G.blk 1 rfl; try have h2 := G.blk 2 rfl; try have h3 := G.blk 3 rfl; try have h4 := G.blk 4 rfl; try have h5 := G.blk 5 rfl
    (repeat refine Zlr ?_)
    refine s_al rfl (fun b7 w6 n7 => ?_)
    have G := G.new n7
    have h0 := G.blk 0 rfl; try have h1 := G.blk 1 rfl; try have h2 := G.blk 2 rfl; try have h3 := G.blk 3 rfl; try have h4 := G.blk 4 rfl; try have h5 := G.blk 5 rfl
    (repeat refine Zlr ?_)
    refine s_st (vs := [i1.v, i2.v, i3.v, i4.v, i5.v]) rfl rfl rfl rfl rfl h0 (Nat.le_of_ble_eq_true rfl) (fun w7 s7 => ?_)
    have k27 : Kp No w2 w7 := (k24.no k5).no (n7.kp.trans s7.kp fun i hi e => (by have := n7.ge; have e : i = b7 := e; omega))
    have G := (G.put 0 rfl s7).drop 1
    have G : Lw w No w7 [(b4, [ux.v, us.v, uf.v], tTree), (b2, ic, tTree)] := G
    clear h0 h1 h2 n7 s7
    have h0 := G.blk 0 rfl; try have h1 := G.blk 1 rfl; try have h2 := G.blk 2 rfl; try have h3 := G.blk 3 rfl; try have h4 := G.blk 4 rfl; try have h5 := G.blk 5 rfl
    (repeat refine Zlr ?_)
    refine s_stw (vs := [ux.v, us.v, uf.v]) rfl rfl rfl rfl rfl h1 hic (fun w8 s8 => ?_)
    have hT8 := Tr.box (hT.kp k27) s8.kp h1 rfl rfl rfl rfl rfl
    have G := G.put 1 rfl s8
    have h1 := G.blk 1 rfl
    (repeat refine Zlr ?_)
    refine ret_c2 rfl (rv_agw rfl h1 rfl rfl) (rv_t rfl) ⟨ux, us, uf, (c2 == 0), rfl, G.kE, fun h => ?_, fun _ S' hS' => ?_⟩
    · have hc2 : c2 = 0 := beq_iff_eq.1 h
      exact ⟨S, hs, hS, ty_of hS hT8 x2 x3, wy_of (prs_whole hS) (prs_wf hS) (hj hc2)⟩
    · rw [hS] at hS'
      cases hS'
      exact ⟨fun hk => beq_iff_eq.2 (hx hk), ty_of hS hT8 x2 x3⟩
end Go.Proofs.Ytkllhfajldnpoaa.Ck
namespace Go.Proofs.Ytkllhfajldnpoaa.Ck
open Go Go.RowKit Fw Sy Rf Fn
set_option linter.unusedVariables false
set_option maxRecDepth 20000
abbrev tFunc : TypeId := 46
abbrev tGr : TypeId := 26
section
variable {ux us uf : Sl} {S : PS}
set_option maxHeartbeats 1000000 in
theorem firstsF {w : World} (T : Ty w ux us uf S) : Ret Try.prog 25 [.agg #[ux.v, us.v, uf.v]] w (fun v w1 => (∃ fs : Sl, v = fs.v) ∧ Kp No w w1) := by
  have hufn := T.ufn
  have hfb := T.fb
  refine ret_enter Try.func25 rfl Try.ntmps25 rfl ?_
  (repeat refine Zlr ?_)
  refine s_box (cs := [ux.v, us.v, uf.v]) rfl rfl (fun b1 w1 n1 => ?_)
  have G := (Lw.start w).new n1
  have h0 := G.blk 0 rfl; try have h1 := G.blk 1 rfl; try have h2 := G.blk 2 rfl; try have h3 := G.blk 3 rfl; try have h4 := G.blk 4 rfl; try have h5 := G.blk 5 rfl
  (repeat refine Zlr ?_)
  refine s_ms1 (m := uf.n) (c := uf.n) rfl rfl rfl rfl rfl rfl rfl (Nat.le_refl _) (by show 8 * _ ≤ _; omega) (by omega) (fun g w2 n2 => ?_)
  have G := G.new n2
  have h0 := G.blk 0 rfl; try have h1 := G.blk 1 rfl; try have h2 := G.blk 2 rfl; try have h3 := G.blk 3 rfl; try have h4 := G.blk 4 rfl; try have h5 := G.blk 5 rfl
  (repeat refine Zlr ?_)
  refine k_loop (σ := Nat × List Value) (fun t => [(3, .slice (some ⟨g, 0, none⟩) uf.n uf.n), (11, uf.v), (12, .int .i64 (uf.n : Int)), (13, .int .i64 (t.1 : Int))])
    (fun t w' => t.1 ≤ uf.n ∧ t.2.length = uf.n ∧ Lw w No w' [(g, t.2, tInt)]) (fun t => uf.n - t.1) (0, List.replicate uf.n (.int .i64 0)) ⟨rfl, rfl, rfl, rfl, trivial⟩ ⟨Nat.zero_le _, List.length_replicate, ⟨G.kE, fun i b cs T hi => by
      cases i with
      | zero => cases hi; exact G.bx 0 _ _ _ rfl
      | succ i => simp at hi, fun i j b cs cs' T T' h1 h2 => by
      cases i with
      | zero => cases j with
        | zero => rfl
        | succ j => simp at h2
      | succ i => simp at h1⟩⟩ ?_
  clear G h0 h1 n1 n2
  rintro ⟨i, cs⟩ l3 w3 ⟨hi, hcl, G⟩
  simp only at hi hcl G
  try dsimp only
  have h0 := G.blk 0 rfl; try have h1 := G.blk 1 rfl; try have h2 := G.blk 2 rfl; try have h3 := G.blk 3 rfl; try have h4 := G.blk 4 rfl; try have h5 := G.blk 5 rfl
  (repeat refine Zlr ?_)
  refine c_dec rfl (fun hlt => ?_) (fun hge => ?_)
  · have hlt : i < uf.n := by omega
    obtain ⟨f, hf⟩ : ∃ f, S.fn[i]? = some f := ⟨_, List.getElem?_eq_getElem (by omega)⟩
    obtain ⟨fg, flv, ba, bc, hfa, hbd, hfc⟩ := T.fn' hf
    obtain ⟨fg', flv', fmv', hfa', hlp', hlb', hfc'⟩ := Tr.fn (a := uf.a) (n := uf.n) (c := uf.c) T.tr hf
    obtain ⟨pa, pc, rfl⟩ := hlp'.val
    obtain ⟨_, _, e⟩ := hlb'.val
    subst e
    have hfs : Value.slice uf.a uf.n uf.c = .slice (some ⟨fg', 0, none⟩) uf.n uf.c := by rw [hfa']
    obtain ⟨_, _, e, hbat⟩ := li_at hlb'
    cases e
    have hbl : f.bd.length ≤ 9223372036854775807 := by have := own_mx hlb'; unfold maxLen at this; omega
    (repeat refine Zlr ?_)
    refine s_v (r_ia (size := 6) rfl rfl hfs rfl (by omega) (by omega)) ?_
    refine s_v (r_lda (n := 6) (vs := fnC (f, .slice pa f.ps.length pc, .slice _ f.bd.length _)) rfl rfl rfl rfl (cells_ofc rfl fun j u hj => G.kE.cell0 (hfc' j u hj))) ?_
    (repeat refine Zlr ?_)
    refine s_al rfl (fun b5 w4 n5 => ?_)
    have G := G.new n5
    have h0 := G.blk 0 rfl; try have h1 := G.blk 1 rfl; try have h2 := G.blk 2 rfl; try have h3 := G.blk 3 rfl; try have h4 := G.blk 4 rfl; try have h5 := G.blk 5 rfl
    (repeat refine Zlr ?_)
    refine s_st (vs := fnC (f, .slice pa f.ps.length pc, .slice _ f.bd.length _)) rfl rfl rfl rfl rfl h0 (Nat.le_of_ble_eq_true rfl) (fun w5 s5 => ?_)
    have G := G.put 0 rfl s5
    clear h0 h1 n5 s5
    have h0 := G.blk 0 rfl; try have h1 := G.blk 1 rfl; try have h2 := G.blk 2 rfl; try have h3 := G.blk 3 rfl; try have h4 := G.blk 4 rfl; try have h5 := G.blk 5 rfl
    (repeat refine Zlr ?_)
    refine s_v (r_ia (size := 1) rfl rfl rfl rfl (by omega) (by omega)) ?_
    refine s_st (vs := [.int .i64 (-1)]) rfl rfl rfl rfl rfl h1 (by rw [hcl]; show _ + 1 ≤ _; omega) (fun w6 s6 => ?_)
    have G := G.put 1 rfl s6
    clear h0 h1 s6
    have h0 := G.blk 0 rfl; try have h1 := G.blk 1 rfl; try have h2 := G.blk 2 rfl; try have h3 := G.blk 3 rfl; try have h4 := G.blk 4 rfl; try have h5 := G.blk 5 rfl
    (repeat refine Zlr ?_)
    refine c_dec rfl (fun hb0 => ?_) (fun hb0 => ?_)
    · obtain ⟨z, hz⟩ : ∃ z, f.bd[0]? = some z := ⟨_, List.getElem?_eq_getElem (by omega)⟩
      obtain ⟨bg, hba, hbc⟩ := hbat 0 z hz
      cases hba
      (repeat refine Zlr ?_)
      refine s_v (r_ia (size := 1) rfl rfl rfl rfl (by omega) (by omega)) ?_
      refine s_v (r_ld rfl rfl (hbc _ G.kE)) ?_
      (repeat refine Zlr ?_)
      refine s_v (r_ia (size := 1) rfl rfl rfl rfl (by omega) (by omega)) ?_
      refine s_st (vs := [.int .i64 z]) rfl rfl rfl rfl rfl h1 (by rw [setAt_length, hcl]; show _ + 1 ≤ _; omega) (fun w7 s7 => ?_)
      have G := G.put 1 rfl s7
      (repeat refine Zlr ?_)
      exact l_next (i + 1, _) ⟨rfl, rfl, rfl, rfl, trivial⟩ ⟨hlt, by simp [setAt_length, hcl], G.drop 1⟩ (by show uf.n - (i + 1) < uf.n - i; omega)
    · (repeat refine Zlr ?_)
      exact l_next (i + 1, _) ⟨rfl, rfl, rfl, rfl, trivial⟩ ⟨hlt, by simp [hcl], G.drop 1⟩ (by show uf.n - (i + 1) < uf.n - i; omega)
  · (repeat refine Zlr ?_)
    exact ret_c1 rfl (rv_t rfl) ⟨⟨⟨some ⟨g, 0, none⟩, uf.n, uf.n⟩, rfl⟩, G.kE⟩
end
theorem NX.box {w w' : World} {v : Value} {nx : List (List Int)} (h : NX w v nx) {b : Nat} {cs : Array Value} {T : TypeId} (k : Kp (fun i => i = b) w w') (hb : w.heap[b]? = some (.cells cs T (0, 0))) (t1 : Nat.beq tInt T = false) (t2 : Nat.beq tInts T = false) : NX w' v nx := by
  have no : ∀ {base : Nat} {e : TypeId} {size : Nat} {v : Value} {n : Nat} {cs : List Value}, w.ownsRow base e size v n cs → Nat.beq e T = false → w'.ownsRow base e size v n cs := fun ho he => own_kp ho k fun g hg e' => by
    obtain ⟨c, hc⟩ := own_ty ho hg
    exact ty_neq hc hb he e'
  obtain ⟨lvs, h1, h2, h3⟩ := h
  exact ⟨lvs, h1, no h2 t2, fun i lv l a b => no (h3 i lv l a b) t1⟩
def GraR (s : ByteArray) (w : World) (v : Value) (w1 : World) : Prop := ∃ (fs nv : Sl) (b : Bool), v = .tuple #[.agg #[fs.v, nv.v], nv.v, .bool b] ∧ Kp No w w1 ∧ (b = true → ∃ S, s.size ≤ 800 ∧ prs (B s) = .ok () S ∧ Wys S ∧ 1 ≤ (nxS S).length ∧ (nxS S).length ≤ 40 ∧ NX w1 nv.v (nxS S))
set_option maxHeartbeats 1000000 in
theorem graphF (s : ByteArray) (w : World) : Ret Try.prog 11 [.string s] w (GraR s w) := by
  refine ret_enter Try.func11 rfl Try.ntmps11 rfl ?_
  (repeat refine Zlr ?_)
  refine s_al rfl (fun b2 w1 n1 => ?_)
  have G := (Lw.start w).new n1
  have h0 := G.blk 0 rfl; try have h1 := G.blk 1 rfl; try have h2 := G.blk 2 rfl; try have h3 := G.blk 3 rfl; try have h4 := G.blk 4 rfl; try have h5 := G.blk 5 rfl
  (repeat refine Zlr ?_)
  refine s_call (us := []) (zs := []) (by kernel_rfl) rfl rfl (rightF s w1) ?_
  rintro _ w2 ⟨ux, us, uf, b, rfl, k2, hT, _⟩
  have G := G.no k2
  have h0 := G.blk 0 rfl; try have h1 := G.blk 1 rfl; try have h2 := G.blk 2 rfl; try have h3 := G.blk 3 rfl; try have h4 := G.blk 4 rfl; try have h5 := G.blk 5 rfl
  (repeat refine Zlr ?_)
  refine s_al rfl (fun b5 w3 n5 => ?_)
  have G := G.new n5
  have h0 := G.blk 0 rfl; try have h1 := G.blk 1 rfl; try have h2 := G.blk 2 rfl; try have h3 := G.blk 3 rfl; try have h4 := G.blk 4 rfl; try have h5 := G.blk 5 rfl
  (repeat refine Zlr ?_)
  refine s_stw (vs := [ux.v, us.v, uf.v]) rfl rfl rfl rfl rfl h0 rfl (fun w4 s4 => ?_)
  have G := G.put 0 rfl s4
  obtain ⟨ic, hic, hG⟩ : ∃ ic : List Value, ic.length = 2 ∧ Lw w No w4 [(b5, [ux.v, us.v, uf.v], tTree), (b2, ic, tGr)] := ⟨_, rfl, G⟩
  have k24 : Kp No w2 w4 := n5.kp.trans s4.kp fun i hi e => (by have := n5.ge; have e : i = b5 := e; omega)
  clear G h0 h1 n1 n5 s4
  have G := hG
  clear hG
  have h0 := G.blk 0 rfl; try have h1 := G.blk 1 rfl; try have h2 := G.blk 2 rfl; try have h3 := G.blk 3 rfl; try have h4 := G.blk 4 rfl; try have h5 := G.blk 5 rfl
  have no : ∀ {w5 : World}, Lw w No w5 [(b5, [ux.v, us.v, uf.v], tTree), (b2, ic, tGr)] → True := fun _ => trivial
  (repeat refine Zlr ?_)
  cases b with
  | false =>
    (repeat (first | refine Zlr ?_ | refine Zn ?_ | refine Zu ?_ | refine Zg ?_ | refine Zgl ?_))
    refine c_t rfl ?_
    (repeat refine Zlr ?_)
    refine s_stw (vs := [.slice none 0 0, .slice none 0 0]) rfl rfl rfl rfl rfl h1 hic (fun w5 s5 => ?_)
    have G := G.put 1 rfl s5
    have h1 := G.blk 1 rfl
    (repeat refine Zlr ?_)
    exact ret_c3 rfl (rv_agw rfl h1 rfl rfl) (rv_t rfl) (rv_t rfl) ⟨nS, nS, false, rfl, G.kE, fun h => (by cases h)⟩
  | true =>
    obtain ⟨S, hs8, hS, hTy, hW⟩ := hT rfl
    have husn := hTy.usn
    have hnl : (nxS S).length = S.st.length := hW.len
    (repeat (first | refine Zlr ?_ | refine Zn ?_ | refine Zu ?_ | refine Zg ?_ | refine Zgl ?_))
    by_cases h0n : S.st.length = 0
    · refine s_set 21 true rfl (beq_iff_eq.2 (by omega)) ?_
      (repeat (first | refine Zlr ?_ | refine Zn ?_ | refine Zu ?_ | refine Zg ?_ | refine Zgl ?_))
      refine c_t rfl ?_
      (repeat refine Zlr ?_)
      refine s_stw (vs := [.slice none 0 0, .slice none 0 0]) rfl rfl rfl rfl rfl h1 hic (fun w5 s5 => ?_)
      have G := G.put 1 rfl s5
      have h1 := G.blk 1 rfl
      (repeat refine Zlr ?_)
      exact ret_c3 rfl (rv_agw rfl h1 rfl rfl) (rv_t rfl) (rv_t rfl) ⟨nS, nS, false, rfl, G.kE, fun h => (by cases h)⟩
    refine s_set 21 false rfl (beq_eq_false_iff_ne.2 (by omega)) ?_
    (repeat (first | refine Zlr ?_ | refine Zn ?_ | refine Zu ?_ | refine Zg ?_ | refine Zgl ?_))
    refine c_dec rfl (fun h40 => ?_) (fun h40 => ?_)
    · (repeat refine Zlr ?_)
      refine s_stw (vs := [.slice none 0 0, .slice none 0 0]) rfl rfl rfl rfl rfl h1 hic (fun w5 s5 => ?_)
      have G := G.put 1 rfl s5
      have h1 := G.blk 1 rfl
      (repeat refine Zlr ?_)
      exact ret_c3 rfl (rv_agw rfl h1 rfl rfl) (rv_t rfl) (rv_t rfl) ⟨nS, nS, false, rfl, G.kE, fun h => (by cases h)⟩
    have hN40 : S.st.length ≤ 40 := by omega
    (repeat refine Zlr ?_)
    refine s_call (us := []) (zs := []) (by kernel_rfl) rfl rfl (allF hTy hW k24) ?_
    rintro nv w5 ⟨hN, k5⟩
    obtain ⟨va, vc, rfl⟩ := hN.val
    have G := G.no k5
    clear h0 h1
    have h0 := G.blk 0 rfl; try have h1 := G.blk 1 rfl; try have h2 := G.blk 2 rfl; try have h3 := G.blk 3 rfl; try have h4 := G.blk 4 rfl; try have h5 := G.blk 5 rfl
    (repeat refine Zlr ?_)
    have hTy5 : Ty w5 ux us uf S := ⟨hTy.tr.kp (k24.no k5), hTy.ch, hTy.fn, hTy.sb, hTy.fb⟩
    refine s_call (us := []) (zs := []) (by kernel_rfl) rfl rfl (firstsF hTy5) ?_
    rintro _ w6 ⟨⟨fs, rfl⟩, k6⟩
    have hN := hN.kp k6
    have G := G.no k6
    clear h0 h1
    have h0 := G.blk 0 rfl; try have h1 := G.blk 1 rfl; try have h2 := G.blk 2 rfl; try have h3 := G.blk 3 rfl; try have h4 := G.blk 4 rfl; try have h5 := G.blk 5 rfl
    (repeat refine Zlr ?_)
    refine s_stw (vs := [fs.v, .slice va (nxS S).length vc]) rfl rfl rfl rfl rfl h1 hic (fun w7 s7 => ?_)
    have hN := hN.box s7.kp h1 rfl rfl
    have G := G.put 1 rfl s7
    have h1 := G.blk 1 rfl
    (repeat refine Zlr ?_)
    exact ret_c3 rfl (rv_agw rfl h1 rfl rfl) (rv_t rfl) (rv_t rfl) ⟨fs, ⟨va, (nxS S).length, vc⟩, true, rfl, G.kE, fun _ => ⟨S, hs8, hS, hW, by omega, by omega, hN⟩⟩
end Go.Proofs.Ytkllhfajldnpoaa.Ck
namespace Go.Proofs.Ytkllhfajldnpoaa.Ck
open Go Go.RowKit Fw Sy Rf Fn
set_option linter.unusedVariables false
set_option maxRecDepth 20000
def aw8 : ByteArray := ⟨#[102, 117, 110, 99, 32, 109, 97, 105, 110, 40, 41, 32, 123, 32, 118, 97, 114, 32, 120, 32, 61, 32, 48, 59, 32, 105, 102, 32, 116, 114, 117, 101, 32, 123, 32, 120, 32, 61, 32, 49, 59, 32, 125, 32, 120, 32, 61, 32, 50, 59, 32, 125]⟩
def nx8 : List (List Int) := [[2], [3], [1, 3], [-1]]
def chk8 : Bool := match prs (B aw8) with
  | .ok () S => (match S.fn with
    | [f] => decide (f.nm = wMain ∧ f.ps = [] ∧ f.ty = 4) && (kbody (kst0 S 0 5) f.bd ⟨[], 0, 0, [[]]⟩).isSome && decide (nxS S = nx8)
    | _ => false)
  | _ => false
theorem chk8_ok : chk8 = true := by decide +kernel
theorem fen8 : fenL nx8 = [2, 3, 3, -1] := by decide +kernel
theorem aw8_of : ∃ S, prs (B aw8) = .ok () S ∧ kchk0 S ∧ nxS S = nx8 := by
  have h := chk8_ok
  unfold chk8 at h
  split at h
  · rename_i S hS
    split at h
    · rename_i f hf
      rw [Bool.and_eq_true, Bool.and_eq_true] at h
      obtain ⟨⟨h1, h2⟩, h3⟩ := h
      obtain ⟨k', hk'⟩ := Option.isSome_iff_exists.1 h2
      have h1 := of_decide_eq_true h1
      exact ⟨S, hS, ⟨f, k', 5, hf, h1.1, h1.2.1, h1.2.2, hk'⟩, of_decide_eq_true h3⟩
    · cases h
  · cases h
set_option maxHeartbeats 1000000 in
theorem awake8F (w : World) : Ret Try.prog 10 [] w (fun v w1 => v = .bool true ∧ Kp No w w1) := by
  obtain ⟨S, hS, hK, hnx⟩ := aw8_of
  refine ret_enter Try.func10 rfl Try.ntmps10 rfl ?_
  (repeat refine Zlr ?_)
  refine s_call (us := []) (zs := []) (by kernel_rfl) rfl rfl (rightF aw8 w) ?_
  rintro _ w1 ⟨ux, us, uf, b, rfl, k1, hT, hX⟩
  have hb : b = true := (hX (by decide) S hS).1 hK
  subst hb
  obtain ⟨S', _, hS', hTy, hW⟩ := hT rfl
  have e : S' = S := by rw [hS] at hS'; cases hS'; rfl
  subst e
  have hl4 : (nxS S').length = 4 := by rw [hnx]; rfl
  have G := (Lw.start w).no k1
  (repeat refine Zlr ?_)
  refine s_al rfl (fun b1 w2 n2 => ?_)
  have G := G.new n2
  have h0 := G.blk 0 rfl; try have h1 := G.blk 1 rfl; try have h2 := G.blk 2 rfl; try have h3 := G.blk 3 rfl; try have h4 := G.blk 4 rfl; try have h5 := G.blk 5 rfl
  (repeat refine Zlr ?_)
  refine s_stw (vs := [ux.v, us.v, uf.v]) rfl rfl rfl rfl rfl h0 rfl (fun w3 s3 => ?_)
  have G : Lw w No w3 [(b1, [ux.v, us.v, uf.v], tTree)] := G.put 0 rfl s3
  have k13 : Kp No w1 w3 := n2.kp.trans s3.kp fun i hi e => (by have := n2.ge; have e : i = b1 := e; omega)
  clear h0 n2 s3
  have h0 := G.blk 0 rfl; try have h1 := G.blk 1 rfl; try have h2 := G.blk 2 rfl; try have h3 := G.blk 3 rfl; try have h4 := G.blk 4 rfl; try have h5 := G.blk 5 rfl
  have hTy3 : Ty w3 ux us uf S' := ⟨hTy.tr.kp k13, hTy.ch, hTy.fn, hTy.sb, hTy.fb⟩
  (repeat refine Zlr ?_)
  have g0 := h0
  refine k_h (fun w' => Kp No w3 w') [(0, false), (2, false), (1, true), (3, true), (4, false), (5, true), (6, false)] 6 (by kernel_rfl) (waits_of_last (by kernel_rfl)) (by kernel_rfl) (by kernel_rfl) (by kernel_rfl) rfl (fun w4 k4 _ => ?_)
  refine h_v k4 (fun w' hw => r_ldw rfl (hw.get0 g0) rfl rfl) ?_
  refine h_v k4 (fun w' hw => r_ldw rfl (hw.get0 g0) rfl rfl) ?_
  refine h_call (us := []) (zs := []) (by kernel_rfl) rfl rfl (firstsF (w := w4) ⟨hTy3.tr.kp k4, hTy3.ch, hTy3.fn, hTy3.sb, hTy3.fb⟩) ?_
  rintro _ w5 ⟨⟨fs, rfl⟩, k5⟩
  have k5 := k4.no k5
  refine ⟨fun _ => k5, ?_⟩
  refine h_call (us := []) (zs := []) (by kernel_rfl) rfl rfl (allF hTy3 hW k5) ?_
  rintro nv w6 ⟨hN, k6⟩
  obtain ⟨va, vc, rfl⟩ := hN.val
  have k6 := k5.no k6
  refine ⟨fun _ => k6, ?_⟩
  refine h_v k6 (fun w' hw => r_bd rfl) ?_
  refine h_call (us := []) (zs := []) (by kernel_rfl) rfl rfl (nextFn (fs := fs) hW.wel (by omega) (by omega) hN) ?_
  rintro _ w7 ⟨g, rfl, hf, k7⟩
  have k7 := k6.no k7
  refine ⟨fun _ => k7, ?_⟩
  refine h_v k7 (fun w' hw => r_as rfl) ?_
  refine h_nil ?_
  rw [hl4] at hf ⊢
  rw [hnx, fen8] at hf
  obtain ⟨_, _, e, hat⟩ := li_at hf
  rw [Value.slice.injEq] at e
  obtain ⟨rfl, _, rfl⟩ := e
  have rd : ∀ (k : Nat) (j : Int), ([2, 3, 3, -1] : List Int)[k]? = some j → w7.cell? ⟨g, 0 + (k : Int).toNat * 1, none⟩ = some (.int .i64 j) := fun k j hj => by
    obtain ⟨g', e, hc⟩ := hat k j hj
    cases e
    exact hc _ (Kp.refl _ _)
  have c2 := rd 2 3 rfl
  have c1 := rd 1 3 rfl
  have c3 := rd 3 (-1) rfl
  (repeat refine Zlr ?_)
  (repeat (first | refine Zlr ?_ | refine Zn ?_ | refine Zu ?_ | refine Zg ?_ | refine Zgl ?_))
  refine s_set 20 true rfl (by decide) ?_
  (repeat (first | refine Zlr ?_ | refine Zn ?_ | refine Zu ?_ | refine Zg ?_ | refine Zgl ?_))
  try (refine s_gv rfl (r_ia (size := 1) rfl rfl rfl rfl (by decide) (by decide)) ?_; (repeat (first | refine Zlr ?_ | refine Zn ?_ | refine Zu ?_ | refine Zg ?_ | refine Zgl ?_)))
  try (refine s_gv rfl (r_ld rfl rfl c2) ?_; (repeat (first | refine Zlr ?_ | refine Zn ?_ | refine Zu ?_ | refine Zg ?_ | refine Zgl ?_)))
  refine s_set 26 true rfl (by decide) ?_
  (repeat (first | refine Zlr ?_ | refine Zn ?_ | refine Zu ?_ | refine Zg ?_ | refine Zgl ?_))
  try (refine s_gv rfl (r_ia (size := 1) rfl rfl rfl rfl (by decide) (by decide)) ?_; (repeat (first | refine Zlr ?_ | refine Zn ?_ | refine Zu ?_ | refine Zg ?_ | refine Zgl ?_)))
  try (refine s_gv rfl (r_ld rfl rfl c1) ?_; (repeat (first | refine Zlr ?_ | refine Zn ?_ | refine Zu ?_ | refine Zg ?_ | refine Zgl ?_)))
  refine s_set 32 true rfl (by decide) ?_
  (repeat (first | refine Zlr ?_ | refine Zn ?_ | refine Zu ?_ | refine Zg ?_ | refine Zgl ?_))
  try (refine s_gv rfl (r_ia (size := 1) rfl rfl rfl rfl (by decide) (by decide)) ?_; (repeat (first | refine Zlr ?_ | refine Zn ?_ | refine Zu ?_ | refine Zg ?_ | refine Zgl ?_)))
  try (refine s_gv rfl (r_ld rfl rfl c3) ?_; (repeat (first | refine Zlr ?_ | refine Zn ?_ | refine Zu ?_ | refine Zg ?_ | refine Zgl ?_)))
  exact ret_c1 rfl (rv_t rfl) ⟨rfl, k1.no (k13.no k7)⟩
end Go.Proofs.Ytkllhfajldnpoaa.Ck
