/- What the proofs of this seat lean on, part 10. -/
import Derived.Test.YtkllhfajldnpoaaPk9
import Derived.ArgAppend
namespace Go.Proofs.Ytkllhfajldnpoaa.Fw
open Go Go.RowKit
/-- A list that begins anywhere in a row. -/
structure Qv (w : World) (e : TypeId) (g o c : Nat) (cs : List Value) : Prop where
  ex : ∃ cur : List Value, w.heap[g]? = some (.cells cur.toArray e (0, 0)) ∧ o + c ≤ cur.length ∧ ∀ (j : Nat) u, cs[j]? = some u → cur[o + j]? = some u
  le : cs.length ≤ c
section
variable {P : Program} {w w' : World} {e : TypeId} {g o c : Nat} {cs : List Value}
theorem Qv.cell (h : Qv w e g o c cs) {j : Nat} {u : Value} (hj : cs[j]? = some u) : w.cell? ⟨g, o + j, none⟩ = some u := by
  obtain ⟨cur, h1, h2, h3⟩ := h.ex
  exact cell_of_blk h1 (by simpa using h3 j u hj)
theorem Qv.kp {T : Nat → Prop} (h : Qv w e g o c cs) (k : Kp T w w') (hT : ¬ T g) : Qv w' e g o c cs := by
  obtain ⟨cur, h1, h2, h3⟩ := h.ex
  exact ⟨⟨cur, k.get h1 hT, h2, h3⟩, h.le⟩
theorem Qv.tail {x : Value} {r : List Value} (h : Qv w e g o c (x :: r)) : Qv w e g (o + 1) (c - 1) r := by
  obtain ⟨cur, h1, h2, h3⟩ := h.ex
  have hl := h.le
  simp only [List.length_cons] at hl
  exact ⟨⟨cur, h1, by omega, fun j u hj => by rw [show o + 1 + j = o + (j + 1) by omega]; exact h3 (j + 1) u (by simpa using hj)⟩, by omega⟩
theorem Qv.tail' {x : Value} {r : List Value} (h : Qv w e g o c (x :: r)) : Qv w e g (if 1 < c then o + 1 else o) (c - 1) r := by
  split
  · exact h.tail
  · have hl := h.le
    simp only [List.length_cons] at hl
    have hr : r = [] := List.eq_nil_of_length_eq_zero (by omega)
    subst hr
    obtain ⟨cur, h1, h2, h3⟩ := h.ex
    exact ⟨⟨cur, h1, by omega, fun j u hj => by simp at hj⟩, Nat.zero_le _⟩
theorem subA_1 (hc : 1 ≤ c) : subA (some ⟨g, o, none⟩) 1 c 1 = some ⟨g, (if 1 < c then o + 1 else o), none⟩ := by
  unfold subA
  by_cases h : 1 < c
  · rw [if_neg (by omega), if_pos h]; simp [addr_add]
  · rw [if_neg h, if_pos (by omega)]
section
variable {ρ : Operand → Value} {dst : Option Nat} {pos : String} {af : Array Edge} {gd : Option (Nat × Bool)}
theorem run_apq {s x : Operand} {t ty : TypeId} {i : TypeInfo} {z : Value} {m c2 : Nat} {news : List Value} {bx ox : Nat} (ht : P.underlying t = some (.slice e)) (hi : P.info? e = some i) (hz : i.zero = some z)
    (hsize : i.size = 1) (hsz : szT P e = some 1) (hzs : (cellsL z).length = 1) (hs : ρ s = .slice (some ⟨g, o, none⟩) cs.length c) (hx : ρ x = .slice (some ⟨bx, ox, none⟩) m c2) (hq : Qv w e g o c cs) (hnews : ∀ j u, news[j]? = some u → w.cell? ⟨bx, ox + j, none⟩ = some u) (hl : news.length = m) (h1 : news.all Value.oneCell' = true) (hb : (cs.length + m) * i.bytes ≤ 140737488355328) (hb' : cs.length + m ≤ 9223372036854775807) :
    ∃ g' o' c' w', Rn P ρ ⟨dst, .call ⟨.builtin .append, #[s, x], #[t, t]⟩, ty, pos, af, gd⟩ w (.ok (.value (.slice (some ⟨g', o', none⟩) (cs.length + m) c')) w') ∧ Qv w' e g' o' c' (cs ++ news) ∧ Kp (fun j => j = g) w w' ∧ (g' = g ∨ w.heap.size ≤ g') := by
  obtain ⟨cur, q1, q2, q3⟩ := hq.ex
  have hle := hq.le
  by_cases hroom : cs.length + m ≤ c
  · have hr := r_apf (P := P) (ρ := ρ) (dst := dst) (ty := ty) (pos := pos) (af := af) (g := gd) (s := s) (x := x) (news := news) (cs := cur) (T := e) (size := 1) ht hsz hs hx hroom (by omega) (.inr ⟨bx, ox, rfl, hnews⟩) h1 q1 (by omega)
    have sb := sb_setRow q1 (cs' := setAt cur (o + cs.length * 1) news)
    refine ⟨g, o, c, _, hr, ⟨⟨setAt cur (o + cs.length * 1) news, sb.blk, by rw [setAt_length]; exact q2, fun j u hj => ?_⟩, by rw [List.length_append, hl]; exact hroom⟩, sb.kp, .inl rfl⟩
    rw [setAt_eq _ _ _ (by omega)]
    rcases Nat.lt_or_ge j cs.length with h | h
    · rw [List.getElem?_append_left h] at hj
      rw [List.append_assoc, List.getElem?_append_left (by rw [List.length_take]; omega), List.getElem?_take, if_pos (by omega)]
      exact q3 j u hj
    · rw [List.getElem?_append_right h] at hj
      have hjl := (List.getElem?_eq_some_iff.1 hj).1
      rw [List.append_assoc, List.getElem?_append_right (by rw [List.length_take]; omega), List.getElem?_append_left (by rw [List.length_take]; omega), List.length_take]
      rw [show o + j - min (o + cs.length * 1) cur.length = j - cs.length by omega]
      exact hj
  · obtain ⟨v', w', r1, r2, r3⟩ := run_append_arg_grows (P := P) w t ty e i z 1 i.bytes ht hi hz hsize rfl (by rw [cells_toArray]; simpa using hzs) (by decide) ⟨g, o, none⟩ cs.length c cs (by simp) (fun j u hj => by rw [addr_add]; exact hq.cell hj) ⟨bx, ox, none⟩ m c2 news (by simp [hl]) (fun j u hj => by rw [addr_add]; exact hnews j u hj) (by omega) (by unfold maxLen; omega) hb
    have r4 := r_app (P := P) (e := e) (dst := dst) (pos := pos) (af := af) (g := gd) hs hx r1
    have rl := r2.1
    rcases r2.2 with ⟨_, e2⟩ | ⟨g', cap, cur', e1, hg', hb', hn, hm, hs, ht'⟩
    · rw [e2] at rl; simp at rl; omega
    · subst e1
      refine ⟨g', 0, cap, w', r4, ⟨⟨cur'.toList, hb', by simp at hs ⊢; omega, fun j u hj => ?_⟩, by rw [List.length_append, hl]; exact hn⟩, (Kp.of_grown r3).mono (fun k _ h => by cases h), .inr hg'⟩
      have hj' := (List.getElem?_eq_some_iff.1 hj).1
      rw [← ht', List.getElem?_take] at hj
      split at hj
      · rw [Nat.zero_add]; exact hj
      · cases hj
end
variable {ops : Array Oper} {rest : List Oper} {q : Pst P} {n : Nat} {l : Slots} {ds : List Deferred} {d : Nat}
theorem s_apq {s x : Operand} {t ty : TypeId} {pos : String} {af : Array Edge} {i : TypeInfo} {z : Value} {m c2 : Nat} {news : List Value} {bx ox : Nat} (ht : P.underlying t = some (.slice e)) (hi : P.info? e = some i) (hz : i.zero = some z)
    (hsize : i.size = 1) (hsz : szT P e = some 1) (hzs : (cellsL z).length = 1) (hs : ev n l s = .slice (some ⟨g, o, none⟩) cs.length c) (hx : ev n l x = .slice (some ⟨bx, ox, none⟩) m c2) (hq : Qv w e g o c cs) (hnews : ∀ j u, news[j]? = some u → w.cell? ⟨bx, ox + j, none⟩ = some u) (hl : news.length = m) (h1 : news.all Value.oneCell' = true) (hb : (cs.length + m) * i.bytes ≤ 140737488355328) (hb' : cs.length + m ≤ 9223372036854775807)
    (h : ∀ g' o' c' w', Qv w' e g' o' c' (cs ++ news) → Kp (fun j => j = g) w w' → (g' = g ∨ w.heap.size ≤ g') → Wl P ops q rest n ((d, .slice (some ⟨g', o', none⟩) (cs.length + m) c') :: l) ds w') :
    Wl P ops q (⟨some d, .call ⟨.builtin .append, #[s, x], #[t, t]⟩, ty, pos, af, none⟩ :: rest) n l ds w := by
  obtain ⟨g', o', c', w', h2, h3, h4, h5⟩ := run_apq (P := P) (dst := some d) (ty := ty) (pos := pos) (af := af) (gd := none) ht hi hz hsize hsz hzs hs hx hq hnews hl h1 hb hb'
  exact s_go h2 (h g' o' c' w' h3 h4 h5)
end
end Go.Proofs.Ytkllhfajldnpoaa.Fw
namespace Go.Proofs.Ytkllhfajldnpoaa.Ck
open Go Go.RowKit Fw Sy Rf Fn
set_option linter.unusedVariables false
set_option maxRecDepth 20000
abbrev tBool : TypeId := 4
theorem NX.val {w : World} {v : Value} {nx : List (List Int)} (h : NX w v nx) : ∃ a c, v = .slice a nx.length c := by
  obtain ⟨lvs, h1, h2, h3⟩ := h
  obtain ⟨a, c, e, _⟩ := own_read h2
  exact ⟨a, c, e⟩
theorem NX.mx {w : World} {v : Value} {nx : List (List Int)} (h : NX w v nx) : nx.length ≤ 9223372036854775807 := by
  obtain ⟨lvs, h1, h2, h3⟩ := h
  have := own_mx h2
  unfold maxLen at this; omega
theorem NX.at_ {w : World} {a : Option Addr} {n c : Nat} {nx : List (List Int)} (h : NX w (.slice a n c) nx) {x : Int} (hx : Nd nx.length x) : ∃ g la lc, a = some ⟨g, 0, none⟩ ∧ LI w (.slice la (gl nx x).length lc) (gl nx x) ∧ ∀ w', Kp No w w' → w'.cell? ⟨g, 0 + x.toNat * 1, none⟩ = some (.slice la (gl nx x).length lc) := by
  obtain ⟨lvs, h1, h2, h3⟩ := h
  have hlt : x.toNat < nx.length := by have := hx.1; have := hx.2; omega
  obtain ⟨a', c', e, _, h0, hc⟩ := own_read h2
  cases e
  obtain ⟨lv, hlv⟩ : ∃ lv, lvs[x.toNat]? = some lv := ⟨_, List.getElem?_eq_getElem (by omega)⟩
  have hg : nx[x.toNat]? = some (gl nx x) := by unfold gl; rw [List.getD_eq_getElem?_getD, List.getElem?_eq_getElem hlt]; rfl
  have hl := h3 _ _ _ hlv hg
  obtain ⟨la, lc, rfl⟩ := hl.val
  cases a with
  | none => have := h0 rfl; omega
  | some ad =>
    obtain ⟨g, rfl, _, _, hc⟩ := hc _ rfl
    refine ⟨g, la, lc, rfl, hl, fun w' k => k.cell0 ?_⟩
    rw [show 0 + x.toNat * 1 = 0 + x.toNat by omega]
    exact hc _ _ hlv
/-- A list's cells, wherever it begins in them. -/
theorem li_all {w : World} {a : Option Addr} {n c : Nat} {l : List Int} (h : LI w (.slice a n c) l) (hl : l ≠ []) : ∃ g, a = some ⟨g, 0, none⟩ ∧ n = l.length ∧ ∀ w', Kp No w w' → ∀ (j : Nat) u, (l.map (Value.int .i64))[j]? = some u → w'.cell? ⟨g, 0 + j, none⟩ = some u := by
  obtain ⟨a', c', e, _, h0, hc⟩ := own_read h
  cases e
  cases a with
  | none => have := h0 rfl; exact (hl (List.eq_nil_of_length_eq_zero (by omega))).elim
  | some ad =>
    obtain ⟨g, rfl, _, _, hc⟩ := hc _ rfl
    exact ⟨g, rfl, rfl, fun w' k j u hj => k.cell0 (hc j u hj)⟩
theorem setAt_b (l : List Bool) (i : Nat) (b : Bool) (hi : i < l.length) : setAt (l.map Value.bool) i [.bool b] = (l.set i b).map Value.bool := by
  rw [setAt_eq _ _ _ (by simp; omega), List.map_set, List.set_eq_take_append_cons_drop, if_pos (by simpa using hi)]
  simp
theorem uns_le : ∀ (l : List Bool) (i : Nat), uns (l.set i true) ≤ uns l := by
  intro l
  induction l with
  | nil => intro i; simp
  | cons b l ih =>
    intro i
    cases i with
    | zero => simp only [List.set_cons_zero, uns, List.countP_cons]; cases b <;> simp
    | succ i => have := ih i; simp only [List.set_cons_succ, uns, List.countP_cons] at this ⊢; omega
theorem rch_end {nx : List (List Int)} {but : Int} {n : Nat} {out : List Bool} : rch nx but n [] out = out := by cases n <;> rfl
section
variable {nx : List (List Int)}
set_option maxHeartbeats 2000000 in
theorem reachF (W : Wel nx) {w : World} {v : Value} (hN : NX w v nx) (hb : nx.length ≤ 1000) {x but : Int} (hx : Nd nx.length x) :
    Ret Try.prog 30 [v, .int .i64 x, .int .i64 but] w (fun u w1 => ∃ g, u = .slice (some ⟨g, 0, none⟩) (nx.length + 1) (nx.length + 1) ∧ w1.heap[g]? = some (.cells ((reachL nx x but).map Value.bool).toArray tBool (0, 0)) ∧ Kp No w w1) := by
  obtain ⟨va, vc, rfl⟩ := hN.val
  have hx0 := hx.1
  have hx1 := hx.2
  refine ret_enter Try.func30 rfl Try.ntmps30 rfl ?_
  (repeat refine Zlr ?_)
  refine s_ms1 (m := nx.length + 1) (c := nx.length + 1) rfl rfl rfl rfl rfl rfl rfl (Nat.le_refl _) (by show 1 * _ ≤ _; omega) (by omega) (fun bo w1 n1 => ?_)
  have n1 : Nb w bo ((List.replicate (nx.length + 1) false).map Value.bool) tBool w1 := by rw [List.map_replicate]; exact n1
  have G := (Lw.start w).new n1
  have h0 := G.blk 0 rfl; try have h1 := G.blk 1 rfl; try have h2 := G.blk 2 rfl; try have h3 := G.blk 3 rfl; try have h4 := G.blk 4 rfl; try have h5 := G.blk 5 rfl
  (repeat refine Zlr ?_)
  obtain ⟨vg, la, lc, rfl, hl, hvc⟩ := hN.at_ hx
  have hln : gl nx x ≠ [] := fun e => by
    have := W.rx x hx
    cases this with
    | out h => rw [e] at h; cases h
    | on h _ _ => rw [e] at h; cases h
  obtain ⟨lg, rfl, _, hlc⟩ := li_all hl hln
  have hl2 := (W.hr x hx).1
  refine s_bs0 rfl (e := tInt) rfl (fun b4 w2 n2 => ?_)
  have G := G.no n2.kp
  have K2 := G.kE
  (repeat refine Zlr ?_)
  refine s_v (r_ia (size := 1) rfl rfl rfl rfl (by omega) (by omega)) ?_
  refine s_v (r_ld rfl rfl (hvc _ K2)) ?_
  have q0 : Qv w2 tInt b4 0 0 ([] : List Value) := ⟨⟨[], n2.blk, Nat.le_refl _, fun j u hj => by simp at hj⟩, Nat.le_refl _⟩
  refine s_apq (m := (gl nx x).length) (news := (gl nx x).map (Value.int .i64)) (cs := []) rfl rfl rfl rfl rfl rfl rfl rfl q0 (hlc _ K2) (by simp) (by simp [List.all_map]; exact fun _ _ => rfl) (by show (0 + _) * 8 ≤ _; omega) (by show 0 + _ ≤ _; omega) ?_
  intro g o c w3 hq k3 hg
  have hg4 : w.heap.size ≤ g := by
    have := n1.kp.size
    have := n2.ge
    have := n2.kp.size
    rcases hg with e | e <;> omega
  have G : Lw w No w3 [(bo, (List.replicate (nx.length + 1) false).map Value.bool, tBool)] :=
    ⟨G.kE.from0' k3 fun i hi e => (by have := n1.kp.size; have := n2.ge; omega), fun i b cs T hi => ⟨(G.bx i b cs T hi).1, k3.get (G.bx i b cs T hi).2 fun e => by
      have := lt_of_get (G.bx i b cs T hi).2
      have h4 := n2.blk
      rw [← e] at h4
      rw [(G.bx i b cs T hi).2] at h4
      cases i with
      | zero => cases hi; cases h4
      | succ i => simp at hi⟩, G.nd⟩
  clear h0 q0 k3 hg n2
  rw [List.nil_append] at hq
  (repeat refine Zlr ?_)
  refine k_loop (σ := (Nat × List Int × List Bool) × (Nat × Nat × Nat)) (fun t => [(0, .slice (some ⟨vg, 0, none⟩) nx.length vc), (2, .int .i64 but), (7, .slice (some ⟨bo, 0, none⟩) (nx.length + 1) (nx.length + 1)), (8, .slice (some ⟨t.2.1, t.2.2.1, none⟩) t.1.2.1.length t.2.2.2)])
    (fun t w' => t.1.2.2.length = nx.length + 1 ∧ (∀ s ∈ t.1.2.1, s = -1 ∨ Nd nx.length s) ∧ rmu t.1.2.2 t.1.2.1 ≤ t.1.1 ∧ rch nx but t.1.1 t.1.2.1 t.1.2.2 = reachL nx x but ∧ t.1.1 ≤ rfu nx.length ∧ w.heap.size ≤ t.2.1 ∧ Qv w' tInt t.2.1 t.2.2.1 t.2.2.2 (t.1.2.1.map (Value.int .i64)) ∧ Lw w No w' [(bo, t.1.2.2.map Value.bool, tBool)])
    (fun t => t.1.1) ((rfu nx.length, gl nx x, List.replicate (nx.length + 1) false), (g, o, c)) ⟨rfl, rfl, rfl, by simp; rfl, trivial⟩
    ⟨List.length_replicate, fun s hs => (W.hr x hx).2 s hs, by
      show 3 * uns (List.replicate (nx.length + 1) false) + (gl nx x).length ≤ 3 * (nx.length + 1) + 3
      unfold uns; have := List.countP_le_length (p := fun b => !b) (l := List.replicate (nx.length + 1) false); rw [List.length_replicate] at this; omega, rfl, Nat.le_refl _, hg4, hq, G⟩ ?_
  clear G hq hg4
  rintro ⟨⟨n, todo, out⟩, ⟨g, o, c⟩⟩ l' w4 ⟨ho, hto, hmu, hr, hn, hg, hq, G⟩
  simp only at ho hto hmu hr hn hg hq G
  try dsimp only
  have h0 := G.blk 0 rfl; try have h1 := G.blk 1 rfl; try have h2 := G.blk 2 rfl; try have h3 := G.blk 3 rfl; try have h4 := G.blk 4 rfl; try have h5 := G.blk 5 rfl
  (repeat refine Zlr ?_)
  cases todo with
  | nil =>
    refine c_f rfl ?_
    rw [rch_end] at hr
    subst hr
    (repeat refine Zlr ?_)
    exact ret_c1 rfl (rv_t rfl) ⟨bo, rfl, h0, G.kE⟩
  | cons a r =>
    have hmu' := hmu
    unfold rmu at hmu'
    simp only [List.length_cons] at hmu'
    obtain ⟨m, rfl⟩ : ∃ m, n = m + 1 := ⟨n - 1, by omega⟩
    refine c_t (by show Value.bool (decide (((a :: r).length : Int) > 0)) = _; simp) ?_
    have hcl := hq.le
    simp only [List.length_map, List.length_cons] at hcl
    have ha := hto a List.mem_cons_self
    have hto' : ∀ s ∈ r, s = -1 ∨ Nd nx.length s := fun s hs => hto s (List.mem_cons_of_mem _ hs)
    have hq1 : w4.cell? ⟨g, o + (0 : Int).toNat * 1, none⟩ = some (.int .i64 a) := hq.cell (j := 0) (by simp)
    have hq2 := Qv.tail' (x := .int .i64 a) (r := r.map (Value.int .i64)) (by simpa using hq)
    obtain ⟨o2, ho2⟩ : ∃ o2, (if 1 < c then o + 1 else o) = o2 := ⟨_, rfl⟩
    rw [ho2] at hq2
    have hsub : subA (some ⟨g, o, none⟩) (1 : Int).toNat c 1 = some ⟨g, o2, none⟩ := by rw [← ho2]; exact subA_1 (by omega)
    have hbl : (r.length : Int) ≤ 100000 := by unfold rfu at hn; omega
    have K4 := G.kE
    (repeat refine Zlr ?_)
    refine s_v (r_ia (size := 1) rfl rfl rfl rfl (by omega) (by simp only [List.length_cons]; omega)) ?_
    refine s_v (r_ld rfl rfl hq1) ?_
    (repeat refine Zlr ?_)
    refine s_v (r_slx (a' := some ⟨g, o2, none⟩) (n' := r.length) (c' := c - 1) rfl rfl rfl rfl rfl (by omega) (by simp only [List.length_cons]; omega) (by simp only [List.length_cons]; omega) (by simp only [List.length_cons]; omega) hsub (by simp) (by simp)) ?_
    (repeat refine Zlr ?_)
    refine c_eq rfl (fun hab => ?_) (fun hab => ?_)
    · (repeat refine Zlr ?_)
      refine l_next ((m, r, out), (g, o2, c - 1)) ⟨rfl, rfl, rfl, rfl, trivial⟩ ⟨ho, hto', by show 3 * uns out + r.length ≤ m; omega, ?_, by show m ≤ _; omega, hg, hq2, G⟩ (by show m < m + 1; omega)
      rw [← hr, rch, if_pos hab]
    rw [rch, if_neg hab] at hr
    (repeat refine Zlr ?_)
    refine c_dec rfl (fun ha0 => ?_) (fun ha0 => ?_)
    · rw [if_pos ha0] at hr
      (repeat refine Zlr ?_)
      refine s_v (r_ia (size := 1) rfl rfl rfl rfl (by omega) (by omega)) ?_
      refine s_st (vs := [.bool true]) rfl rfl rfl rfl rfl h0 (by rw [List.length_map]; simp; omega) (fun w5 s => ?_)
      have s : Sb w4 bo ((out.set nx.length true).map Value.bool) tBool w5 := by
        rw [← setAt_b _ _ _ (by omega)]
        rw [show nx.length = 0 + (nx.length : Int).toNat * 1 by omega]
        exact s
      have G := G.put 0 rfl s
      have hq3 := hq2.kp s.kp (fun e => by
        obtain ⟨cur, h4, _⟩ := hq.ex
        rw [e, h0] at h4
        cases h4)
      (repeat refine Zlr ?_)
      refine l_next ((m, r, out.set nx.length true), (g, o2, c - 1)) ⟨rfl, rfl, rfl, rfl, trivial⟩ ⟨by rw [List.length_set]; exact ho, hto', ?_, hr, by show m ≤ _; omega, hg, hq3, G⟩ (by show m < m + 1; omega)
      show 3 * uns (out.set nx.length true) + r.length ≤ m
      have := uns_le out nx.length
      omega
    rw [if_neg ha0] at hr
    have han : Nd nx.length a := ha.resolve_left (by omega)
    have han1 := han.2
    obtain ⟨sb, hsb⟩ : ∃ sb, out[a.toNat]? = some sb := ⟨_, List.getElem?_eq_getElem (by omega)⟩
    have hgb : gb out a = sb := by unfold gb; rw [List.getD_eq_getElem?_getD, hsb]; rfl
    have hsc : w4.cell? ⟨bo, 0 + a.toNat * 1, none⟩ = some (.bool sb) := by
      have := blk_cells h0 a.toNat (.bool sb) (by rw [List.getElem?_map, hsb]; rfl)
      rw [show 0 + a.toNat * 1 = 0 + a.toNat by omega]; exact this
    (repeat refine Zlr ?_)
    refine s_v (r_ia (size := 1) rfl rfl rfl rfl (by omega) (by omega)) ?_
    refine s_v (r_ld rfl rfl hsc) ?_
    (repeat refine Zlr ?_)
    cases sb with
    | true =>
      rw [hgb, if_neg (by decide)] at hr
      refine c_f rfl ?_
      (repeat refine Zlr ?_)
      exact l_next ((m, r, out), (g, o2, c - 1)) ⟨rfl, rfl, rfl, rfl, trivial⟩ ⟨ho, hto', by show 3 * uns out + r.length ≤ m; omega, hr, by show m ≤ _; omega, hg, hq2, G⟩ (by show m < m + 1; omega)
    | false =>
      rw [hgb, if_pos rfl] at hr
      refine c_t rfl ?_
      (repeat refine Zlr ?_)
      refine s_v (r_ia (size := 1) rfl rfl rfl rfl (by omega) (by omega)) ?_
      refine s_st (vs := [.bool true]) rfl rfl rfl rfl rfl h0 (by rw [List.length_map]; simp; omega) (fun w5 s => ?_)
      have s : Sb w4 bo ((out.set a.toNat true).map Value.bool) tBool w5 := by
        rw [← setAt_b _ _ _ (by omega)]
        rw [show a.toNat = 0 + a.toNat * 1 by omega]
        exact s
      have G := G.put 0 rfl s
      have hq3 := hq2.kp s.kp (fun e => by
        obtain ⟨cur, h4, _⟩ := hq.ex
        rw [e, h0] at h4
        cases h4)
      have K5 := G.kE
      obtain ⟨vg', la2, lc2, e2, hl3, hvc2⟩ := hN.at_ han
      cases e2
      have hln2 : gl nx a ≠ [] := fun e => by
        have := W.rx a han
        cases this with
        | out h => rw [e] at h; cases h
        | on h _ _ => rw [e] at h; cases h
      obtain ⟨lg2, rfl, _, hlc2⟩ := li_all hl3 hln2
      have hl4 := (W.hr a han).1
      clear h0
      have h0 := G.blk 0 rfl; try have h1 := G.blk 1 rfl; try have h2 := G.blk 2 rfl; try have h3 := G.blk 3 rfl; try have h4 := G.blk 4 rfl; try have h5 := G.blk 5 rfl
      (repeat refine Zlr ?_)
      refine s_v (r_ia (size := 1) rfl rfl rfl rfl (by omega) (by omega)) ?_
      refine s_v (r_ld rfl rfl (hvc2 _ K5)) ?_
      refine s_apq (m := (gl nx a).length) (news := (gl nx a).map (Value.int .i64)) (cs := r.map (Value.int .i64)) (g := g) (o := o2) (c := c - 1) rfl rfl rfl rfl rfl rfl (by rw [List.length_map]; rfl) rfl hq3 (hlc2 _ K5) (by simp) (by simp [List.all_map]; exact fun _ _ => rfl) (by rw [List.length_map]; show (_ + _) * 8 ≤ _; omega) (by rw [List.length_map]; omega) ?_
      intro g' o' c' w6 hq4 k6 hg'
      have G : Lw w No w6 [(bo, (out.set a.toNat true).map Value.bool, tBool)] :=
        ⟨G.kE.from0' k6 fun i hi e => (by omega), fun i b cs T hi => ⟨(G.bx i b cs T hi).1, k6.get (G.bx i b cs T hi).2 fun e => by
          obtain ⟨cur, h4, _⟩ := hq3.ex
          rw [← e, (G.bx i b cs T hi).2] at h4
          cases i with
          | zero => cases hi; cases h4
          | succ i => simp at hi⟩, G.nd⟩
      (repeat refine Zlr ?_)
      refine l_next ((m, r ++ gl nx a, out.set a.toNat true), (g', o', c')) ⟨rfl, rfl, rfl, by
        show Value.slice _ ((r.map (Value.int .i64)).length + (gl nx a).length) c' = Value.slice _ (r ++ gl nx a).length c'
        rw [List.length_map, List.length_append], trivial⟩ ⟨by rw [List.length_set]; exact ho, fun s hs => ?_, ?_, hr, by show m ≤ _; omega, ?_, by rw [List.map_append]; exact hq4, G⟩ (by show m < m + 1; omega)
      · rcases List.mem_append.1 hs with hs | hs
        · exact hto' s hs
        · exact (W.hr a han).2 s hs
      · show 3 * uns (out.set a.toNat true) + (r ++ gl nx a).length ≤ m
        have := uns_pos (N := nx.length + 1) ho ⟨han.1, by omega⟩ hgb
        rw [List.length_append]
        omega
      · have := K5.size
        show w.heap.size ≤ g'
        rcases hg' with e | e <;> omega
end
end Go.Proofs.Ytkllhfajldnpoaa.Ck
namespace Go.Proofs.Ytkllhfajldnpoaa.Ck
open Go Go.RowKit Fw Sy Rf Fn
set_option linter.unusedVariables false
set_option maxRecDepth 20000
section
variable {nx : List (List Int)}
theorem rch_len {but : Int} : ∀ (n : Nat) (todo : List Int) (out : List Bool), (rch nx but n todo out).length = out.length := by
  intro n
  induction n with
  | zero => intro todo out; rfl
  | succ n ih =>
    intro todo out
    cases todo with
    | nil => rfl
    | cons a t =>
      unfold rch
      split
      · exact ih _ _
      split
      · rw [ih, List.length_set]
      split
      · rw [ih, List.length_set]
      · exact ih _ _
theorem fencesF (W : Wel nx) {w : World} {v : Value} (hN : NX w v nx) (hb : nx.length ≤ 1000) (a : Int) {x : Int} (hx : Nd nx.length x) :
    Ret Try.prog 14 [v, .int .i64 a, .int .i64 x] w (fun u w1 => u = .bool (fB nx a x) ∧ Kp No w w1) := by
  obtain ⟨va, vc, rfl⟩ := hN.val
  refine ret_enter Try.func14 rfl Try.ntmps14 rfl ?_
  (repeat refine Zlr ?_)
  have fin : a < 0 ∨ a = x → fB nx a x = true := fun h => by unfold fB; rw [decide_eq_true h]; rfl
  by_cases h0 : a < 0
  · refine s_set 9 true rfl (decide_eq_true h0) ?_
    (repeat (first | refine Zlr ?_ | refine Zn ?_ | refine Zu ?_ | refine Zg ?_ | refine Zgl ?_))
    refine c_t rfl ?_
    (repeat refine Zlr ?_)
    exact ret_c1 rfl (rv_t rfl) ⟨by rw [fin (.inl h0)], Kp.refl _ _⟩
  refine s_set 9 false rfl (decide_eq_false h0) ?_
  (repeat (first | refine Zlr ?_ | refine Zn ?_ | refine Zu ?_ | refine Zg ?_ | refine Zgl ?_))
  refine c_eq rfl (fun h1 => ?_) (fun h1 => ?_)
  · (repeat refine Zlr ?_)
    exact ret_c1 rfl (rv_t rfl) ⟨by rw [fin (.inr h1)], Kp.refl _ _⟩
  have ef : fB nx a x = !gb (reachL nx x a) nx.length := by unfold fB; rw [decide_eq_false (by rintro (h | h); exact h0 h; exact h1 h)]; rfl
  (repeat refine Zlr ?_)
  refine s_call (us := []) (zs := []) (by kernel_rfl) rfl rfl (reachF W hN hb (but := a) hx) ?_
  rintro _ w1 ⟨g, rfl, hg, k1⟩
  have hl : (reachL nx x a).length = nx.length + 1 := by unfold reachL; rw [rch_len, List.length_replicate]
  obtain ⟨b, hbb⟩ : ∃ b, (reachL nx x a)[nx.length]? = some b := ⟨_, List.getElem?_eq_getElem (by omega)⟩
  have hgb : gb (reachL nx x a) nx.length = b := by unfold gb; rw [List.getD_eq_getElem?_getD, Int.toNat_natCast, hbb]; rfl
  have hsc : w1.cell? ⟨g, 0 + (nx.length : Int).toNat * 1, none⟩ = some (.bool b) := by
    have := blk_cells hg nx.length (.bool b) (by rw [List.getElem?_map, hbb]; rfl)
    rw [show 0 + (nx.length : Int).toNat * 1 = 0 + nx.length by omega]; exact this
  (repeat refine Zlr ?_)
  refine s_v (r_ia (size := 1) rfl rfl rfl rfl (by omega) (by omega)) ?_
  refine s_v (r_ld rfl rfl hsc) ?_
  (repeat refine Zlr ?_)
  exact ret_c1 rfl (rv_t rfl) ⟨by rw [ef, hgb], k1⟩
def nxP (nx : List (List Int)) (x a : Int) (b : Nat) : Bool := decide ((b : Int) = x ∨ (b : Int) = a) || !fB nx b x || fB nx b a
theorem all_snoc {p : Nat → Bool} (n : Nat) : (List.range (n + 1)).all p = ((List.range n).all p && p n) := by rw [List.range_succ, List.all_append]; simp
theorem find_none {p : Nat → Bool} {n : Nat} (h : ∀ a, a < n → p a = false) : (List.range n).find? p = none := by
  rw [List.find?_eq_none]
  intro a ha
  rw [h a (List.mem_range.1 ha)]
  decide
theorem find_some {p : Nat → Bool} {n i : Nat} (hi : i < n) (hp : p i = true) (h : ∀ a, a < i → p a = false) : (List.range n).find? p = some i := by
  induction n with
  | zero => omega
  | succ n ih =>
    rw [List.range_succ, List.find?_append]
    by_cases e : i = n
    · subst e
      rw [find_none h]
      simp [hp]
    · rw [ih (by omega)]; rfl
set_option maxHeartbeats 2000000 in
theorem next8F (W : Wel nx) {w : World} {v : Value} (hN : NX w v nx) (hb : nx.length ≤ 1000) {x : Int} (hx : Nd nx.length x) :
    Ret Try.prog 13 [v, .int .i64 x] w (fun u w1 => u = .int .i64 (nxR nx x) ∧ Kp No w w1) := by
  obtain ⟨va, vc, rfl⟩ := hN.val
  have hnb := hb
  refine ret_enter Try.func13 rfl Try.ntmps13 rfl ?_
  (repeat refine Zlr ?_)
  refine k_loop (σ := Nat) (fun i => [(0, .slice va nx.length vc), (1, .int .i64 x), (9, .int .i64 (nx.length : Int)), (10, .int .i64 (i : Int))])
    (fun i w' => i ≤ nx.length ∧ (∀ a, a < i → nxB nx x (a : Int) = false) ∧ Kp No w w') (fun i => nx.length - i) 0 ⟨rfl, rfl, rfl, rfl, trivial⟩ ⟨Nat.zero_le _, fun a h => by omega, Kp.refl _ _⟩ ?_
  rintro i l w2 ⟨hi, hf, k2⟩
  (repeat refine Zlr ?_)
  refine c_dec rfl (fun hlt => ?_) (fun hge => ?_)
  · have hlt : i < nx.length := by omega
    have hni : Nd nx.length (i : Int) := ⟨by omega, by omega⟩
    have nxt : ∀ {w' : World}, Kp No w w' → nxB nx x (i : Int) = false → (i + 1 ≤ nx.length ∧ (∀ a, a < i + 1 → nxB nx x (a : Int) = false) ∧ Kp No w w') := fun k h => ⟨hlt, fun a ha => by
      rcases Nat.lt_or_ge a i with h' | h'
      · exact hf a h'
      · rw [show a = i by omega]; exact h, k⟩
    (repeat refine Zlr ?_)
    by_cases hix : (i : Int) = x
    · refine s_set 16 true rfl (beq_iff_eq.2 hix) ?_
      (repeat (first | refine Zlr ?_ | refine Zn ?_ | refine Zu ?_ | refine Zg ?_ | refine Zgl ?_))
      refine c_t rfl ?_
      (repeat refine Zlr ?_)
      exact l_next (i + 1) ⟨rfl, rfl, rfl, rfl, trivial⟩ (nxt k2 (by unfold nxB; rw [decide_eq_false (fun h => h hix)]; rfl)) (by show nx.length - (i + 1) < nx.length - i; omega)
    refine s_set 16 false rfl (beq_eq_false_iff_ne.2 hix) ?_
    (repeat (first | refine Zlr ?_ | refine Zn ?_ | refine Zu ?_ | refine Zg ?_ | refine Zgl ?_))
    refine s_gcall (us := []) (zs := []) rfl (by kernel_rfl) rfl rfl (fencesF W (hN.kp k2) hb (i : Int) hx) ?_
    rintro _ w3 ⟨rfl, k3⟩
    have k3 := k2.no k3
    obtain ⟨b1, hb1⟩ : ∃ b1, fB nx (i : Int) x = b1 := ⟨_, rfl⟩
    rw [hb1]
    cases b1 with
    | false =>
      (repeat (first | refine Zlr ?_ | refine Zn ?_ | refine Zu ?_ | refine Zg ?_ | refine Zgl ?_))
      refine c_t rfl ?_
      (repeat refine Zlr ?_)
      exact l_next (i + 1) ⟨rfl, rfl, rfl, rfl, trivial⟩ (nxt k3 (by unfold nxB; rw [hb1]; simp)) (by show nx.length - (i + 1) < nx.length - i; omega)
    | true =>
    have hnb' : nxB nx x (i : Int) = (List.range nx.length).all (nxP nx x i) := by
      unfold nxB; rw [hb1, decide_eq_true hix]; rfl
    (repeat (first | refine Zlr ?_ | refine Zn ?_ | refine Zu ?_ | refine Zg ?_ | refine Zgl ?_))
    refine c_f rfl ?_
    (repeat refine Zlr ?_)
    refine k_loop (σ := Nat) (fun j => [(0, .slice va nx.length vc), (1, .int .i64 x), (5, .int .i64 (i : Int)), (6, .bool ((List.range j).all (nxP nx x i))), (9, .int .i64 (nx.length : Int)), (10, .int .i64 (i : Int)), (24, .int .i64 (nx.length : Int)), (25, .int .i64 (j : Int))])
      (fun j w' => j ≤ nx.length ∧ Kp No w w') (fun j => nx.length - j) 0 ⟨rfl, rfl, rfl, rfl, rfl, rfl, rfl, rfl, trivial⟩ ⟨Nat.zero_le _, k3⟩ ?_
    clear k2 k3
    rintro j l2 w4 ⟨hj, k4⟩
    (repeat refine Zlr ?_)
    refine c_dec rfl (fun hlj => ?_) (fun hgj => ?_)
    · have hlj : j < nx.length := by omega
      have hnj : Nd nx.length (j : Int) := ⟨by omega, by omega⟩
      have hsn := all_snoc (p := nxP nx x i) j
      (repeat refine Zlr ?_)
      by_cases h1 : (j : Int) = x
      · have hp : nxP nx x i j = true := by unfold nxP; rw [decide_eq_true (.inl h1)]; rfl
        refine s_set 31 false rfl (bne_eq_false_iff_eq.2 h1) ?_
        (repeat (first | refine Zlr ?_ | refine Zn ?_ | refine Zu ?_ | refine Zg ?_ | refine Zgl ?_))
        refine c_f rfl ?_
        (repeat refine Zlr ?_)
        exact l_next (j + 1) ⟨rfl, rfl, rfl, by rw [hsn, hp, Bool.and_true]; rfl, rfl, rfl, rfl, rfl, trivial⟩ ⟨hlj, k4⟩ (by show nx.length - (j + 1) < nx.length - j; omega)
      refine s_set 31 true rfl (bne_iff_ne.2 h1) ?_
      by_cases h2 : (j : Int) = (i : Int)
      · have hp : nxP nx x i j = true := by unfold nxP; rw [decide_eq_true (.inr h2)]; rfl
        (repeat (first | refine Zlr ?_ | refine Zn ?_ | refine Zu ?_ | refine Zg ?_ | refine Zgl ?_))
        refine s_set 36 false rfl (bne_eq_false_iff_eq.2 h2) ?_
        (repeat (first | refine Zlr ?_ | refine Zn ?_ | refine Zu ?_ | refine Zg ?_ | refine Zgl ?_))
        refine c_f rfl ?_
        (repeat refine Zlr ?_)
        exact l_next (j + 1) ⟨rfl, rfl, rfl, by rw [hsn, hp, Bool.and_true]; rfl, rfl, rfl, rfl, rfl, trivial⟩ ⟨hlj, k4⟩ (by show nx.length - (j + 1) < nx.length - j; omega)
      have hp0 : nxP nx x i j = (!fB nx j x || fB nx j i) := by unfold nxP; rw [decide_eq_false (by rintro (h | h); exact h1 h; exact h2 h)]; rfl
      (repeat (first | refine Zlr ?_ | refine Zn ?_ | refine Zu ?_ | refine Zg ?_ | refine Zgl ?_))
      refine s_set 36 true rfl (bne_iff_ne.2 h2) ?_
      (repeat (first | refine Zlr ?_ | refine Zn ?_ | refine Zu ?_ | refine Zg ?_ | refine Zgl ?_))
      refine s_gcall (us := []) (zs := []) rfl (by kernel_rfl) rfl rfl (fencesF W (hN.kp k4) hb (j : Int) hx) ?_
      rintro _ w5 ⟨rfl, k5⟩
      have k5 := k4.no k5
      obtain ⟨b2, hb2⟩ : ∃ b2, fB nx (j : Int) x = b2 := ⟨_, rfl⟩
      rw [hb2] at hp0 ⊢
      cases b2 with
      | false =>
        (repeat (first | refine Zlr ?_ | refine Zn ?_ | refine Zu ?_ | refine Zg ?_ | refine Zgl ?_))
        refine c_f rfl ?_
        (repeat refine Zlr ?_)
        exact l_next (j + 1) ⟨rfl, rfl, rfl, by rw [hsn, hp0]; simp; rfl, rfl, rfl, rfl, rfl, trivial⟩ ⟨hlj, k5⟩ (by show nx.length - (j + 1) < nx.length - j; omega)
      | true =>
      (repeat (first | refine Zlr ?_ | refine Zn ?_ | refine Zu ?_ | refine Zg ?_ | refine Zgl ?_))
      refine s_gcall (us := []) (zs := []) rfl (by kernel_rfl) rfl rfl (fencesF W (hN.kp k5) hb (j : Int) hni) ?_
      rintro _ w6 ⟨rfl, k6⟩
      have k6 := k5.no k6
      obtain ⟨b3, hb3⟩ : ∃ b3, fB nx (j : Int) (i : Int) = b3 := ⟨_, rfl⟩
      rw [hb3] at hp0 ⊢
      cases b3 with
      | true =>
        (repeat (first | refine Zlr ?_ | refine Zn ?_ | refine Zu ?_ | refine Zg ?_ | refine Zgl ?_))
        refine c_f rfl ?_
        (repeat refine Zlr ?_)
        exact l_next (j + 1) ⟨rfl, rfl, rfl, by rw [hsn, hp0]; simp; rfl, rfl, rfl, rfl, rfl, trivial⟩ ⟨hlj, k6⟩ (by show nx.length - (j + 1) < nx.length - j; omega)
      | false =>
        (repeat (first | refine Zlr ?_ | refine Zn ?_ | refine Zu ?_ | refine Zg ?_ | refine Zgl ?_))
        refine c_t rfl ?_
        (repeat refine Zlr ?_)
        exact l_next (j + 1) ⟨rfl, rfl, rfl, by rw [hsn, hp0]; simp; rfl, rfl, rfl, rfl, rfl, trivial⟩ ⟨hlj, k6⟩ (by show nx.length - (j + 1) < nx.length - j; omega)
    · have ej : j = nx.length := by omega
      subst ej
      rw [← hnb']
      obtain ⟨b4, hb4⟩ : ∃ b4, nxB nx x (i : Int) = b4 := ⟨_, rfl⟩
      rw [hb4]
      (repeat refine Zlr ?_)
      cases b4 with
      | true =>
        refine c_t rfl ?_
        (repeat refine Zlr ?_)
        refine ret_c1 rfl (rv_t rfl) ⟨?_, k4⟩
        unfold nxR
        rw [find_some hlt hb4 hf]
      | false =>
        refine c_f rfl ?_
        (repeat refine Zlr ?_)
        exact l_next (i + 1) ⟨rfl, rfl, rfl, rfl, trivial⟩ (nxt k4 hb4) (by show nx.length - (i + 1) < nx.length - i; omega)
  · have hi : i = nx.length := by omega
    subst hi
    (repeat refine Zlr ?_)
    refine ret_c1 rfl (rv_t rfl) ⟨?_, k2⟩
    unfold nxR
    rw [find_none hf]
end
end Go.Proofs.Ytkllhfajldnpoaa.Ck
namespace Go.Proofs.Ytkllhfajldnpoaa.Ck
open Go Go.RowKit Fw Sy Rf Fn
set_option linter.unusedVariables false
set_option maxRecDepth 20000
section
variable {nx : List (List Int)}
theorem ch_len (W : Wel nx) {x : Int} (hx : x = -1 ∨ Nd nx.length x) : (chL nx x).length ≤ nx.length + 1 := by
  have : ∀ (n : Nat) (x : Int), (x = -1 ∨ Nd nx.length x) → rkL nx x ≤ n → (chL nx x).length ≤ n + 1 := by
    intro n
    induction n with
    | zero =>
      intro x hx h
      rcases hx with rfl | hx
      · rw [ch_exit]; simp
      · have := (W.rk hx).1; omega
    | succ n ih =>
      intro x hx h
      rcases hx with rfl | hx
      · rw [ch_exit]; simp
      · rw [W.ch_step hx, List.length_cons]
        have := ih (gi (fenL nx) x) ((W.fen.i1 x hx).imp id fun h => h.1) (by have := (W.rk hx).1; omega)
        omega
  refine this nx.length x hx ?_
  rcases hx with rfl | hx
  · unfold rkL; rw [if_pos rfl]; exact Nat.zero_le _
  · exact (W.rk hx).2
set_option maxHeartbeats 1000000 in
theorem all8F (W : Wel nx) {w : World} {v : Value} (hN : NX w v nx) (hb : nx.length ≤ 1000) {x : Int} (hx : Nd nx.length x) :
    Ret Try.prog 19 [v, .int .i64 x] w (fun u w1 => LI w1 u (chL nx x) ∧ Kp No w w1) := by
  obtain ⟨va, vc, rfl⟩ := hN.val
  refine ret_enter Try.func19 rfl Try.ntmps19 rfl ?_
  (repeat refine Zlr ?_)
  refine s_bs (cs := [.int .i64 x]) (e := tInt) rfl (fun b w1 n1 => ?_)
  have own1 : w1.ownsRow w.heap.size tInt 1 (.slice (some ⟨b, 0, none⟩) 1 1) 1 [.int .i64 x] := ⟨rfl, .inr ⟨b, 1, #[.int .i64 x], rfl, n1.ge, n1.blk, Nat.le_refl _, Nat.le_of_ble_eq_true rfl, rfl, rfl⟩⟩
  (repeat refine Zlr ?_)
  refine k_loop (σ := Int × List Int × Sl) (fun t => [(0, .slice va nx.length vc), (1, .int .i64 t.1), (5, t.2.2.v)])
    (fun t w' => (t.1 = -1 ∨ Nd nx.length t.1) ∧ t.2.1 ++ (chL nx t.1).tail = chL nx x ∧ w'.ownsRow w.heap.size tInt 1 t.2.2.v t.2.1.length (t.2.1.map (Value.int .i64)) ∧ Kp No w w') (fun t => rkL nx t.1) (x, [x], ⟨some ⟨b, 0, none⟩, 1, 1⟩) ⟨rfl, rfl, rfl, trivial⟩ ⟨.inr hx, by rw [W.ch_step hx]; rfl, own1, n1.kp⟩ ?_
  clear own1 n1
  rintro ⟨a, out, ⟨sa, sn, sc⟩⟩ l w2 ⟨ha, hch, ho, k2⟩
  simp only at ha hch ho k2
  try dsimp only
  (repeat refine Zlr ?_)
  refine c_dec rfl (fun hge => ?_) (fun hlt => ?_)
  · have hn : Nd nx.length a := ha.resolve_left (by omega)
    have hlen : out.length ≤ nx.length + 1 := by
      have := ch_len W (.inr hx)
      rw [← hch, List.length_append] at this
      omega
    (repeat refine Zlr ?_)
    refine s_call (us := []) (zs := []) (by kernel_rfl) rfl rfl (next8F W (hN.kp k2) hb hn) ?_
    rintro _ w3 ⟨rfl, k3⟩
    rw [W.nxR hn]
    (repeat refine Zlr ?_)
    refine s_bs (cs := [.int .i64 (gi (fenL nx) a)]) (e := tInt) rfl (fun b4 w4 n4 => ?_)
    have h4 := n4.blk
    have ho := own_kp (own_kp ho k3 fun _ _ h => h) n4.kp fun _ _ h => h
    have k4 := (k2.no k3).no n4.kp
    (repeat refine Zlr ?_)
    refine s_app (v0 := .slice sa sn sc) (k := out.length) (m := 1) (size := 1) (bytes := 8) (base := w.heap.size) (xs := out.map (Value.int .i64)) (news := [.int .i64 (gi (fenL nx) a)]) rfl rfl rfl rfl rfl rfl rfl rfl ho rfl (blk_cells h4) rfl rfl (by omega) (by omega) k4.size ?_
    intro v' w5 ap
    obtain ⟨a9, c9, e9, _⟩ := own_read ap.own
    subst e9
    (repeat refine Zlr ?_)
    refine l_next (gi (fenL nx) a, out ++ [gi (fenL nx) a], ⟨a9, out.length + 1, c9⟩) ⟨rfl, rfl, rfl, trivial⟩ ⟨(W.fen.i1 a hn).imp id fun h => h.1, ?_, ?_, k4.from0' ap.kp fun i hi e => (by have := own_lt ho e.symm; omega)⟩ (W.rk hn).1
    · show (out ++ [gi (fenL nx) a]) ++ (chL nx (gi (fenL nx) a)).tail = chL nx x
      rw [← hch, W.ch_step hn, List.tail_cons, List.append_assoc]
      congr 1
      rcases (W.fen.i1 a hn) with e | e
      · rw [e, ch_exit]; rfl
      · rw [W.ch_step e.1]; rfl
    · have := ap.own
      rw [← List.map_singleton, ← List.map_append] at this
      simp only [List.length_append, List.length_singleton]
      exact this
  · have ea : a = -1 := by
      rcases ha with h | h
      · exact h
      · have := h.1; omega
    subst ea
    rw [ch_exit] at hch
    simp only [List.tail_cons, List.append_nil] at hch
    rw [← hch]
    (repeat refine Zlr ?_)
    exact ret_c1 rfl (rv_t rfl) ⟨own_lo ho (Nat.zero_le _), k2⟩
theorem ints6F (l : List Int) {va vb : Value} {w : World} (ha : LI w va l) (hb : LI w vb l) : Ret Try.prog 20 [va, vb] w fun v w1 => v = .bool true ∧ Kp No w w1 := by
  obtain ⟨aa, ac, rfl, hat⟩ := li_at ha
  obtain ⟨ba, bc, rfl, hbt⟩ := li_at hb
  have hll : l.length ≤ 9223372036854775807 := by have := own_mx ha; unfold maxLen at this; omega
  refine ret_enter Try.func20 rfl Try.ntmps20 rfl ?_
  (repeat refine Zlr ?_)
  refine c_f (by show Value.bool ((l.length : Int) != l.length) = _; simp) ?_
  (repeat refine Zlr ?_)
  refine k_loop (σ := Nat) (fun i => [(0, .slice aa l.length ac), (1, .slice ba l.length bc), (12, .int .i64 (l.length : Int)), (13, .int .i64 (i : Int))])
    (fun i w' => i ≤ l.length ∧ Kp No w w') (fun i => l.length - i) 0 ⟨rfl, rfl, rfl, rfl, trivial⟩ ⟨Nat.zero_le _, Kp.refl _ _⟩ ?_
  rintro i l2 w2 ⟨hi, k2⟩
  (repeat refine Zlr ?_)
  refine c_dec rfl (fun hlt => ?_) (fun hge => ?_)
  · have hlt : i < l.length := by omega
    obtain ⟨x, hx⟩ : ∃ x, l[i]? = some x := ⟨_, List.getElem?_eq_getElem hlt⟩
    obtain ⟨ga, hga, hca⟩ := hat i x hx
    obtain ⟨gb, hgb, hcb⟩ := hbt i x hx
    have h1 : Value.slice aa l.length ac = .slice (some ⟨ga, 0, none⟩) l.length ac := by rw [hga]
    have h2 : Value.slice ba l.length bc = .slice (some ⟨gb, 0, none⟩) l.length bc := by rw [hgb]
    have d1 : ∀ w', Kp No w2 w' → w'.cell? ⟨ga, 0 + (i : Int).toNat * 1, none⟩ = some (.int .i64 x) := fun w' hw => hca w' (k2.no hw)
    have d2 : ∀ w', Kp No w2 w' → w'.cell? ⟨gb, 0 + (i : Int).toNat * 1, none⟩ = some (.int .i64 x) := fun w' hw => hcb w' (k2.no hw)
    (repeat refine Zlr ?_)
    refine k_q (by kernel_rfl) (by kernel_rfl) ?_
    (repeat (first | refine Zq ?_ | refine Zqn ?_ | refine Zqu ?_ | refine Zqg ?_))
    refine q_v (fun w' hw => r_ia (size := 1) rfl rfl h1 rfl (by omega) (by omega)) ?_
    refine q_v (fun w' hw => r_ld rfl rfl (d1 w' hw)) ?_
    (repeat (first | refine Zq ?_ | refine Zqn ?_ | refine Zqu ?_ | refine Zqg ?_))
    refine q_v (fun w' hw => r_ia (size := 1) rfl rfl h2 rfl (by omega) (by omega)) ?_
    refine q_v (fun w' hw => r_ld rfl rfl (d2 w' hw)) ?_
    (repeat (first | refine Zq ?_ | refine Zqn ?_ | refine Zqu ?_ | refine Zqg ?_))
    refine q_nil (fun w3 k3 => ?_)
    (repeat refine Zlr ?_)
    refine c_ne rfl (fun q => (q rfl).elim) (fun _ => ?_)
    (repeat refine Zlr ?_)
    exact l_next (i + 1) ⟨rfl, rfl, rfl, rfl, trivial⟩ ⟨hlt, k2.no k3⟩ (by show l.length - (i + 1) < l.length - i; omega)
  · (repeat refine Zlr ?_)
    exact ret_c1 rfl (rv_t rfl) ⟨rfl, k2⟩
end
end Go.Proofs.Ytkllhfajldnpoaa.Ck
