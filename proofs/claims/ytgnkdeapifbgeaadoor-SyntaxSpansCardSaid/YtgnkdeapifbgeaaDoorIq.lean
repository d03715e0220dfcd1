/- SyntaxSpans: its walk. -/
import Derived.Test.YtgnkdeapifbgeaaDoorIp
namespace Go.Proofs.YtgnkdeapifbgeaaDoor.Fw
open Go Go.RowKit
section
variable {P : Program} {w : World} {ρ : Operand → Value} {dst : Option Tmp} {ty : TypeId} {pos : String} {af : Array Edge} {g : Option (Nat × Bool)} {v : Value}
/-- An element of an array at hand, of one cell each. -/
theorem r_ixb {t e : TypeId} {x y : Operand} {cs : List Value} {k : IntKind} {i : Int} {n : Nat} (ht : P.underlying t = some (.array n e)) (he : aggT P e = some false) (hs : szT P e = some 1) (hx : ρ x = .agg cs.toArray) (hy : ρ y = .int k i) (h0 : 0 ≤ i) (h1 : i < n) (hv : cs[i.toNat]? = some v) :
    Rn P ρ ⟨dst, .index t x y, ty, pos, af, g⟩ w (.ok (.value v) w) := by
  refine ⟨run_v ?_⟩
  rw [hx, hy]
  simp [Instr.index, Sem.run_bind, asIntOf, run_underlying ht, Result.andThen, h0, h1, run_szT hs, Go.part, run_aggT he, hv]
end
end Go.Proofs.YtgnkdeapifbgeaaDoor.Fw
namespace Go.Proofs.YtgnkdeapifbgeaaDoor.Sy
open Go Go.RowKit Fw
set_option linter.unusedVariables false
set_option maxRecDepth 20000
theorem own_mx {w : World} {base : Nat} {e : TypeId} {size : Nat} {v : Value} {n : Nat} {cs : List Value} (h : w.ownsRow base e size v n cs) : n ≤ 9223372036854775807 := by
  rcases h.2 with ⟨_, rfl⟩ | ⟨g, cap, cur, _, _, _, h1, h2, _⟩
  · exact Nat.zero_le _
  · exact Nat.le_trans (Nat.le_trans h1 h2) (by decide)
/-- How often each statement was seen. -/
def cnts (n : Nat) (P : List Int) : List Value := (List.range n).map fun m : Nat => Value.int .i64 ((P.count (m : Int) : Nat) : Int)
theorem cnts_len (n : Nat) (P : List Int) : (cnts n P).length = n := by simp [cnts]
theorem cnts_get {n m : Nat} {P : List Int} (h : m < n) : (cnts n P)[m]? = some (.int .i64 ((P.count (m : Int) : Nat) : Int)) := by
  simp [cnts, List.getElem?_map, List.getElem?_range h]
theorem cnts_set {n m : Nat} {P : List Int} (h : m < n) (h0 : P.count (m : Int) = 0) : setAt (cnts n P) m [.int .i64 1] = cnts n (P ++ [(m : Int)]) := by
  show (cnts n P).set m (.int .i64 1) = _
  apply List.ext_getElem?
  intro i
  rw [List.getElem?_set]
  rcases Nat.lt_or_ge i n with hi | hi
  · rw [cnts_get hi, cnts_get hi, cnts_len]
    by_cases e : m = i
    · subst e
      rw [if_pos rfl, if_pos h, List.count_append, h0, List.count_cons_self, List.count_nil]
      rfl
    · rw [if_neg e, List.count_append, List.count_cons_of_ne (by omega), List.count_nil]
      rfl
  · rw [List.getElem?_eq_none (by rw [cnts_len]; exact hi), List.getElem?_eq_none (by rw [cnts_len]; exact hi), cnts_len]
    by_cases e : m = i
    · omega
    · rw [if_neg e]
theorem cnts_nil (n : Nat) : cnts n [] = List.replicate n (.int .i64 0) := by
  apply List.ext_getElem?
  intro i
  rcases Nat.lt_or_ge i n with hi | hi
  · rw [cnts_get hi, List.getElem?_replicate, if_pos hi]; rfl
  · rw [List.getElem?_eq_none (by rw [cnts_len]; exact hi), List.getElem?_eq_none (by simpa using hi)]
/-- A list that goes on, each at most once. -/
theorem once {tot P l r : List Int} {j m : Nat} (h : ∀ k : Nat, tot.count (k : Int) ≤ 1) (e : P ++ (l ++ r) = tot) (hj : l[j]? = some (m : Int)) :
    (P ++ l.take j).count (m : Int) = 0 ∧ P ++ l.take (j + 1) = (P ++ l.take j) ++ [(m : Int)] := by
  obtain ⟨hlt, hm⟩ := List.getElem?_eq_some_iff.1 hj
  have e1 : l.take (j + 1) = l.take j ++ [(m : Int)] := by rw [List.take_add_one, hj]; rfl
  refine ⟨?_, by rw [e1, List.append_assoc]⟩
  have h1 := h m
  have e2 : l = l.take (j + 1) ++ l.drop (j + 1) := (List.take_append_drop _ _).symm
  rw [← e, e2, e1] at h1
  simp only [List.count_append, List.count_cons_self, List.count_nil] at h1 ⊢
  omega
theorem own_at {st : List St} {i : Nat} {x : St} (h : st[i]? = some x) : own st = own (st.take i) ++ (x.th ++ x.el) ++ own (st.drop (i + 1)) ∧ own (st.take (i + 1)) = own (st.take i) ++ (x.th ++ x.el) := by
  have e1 : st.take (i + 1) = st.take i ++ [x] := by rw [List.take_add_one, h]; rfl
  have e2 : own (st.take (i + 1)) = own (st.take i) ++ (x.th ++ x.el) := by rw [e1, own_app]; simp [own]
  refine ⟨?_, e2⟩
  rw [← e2, ← own_app, List.take_append_drop]
def bods (fn : List Fn) : List Int := fn.flatMap Fn.bd
theorem bods_at {fn : List Fn} {i : Nat} {x : Fn} (h : fn[i]? = some x) : bods fn = bods (fn.take i) ++ (x.bd ++ bods (fn.drop (i + 1))) ∧ bods (fn.take (i + 1)) = bods (fn.take i) ++ x.bd := by
  have e1 : fn.take (i + 1) = fn.take i ++ [x] := by rw [List.take_add_one, h]; rfl
  have e2 : bods (fn.take (i + 1)) = bods (fn.take i) ++ x.bd := by rw [e1]; simp [bods]
  refine ⟨?_, e2⟩
  rw [← List.append_assoc, ← e2, bods, bods, bods, ← List.flatMap_append, List.take_append_drop]
def two (x : St) : Nat → List Int
  | 0 => []
  | 1 => x.th
  | _ => x.th ++ x.el
theorem prs_xl {L : List Int} {S : PS} (h : prs L = .ok () S) : S.ex.length ≤ S.i := by
  obtain ⟨_, _, hf2⟩ := txt_of h
  have key : ∀ (E : Env) (m n : Nat) (s t : PS) (x : Unit), fcts E m n s = .ok x t → t.ex.length + s.i ≤ s.ex.length + t.i := by
    intro E m n
    induction n with
    | zero => intro s t x h; cases h
    | succ n ih =>
      intro s t x h
      unfold fcts at h
      split at h
      · cases h; omega
      · obtain ⟨_, s1, h1, h2⟩ := bind_inv h
        have h3 := fct_up h1
        have := ih _ _ _ h2
        omega
  have := key _ _ _ _ _ _ hf2
  simp at this
  omega
set_option maxHeartbeats 16000000 in
theorem SpansF (s : ByteArray) (w : World) (hg : Tk.Glob w) (hs : s.size ≤ 9223372036854775807) :
    Ret Tryd.prog 3 [.string s] w fun v w1 => v = .bool true ∧ Kp No w w1 := by
  refine ret_enter Tryd.func3 rfl Tryd.ntmps3 rfl ?_
  (repeat (first | refine k_nil ?_ | refine k_n ?_ | refine k_r ?_ | refine k_x ?_ | refine b_n ?_ | refine b_r ?_ | refine b_y rfl ?_ | refine b_z rfl ?_ | refine l_r ?_ | refine l_x ?_ | refine k_seq ?_ | refine k_blk ?_ | refine k_reg ?_ | refine k_ret ?_ | refine k_exit ?_ | refine k_skip ?_ | refine Zs ?_))
  refine s_call (us := []) (zs := []) (by kernel_rfl) rfl rfl (awakeF w hg) ?_
  rintro _ w1 ⟨rfl, k1⟩
  (repeat (first | refine k_nil ?_ | refine k_n ?_ | refine k_r ?_ | refine k_x ?_ | refine b_n ?_ | refine b_r ?_ | refine b_y rfl ?_ | refine b_z rfl ?_ | refine l_r ?_ | refine l_x ?_ | refine k_seq ?_ | refine k_blk ?_ | refine k_reg ?_ | refine k_ret ?_ | refine k_exit ?_ | refine k_skip ?_ | refine Zs ?_ | refine Zn ?_ | refine Zu ?_ | refine Zg ?_))
  refine c_dec rfl (fun hbig => ?_) (fun hsmall => ?_)
  · (repeat (first | refine k_nil ?_ | refine k_n ?_ | refine k_r ?_ | refine k_x ?_ | refine b_n ?_ | refine b_r ?_ | refine b_y rfl ?_ | refine b_z rfl ?_ | refine l_r ?_ | refine l_x ?_ | refine k_seq ?_ | refine k_blk ?_ | refine k_reg ?_ | refine k_ret ?_ | refine k_exit ?_ | refine k_skip ?_ | refine Zs ?_))
    refine s_call (us := []) (zs := []) (by kernel_rfl) rfl rfl (awakeF w1 (hg.kp k1)) ?_
    rintro _ w2 ⟨rfl, k2⟩
    (repeat (first | refine k_nil ?_ | refine k_n ?_ | refine k_r ?_ | refine k_x ?_ | refine b_n ?_ | refine b_r ?_ | refine b_y rfl ?_ | refine b_z rfl ?_ | refine l_r ?_ | refine l_x ?_ | refine k_seq ?_ | refine k_blk ?_ | refine k_reg ?_ | refine k_ret ?_ | refine k_exit ?_ | refine k_skip ?_ | refine Zs ?_))
    exact ret_1 rfl rfl ⟨rfl, k1.no k2⟩
  (repeat (first | refine k_nil ?_ | refine k_n ?_ | refine k_r ?_ | refine k_x ?_ | refine b_n ?_ | refine b_r ?_ | refine b_y rfl ?_ | refine b_z rfl ?_ | refine l_r ?_ | refine l_x ?_ | refine k_seq ?_ | refine k_blk ?_ | refine k_reg ?_ | refine k_ret ?_ | refine k_exit ?_ | refine k_skip ?_ | refine Zs ?_))
  refine s_call (us := []) (zs := []) (by kernel_rfl) rfl rfl (ParseG s w1 (hg.kp k1) (by omega)) ?_
  rintro _ w3 ⟨k3, ux, us, uf, S, a, e, rfl, ht, hp⟩
  obtain ⟨xa, sa, fa, xc, sc, fc, rfl, rfl, rfl⟩ := ht.val
  (repeat (first | refine k_nil ?_ | refine k_n ?_ | refine k_r ?_ | refine k_x ?_ | refine b_n ?_ | refine b_r ?_ | refine b_y rfl ?_ | refine b_z rfl ?_ | refine l_r ?_ | refine l_x ?_ | refine k_seq ?_ | refine k_blk ?_ | refine k_reg ?_ | refine k_ret ?_ | refine k_exit ?_ | refine k_skip ?_ | refine Zs ?_))
  refine s_al rfl (fun b w4 n4 => ?_)
  refine s_st (vs := [.slice xa S.ex.length xc, .slice sa S.st.length sc, .slice fa S.fn.length fc]) rfl rfl rfl rfl rfl n4.blk (Nat.le_of_ble_eq_true rfl) (fun w5 s5 => ?_)
  have k35 : Kp No w3 w5 := n4.kp.trans s5.kp fun i hi e => by have := n4.ge; omega
  have hb : w5.heap[b]? = some (.cells [.slice xa S.ex.length xc, .slice sa S.st.length sc, .slice fa S.fn.length fc].toArray 27 (0, 0)) := s5.blk
  have kw5 := (k1.no k3).no k35
  have ht5 := ht.kp k35
  clear n4 s5 k35 ht k3
  (repeat (first | refine k_nil ?_ | refine k_n ?_ | refine k_r ?_ | refine k_x ?_ | refine b_n ?_ | refine b_r ?_ | refine b_y rfl ?_ | refine b_z rfl ?_ | refine l_r ?_ | refine l_x ?_ | refine k_seq ?_ | refine k_blk ?_ | refine k_reg ?_ | refine k_ret ?_ | refine k_exit ?_ | refine k_skip ?_ | refine Zs ?_))
  rcases hp with ⟨hp, ha, he, hf⟩ | ⟨_, hS, he, _⟩
  case inr =>
    refine c_ne rfl (fun _ => ?_) (fun q => (he q).elim)
    subst hS
    (repeat (first | refine k_nil ?_ | refine k_n ?_ | refine k_r ?_ | refine k_x ?_ | refine b_n ?_ | refine b_r ?_ | refine b_y rfl ?_ | refine b_z rfl ?_ | refine l_r ?_ | refine l_x ?_ | refine k_seq ?_ | refine k_blk ?_ | refine k_reg ?_ | refine k_ret ?_ | refine k_exit ?_ | refine k_skip ?_ | refine Zs ?_))
    exact ret_1 rfl rfl ⟨rfl, kw5⟩
  subst ha he
  refine c_f rfl ?_
  obtain ⟨l1, l2, l3⟩ := prs_len hp
  have hW := prs_whole hp
  have l4 := prs_xl hp
  have l5 := B_len s
  (repeat (first | refine k_nil ?_ | refine k_n ?_ | refine k_r ?_ | refine k_x ?_ | refine b_n ?_ | refine b_r ?_ | refine b_y rfl ?_ | refine b_z rfl ?_ | refine l_r ?_ | refine l_x ?_ | refine k_seq ?_ | refine k_blk ?_ | refine k_reg ?_ | refine k_ret ?_ | refine k_exit ?_ | refine k_skip ?_ | refine Zs ?_))
  refine k_loop (σ := Nat) (fun i => [(3, .pointer (some ⟨b, 0, none⟩)), (45, .slice xa S.ex.length xc), (46, .int .i64 (S.ex.length : Int)), (47, .int .i64 (i : Int))]) (fun i w' => Kp No w5 w' ∧ i ≤ S.ex.length) (fun i => S.ex.length - i) 0 ⟨rfl, rfl, rfl, rfl, trivial⟩ ⟨Kp.refl _ _, Nat.zero_le _⟩ ?_
  rintro i l w6 ⟨k6, hi⟩
  have hb6 := k6.get0 hb
  (repeat (first | refine k_nil ?_ | refine k_n ?_ | refine k_r ?_ | refine k_x ?_ | refine b_n ?_ | refine b_r ?_ | refine b_y rfl ?_ | refine b_z rfl ?_ | refine l_r ?_ | refine l_x ?_ | refine k_seq ?_ | refine k_blk ?_ | refine k_reg ?_ | refine k_ret ?_ | refine k_exit ?_ | refine k_skip ?_ | refine Zs ?_))
  refine c_dec rfl (fun q => ?_) (fun q => ?_)
  · have q : i < S.ex.length := by omega
    obtain ⟨x, hx⟩ : ∃ x, S.ex[i]? = some x := ⟨_, List.getElem?_eq_getElem q⟩
    have hgd := hW.ex i x hx
    obtain ⟨gx, lv, rfl, hlv, hcx⟩ := (ht5.kp k6).ex hx
    obtain ⟨va, vc, rfl⟩ := hlv.val
    (repeat (first | refine k_nil ?_ | refine k_n ?_ | refine k_r ?_ | refine k_x ?_ | refine b_n ?_ | refine b_r ?_ | refine b_y rfl ?_ | refine b_z rfl ?_ | refine l_r ?_ | refine l_x ?_ | refine k_seq ?_ | refine k_blk ?_ | refine k_reg ?_ | refine k_ret ?_ | refine k_exit ?_ | refine k_skip ?_ | refine Zs ?_))
    refine s_v (r_ia (size := 9) rfl rfl rfl rfl (by omega) (by omega)) ?_
    refine s_v (r_lda (n := 9) (vs := exC (x, .slice va x.l.length vc)) rfl rfl rfl rfl (fun j hj => by
      obtain ⟨u, hu⟩ : ∃ u, (exC (x, .slice va x.l.length vc))[j]? = some u := ⟨_, List.getElem?_eq_getElem (by simpa [exC] using hj)⟩
      rw [hu]; exact hcx j u hu)) ?_
    refine s_al rfl (fun b7 w7 n7 => ?_)
    (repeat (first | refine k_nil ?_ | refine k_n ?_ | refine k_r ?_ | refine k_x ?_ | refine b_n ?_ | refine b_r ?_ | refine b_y rfl ?_ | refine b_z rfl ?_ | refine l_r ?_ | refine l_x ?_ | refine k_seq ?_ | refine k_blk ?_ | refine k_reg ?_ | refine k_ret ?_ | refine k_exit ?_ | refine k_skip ?_ | refine Zs ?_))
    refine s_st (vs := exC (x, .slice va x.l.length vc)) rfl rfl rfl rfl rfl n7.blk (Nat.le_of_ble_eq_true rfl) (fun w8 s8 => ?_)
    have k68 : Kp No w6 w8 := n7.kp.trans s8.kp fun i hi e => by have := n7.ge; omega
    have hb8 := k68.get0 hb6
    have h7 : w8.heap[b7]? = some (.cells [Value.int .i64 x.k, .int .i64 x.f, .int .i64 x.e, .int .i64 x.n, sv x.nm, sv x.op, .int .i64 x.a, .int .i64 x.b, .slice va x.l.length vc].toArray 35 (0, 0)) := s8.blk
    clear n7 s8
    (repeat (first | refine k_nil ?_ | refine k_n ?_ | refine k_r ?_ | refine k_x ?_ | refine b_n ?_ | refine b_r ?_ | refine b_y rfl ?_ | refine b_z rfl ?_ | refine l_r ?_ | refine l_x ?_ | refine k_seq ?_ | refine k_blk ?_ | refine k_reg ?_ | refine k_ret ?_ | refine k_exit ?_ | refine k_skip ?_ | refine Zs ?_))
    refine s_v (r_ldb (n := 9) (vs := exC (x, .slice va x.l.length vc)) rfl rfl rfl h7 rfl rfl) ?_
    refine s_call (us := []) (zs := []) (by kernel_rfl) rfl rfl (partsF x (.slice va x.l.length vc) w8 (own_kp hlv k68 (fun _ _ h => h))) ?_
    rintro pv w9 ⟨hpv, k9⟩
    obtain ⟨pa, pc, epv, _, p0, pr⟩ := own_read hpv
    subst epv
    (repeat (first | refine k_nil ?_ | refine k_n ?_ | refine k_r ?_ | refine k_x ?_ | refine b_n ?_ | refine b_r ?_ | refine b_y rfl ?_ | refine b_z rfl ?_ | refine l_r ?_ | refine l_x ?_ | refine k_seq ?_ | refine k_blk ?_ | refine k_reg ?_ | refine k_ret ?_ | refine k_exit ?_ | refine k_skip ?_ | refine Zs ?_))
    have hb9 := k9.get0 hb8
    have h79 := k9.get0 h7
    have hpl := own_mx hpv
    refine k_loop (σ := Nat × Int) (fun t => [(3, .pointer (some ⟨b, 0, none⟩)), (6, .int .i64 (i : Int)), (7, .pointer (some ⟨b7, 0, none⟩)), (8, .int .i64 t.2), (45, .slice (some ⟨gx, 0, none⟩) S.ex.length xc), (46, .int .i64 (S.ex.length : Int)), (47, .int .i64 (i : Int)), (56, .slice pa (prt x).length pc), (57, .int .i64 ((prt x).length : Int)), (58, .int .i64 (t.1 : Int))])
      (fun t w' => Kp No w9 w' ∧ t.1 ≤ (prt x).length ∧ Chain S.ex i x.f x.e t.2 ((prt x).drop t.1)) (fun t => (prt x).length - t.1) (0, x.f) ⟨rfl, rfl, rfl, rfl, rfl, rfl, rfl, rfl, rfl, rfl, trivial⟩ ⟨Kp.refl _ _, Nat.zero_le _, hgd⟩ ?_
    rintro ⟨j, last⟩ lj w10 ⟨k10, hj, hch⟩
    simp only at hj hch
    try dsimp only
    have hb10 := k10.get0 hb9
    have h710 := k10.get0 h79
    (repeat (first | refine k_nil ?_ | refine k_n ?_ | refine k_r ?_ | refine k_x ?_ | refine b_n ?_ | refine b_r ?_ | refine b_y rfl ?_ | refine b_z rfl ?_ | refine l_r ?_ | refine l_x ?_ | refine k_seq ?_ | refine k_blk ?_ | refine k_reg ?_ | refine k_ret ?_ | refine k_exit ?_ | refine k_skip ?_ | refine Zs ?_))
    refine c_dec rfl (fun q2 => ?_) (fun q2 => ?_)
    · have q2 : j < (prt x).length := by omega
      rw [List.drop_eq_getElem_cons q2] at hch
      obtain ⟨m, y, em, hm, hy, hf1, hf2, hf3, hch2⟩ := hch
      cases pa with
      | none => have := p0 rfl; omega
      | some ad =>
      obtain ⟨gp, rfl, _, _, hgp⟩ := pr _ rfl
      have c1 : w10.cell? ⟨gp, 0 + (j : Int).toNat * 1, none⟩ = some (.int .i64 (m : Int)) := k10.cell0 (by rw [Nat.mul_one]; exact hgp _ _ (by rw [Int.toNat_natCast, List.getElem?_map, List.getElem?_eq_getElem q2, em]; rfl))
      have hm' : m < S.ex.length := by omega
      obtain ⟨gy, lvy, egy, _, hcy⟩ := ((ht5.kp k6).kp ((k68.no k9).no k10)).ex hy
      cases egy
      have y1 : w10.cell? ⟨gx, 0 + (m : Int).toNat * 9 + 1, none⟩ = some (.int .i64 y.f) := hcy 1 _ rfl
      have y2 : w10.cell? ⟨gx, 0 + (m : Int).toNat * 9 + 2, none⟩ = some (.int .i64 y.e) := hcy 2 _ rfl
      (repeat (first | refine k_nil ?_ | refine k_n ?_ | refine k_r ?_ | refine k_x ?_ | refine b_n ?_ | refine b_r ?_ | refine b_y rfl ?_ | refine b_z rfl ?_ | refine l_r ?_ | refine l_x ?_ | refine k_seq ?_ | refine k_blk ?_ | refine k_reg ?_ | refine k_ret ?_ | refine k_exit ?_ | refine k_skip ?_ | refine Zs ?_))
      refine s_v (r_ia (size := 1) rfl rfl rfl rfl (by omega) (by omega)) ?_
      (repeat (first | refine k_nil ?_ | refine k_n ?_ | refine k_r ?_ | refine k_x ?_ | refine b_n ?_ | refine b_r ?_ | refine b_y rfl ?_ | refine b_z rfl ?_ | refine l_r ?_ | refine l_x ?_ | refine k_seq ?_ | refine k_blk ?_ | refine k_reg ?_ | refine k_ret ?_ | refine k_exit ?_ | refine k_skip ?_ | refine Zs ?_))
      refine k_q (by kernel_rfl) (by kernel_rfl) ?_
      (repeat (first | refine Zq ?_ | refine Zqn ?_ | refine Zqu ?_ | refine Zqg ?_))
      refine q_set 64 false rfl (decide_eq_false (by omega)) ?_
      (repeat (first | refine Zq ?_ | refine Zqn ?_ | refine Zqu ?_ | refine Zqg ?_))
      refine q_set 69 false rfl (decide_eq_false (by omega)) ?_
      (repeat (first | refine Zq ?_ | refine Zqn ?_ | refine Zqu ?_ | refine Zqg ?_))
      refine q_gv rfl (fun w' hw => r_lda (vs := [.int .i64 y.f, .int .i64 y.e]) rfl rfl rfl rfl (fun k hk => by
        match k, hk with
        | 0, _ => exact hw.cell0 y1
        | 1, _ => exact hw.cell0 y2)) ?_
      (repeat (first | refine Zq ?_ | refine Zqn ?_ | refine Zqu ?_ | refine Zqg ?_))
      refine q_gv rfl (fun w' hw => r_ldb (n := 2) (vs := [.int .i64 x.f, .int .i64 x.e]) rfl rfl rfl (hw.get0 h710) rfl rfl) ?_
      refine q_gcall (us := []) (zs := []) (v := .bool true) rfl (by kernel_rfl) rfl rfl (fun w' hw => (withinF y.f y.e x.f x.e w' hf1 hf2).mono (by rintro _ _ ⟨rfl, h⟩; exact ⟨rfl, hw.no h⟩)) ?_
      (repeat (first | refine Zq ?_ | refine Zqn ?_ | refine Zqu ?_ | refine Zqg ?_))
      refine q_set 81 false rfl rfl ?_
      (repeat (first | refine Zq ?_ | refine Zqn ?_ | refine Zqu ?_ | refine Zqg ?_))
      refine q_nil (fun w11 k11 => ?_)
      (repeat (first | refine k_nil ?_ | refine k_n ?_ | refine k_r ?_ | refine k_x ?_ | refine b_n ?_ | refine b_r ?_ | refine b_y rfl ?_ | refine b_z rfl ?_ | refine l_r ?_ | refine l_x ?_ | refine k_seq ?_ | refine k_blk ?_ | refine k_reg ?_ | refine k_ret ?_ | refine k_exit ?_ | refine k_skip ?_ | refine Zs ?_))
      refine c_dec rfl (fun q3 => (by omega)) (fun _ => ?_)
      have hb11 := k11.get0 hb10
      have y3 := k11.cell0 y2
      (repeat (first | refine k_nil ?_ | refine k_n ?_ | refine k_r ?_ | refine k_x ?_ | refine b_n ?_ | refine b_r ?_ | refine b_y rfl ?_ | refine b_z rfl ?_ | refine l_r ?_ | refine l_x ?_ | refine k_seq ?_ | refine k_blk ?_ | refine k_reg ?_ | refine k_ret ?_ | refine k_exit ?_ | refine k_skip ?_ | refine Zs ?_))
      refine s_v (r_ia (size := 9) rfl rfl rfl rfl (by omega) (by omega)) ?_
      (repeat (first | refine k_nil ?_ | refine k_n ?_ | refine k_r ?_ | refine k_x ?_ | refine b_n ?_ | refine b_r ?_ | refine b_y rfl ?_ | refine b_z rfl ?_ | refine l_r ?_ | refine l_x ?_ | refine k_seq ?_ | refine k_blk ?_ | refine k_reg ?_ | refine k_ret ?_ | refine k_exit ?_ | refine k_skip ?_ | refine Zs ?_))
      exact l_next (j + 1, y.e) ⟨rfl, rfl, rfl, rfl, rfl, rfl, rfl, rfl, rfl, rfl, trivial⟩ ⟨k10.no k11, by show j + 1 ≤ _; omega, hch2⟩ (by show (prt x).length - (j + 1) < (prt x).length - j; omega)
    · (repeat (first | refine k_nil ?_ | refine k_n ?_ | refine k_r ?_ | refine k_x ?_ | refine b_n ?_ | refine b_r ?_ | refine b_y rfl ?_ | refine b_z rfl ?_ | refine l_r ?_ | refine l_x ?_ | refine k_seq ?_ | refine k_blk ?_ | refine k_reg ?_ | refine k_ret ?_ | refine k_exit ?_ | refine k_skip ?_ | refine Zs ?_))
      exact l_next (i + 1) ⟨rfl, rfl, rfl, rfl, trivial⟩ ⟨((k6.no k68).no k9).no k10, by show i + 1 ≤ _; omega⟩ (by show S.ex.length - (i + 1) < S.ex.length - i; omega)
  · clear q
    have hb6 := k6.get0 hb
    have ht6 := ht5.kp k6
    have kw6 := kw5.no k6
    have hcn : ∀ k : Nat, (own S.st ++ bods S.fn).count (k : Int) = if k < S.st.length then 1 else 0 := fun k => by rw [List.count_append]; exact hW.cn k
    have hc1 : ∀ k : Nat, (own S.st ++ bods S.fn).count (k : Int) ≤ 1 := fun k => by rw [hcn]; split <;> omega
    clear hb ht5 k6 kw5
    (repeat (first | refine k_nil ?_ | refine k_n ?_ | refine k_r ?_ | refine k_x ?_ | refine b_n ?_ | refine b_r ?_ | refine b_y rfl ?_ | refine b_z rfl ?_ | refine l_r ?_ | refine l_x ?_ | refine k_seq ?_ | refine k_blk ?_ | refine k_reg ?_ | refine k_ret ?_ | refine k_exit ?_ | refine k_skip ?_ | refine Zs ?_))
    refine s_ms1 (m := S.st.length) (c := S.st.length) rfl rfl rfl rfl rfl rfl rfl (Nat.le_refl _) (by show 8 * S.st.length ≤ _; omega) (by omega) (fun gs w7 n7 => ?_)
    have hgs := n7.ge
    have k7 : Kp No w6 w7 := n7.kp
    have hq7 : w7.heap[gs]? = some (.cells (cnts S.st.length []).toArray 3 (0, 0)) := by rw [cnts_nil]; exact n7.blk
    have hb7 := k7.get0 hb6
    clear n7
    (repeat (first | refine k_nil ?_ | refine k_n ?_ | refine k_r ?_ | refine k_x ?_ | refine b_n ?_ | refine b_r ?_ | refine b_y rfl ?_ | refine b_z rfl ?_ | refine l_r ?_ | refine l_x ?_ | refine k_seq ?_ | refine k_blk ?_ | refine k_reg ?_ | refine k_ret ?_ | refine k_exit ?_ | refine k_skip ?_ | refine Zs ?_))
    refine k_loop (σ := Nat) (fun i => [(3, .pointer (some ⟨b, 0, none⟩)), (11, .slice (some ⟨gs, 0, none⟩) S.st.length S.st.length), (106, .slice sa S.st.length sc), (107, .int .i64 (S.st.length : Int)), (108, .int .i64 (i : Int))])
      (fun i w' => Kp No w6 w' ∧ i ≤ S.st.length ∧ w'.heap[gs]? = some (.cells (cnts S.st.length (own (S.st.take i))).toArray 3 (0, 0))) (fun i => S.st.length - i) 0 ⟨rfl, rfl, rfl, rfl, rfl, trivial⟩ ⟨k7, Nat.zero_le _, hq7⟩ ?_
    rintro i l w8 ⟨k8, hi, hq8⟩
    have hb8 := k8.get0 hb6
    (repeat (first | refine k_nil ?_ | refine k_n ?_ | refine k_r ?_ | refine k_x ?_ | refine b_n ?_ | refine b_r ?_ | refine b_y rfl ?_ | refine b_z rfl ?_ | refine l_r ?_ | refine l_x ?_ | refine k_seq ?_ | refine k_blk ?_ | refine k_reg ?_ | refine k_ret ?_ | refine k_exit ?_ | refine k_skip ?_ | refine Zs ?_))
    refine c_dec rfl (fun q => ?_) (fun q => ?_)
    · have q : i < S.st.length := by omega
      obtain ⟨x, hx⟩ : ∃ x, S.st[i]? = some x := ⟨_, List.getElem?_eq_getElem q⟩
      have hgd := hW.st i x hx
      obtain ⟨ho1, ho2⟩ := own_at hx
      obtain ⟨gx, lv, mv, rfl, hlv, hmv, hcx⟩ := ht6.st hx
      obtain ⟨va, vc, rfl⟩ := hlv.val
      obtain ⟨va2, vc2, rfl⟩ := hmv.val
      (repeat (first | refine k_nil ?_ | refine k_n ?_ | refine k_r ?_ | refine k_x ?_ | refine b_n ?_ | refine b_r ?_ | refine b_y rfl ?_ | refine b_z rfl ?_ | refine l_r ?_ | refine l_x ?_ | refine k_seq ?_ | refine k_blk ?_ | refine k_reg ?_ | refine k_ret ?_ | refine k_exit ?_ | refine k_skip ?_ | refine Zs ?_))
      refine s_v (r_ia (size := 9) rfl rfl rfl rfl (by omega) (by omega)) ?_
      refine s_v (r_lda (n := 9) (vs := stC (x, .slice va x.th.length vc, .slice va2 x.el.length vc2)) rfl rfl rfl rfl (fun j hj => by
        obtain ⟨u, hu⟩ : ∃ u, (stC (x, .slice va x.th.length vc, .slice va2 x.el.length vc2))[j]? = some u := ⟨_, List.getElem?_eq_getElem (by simpa [stC] using hj)⟩
        rw [hu]; exact k8.cell0 (hcx j u hu))) ?_
      refine s_al rfl (fun b9 w9 n9 => ?_)
      (repeat (first | refine k_nil ?_ | refine k_n ?_ | refine k_r ?_ | refine k_x ?_ | refine b_n ?_ | refine b_r ?_ | refine b_y rfl ?_ | refine b_z rfl ?_ | refine l_r ?_ | refine l_x ?_ | refine k_seq ?_ | refine k_blk ?_ | refine k_reg ?_ | refine k_ret ?_ | refine k_exit ?_ | refine k_skip ?_ | refine Zs ?_))
      refine s_st (vs := stC (x, .slice va x.th.length vc, .slice va2 x.el.length vc2)) rfl rfl rfl rfl rfl n9.blk (Nat.le_of_ble_eq_true rfl) (fun w10 s10 => ?_)
      have k810 : Kp No w8 w10 := n9.kp.trans s10.kp fun i hi e => by have := n9.ge; omega
      have hb10 := k810.get0 hb8
      have hq10 := k810.get0 hq8
      have h9 : w10.heap[b9]? = some (.cells [Value.int .i64 x.k, .int .i64 x.f, .int .i64 x.e, sv x.nm, .int .i64 x.n, .int .i64 x.a, .int .i64 x.b, .slice va x.th.length vc, .slice va2 x.el.length vc2].toArray 39 (0, 0)) := s10.blk
      have hne : b9 ≠ gs := fun e => by
        have := n9.ge
        have := lt_of_get hq8
        omega
      have k10 : Kp No w6 w10 := k8.no k810
      clear n9 s10
      (repeat (first | refine k_nil ?_ | refine k_n ?_ | refine k_r ?_ | refine k_x ?_ | refine b_n ?_ | refine b_r ?_ | refine b_y rfl ?_ | refine b_z rfl ?_ | refine l_r ?_ | refine l_x ?_ | refine k_seq ?_ | refine k_blk ?_ | refine k_reg ?_ | refine k_ret ?_ | refine k_exit ?_ | refine k_skip ?_ | refine Zs ?_))
      refine k_loop (σ := Nat) (fun t => [(3, .pointer (some ⟨b, 0, none⟩)), (11, .slice (some ⟨gs, 0, none⟩) S.st.length S.st.length), (12, .int .i64 (i : Int)), (13, .pointer (some ⟨b9, 0, none⟩)), (106, .slice (some ⟨gx, 0, none⟩) S.st.length sc), (107, .int .i64 (S.st.length : Int)), (108, .int .i64 (i : Int)), (117, .agg [Value.slice va x.th.length vc, .slice va2 x.el.length vc2].toArray), (118, .int .i64 (t : Int))])
        (fun t w' => Kp (fun k => k = gs) w10 w' ∧ t ≤ 2 ∧ w'.heap[gs]? = some (.cells (cnts S.st.length (own (S.st.take i) ++ two x t)).toArray 3 (0, 0))) (fun t => 2 - t) 0 ⟨rfl, rfl, rfl, rfl, rfl, rfl, rfl, rfl, rfl, trivial⟩ ⟨Kp.refl _ _, by omega, by rw [show two x 0 = [] from rfl, List.append_nil]; exact hq10⟩ ?_
      rintro t lt w11 ⟨k11, ht2, hq11⟩
      (repeat (first | refine k_nil ?_ | refine k_n ?_ | refine k_r ?_ | refine k_x ?_ | refine b_n ?_ | refine b_r ?_ | refine b_y rfl ?_ | refine b_z rfl ?_ | refine l_r ?_ | refine l_x ?_ | refine k_seq ?_ | refine k_blk ?_ | refine k_reg ?_ | refine k_ret ?_ | refine k_exit ?_ | refine k_skip ?_ | refine Zs ?_))
      refine c_dec rfl (fun q2 => ?_) (fun q2 => ?_)
      · have q2 : t < 2 := by omega
        obtain ⟨y, ya, yc, hy1, hy2, hy3, hy4, r, hy5⟩ : ∃ (y : List Int) (ya : Option Addr) (yc : Nat), [Value.slice va x.th.length vc, .slice va2 x.el.length vc2][t]? = some (.slice ya y.length yc) ∧ LI w6 (.slice ya y.length yc) y ∧ two x (t + 1) = two x t ++ y ∧ (∀ k ∈ y, k ∈ x.th ++ x.el) ∧ ∃ r, (own (S.st.take i) ++ two x t) ++ (y ++ r) = own S.st ++ bods S.fn := by
          match t, q2 with
          | 0, _ => exact ⟨x.th, va, vc, rfl, hlv, rfl, fun k hk => List.mem_append_left _ hk, x.el ++ own (S.st.drop (i + 1)) ++ bods S.fn, by rw [ho1]; simp [two]⟩
          | 1, _ => exact ⟨x.el, va2, vc2, rfl, hmv, rfl, fun k hk => List.mem_append_right _ hk, own (S.st.drop (i + 1)) ++ bods S.fn, by rw [ho1]; simp [two]⟩
        (repeat (first | refine k_nil ?_ | refine k_n ?_ | refine k_r ?_ | refine k_x ?_ | refine b_n ?_ | refine b_r ?_ | refine b_y rfl ?_ | refine b_z rfl ?_ | refine l_r ?_ | refine l_x ?_ | refine k_seq ?_ | refine k_blk ?_ | refine k_reg ?_ | refine k_ret ?_ | refine k_exit ?_ | refine k_skip ?_ | refine Zs ?_))
        refine s_v (r_ixb (n := 2) (i := (t : Int)) rfl rfl rfl rfl rfl (by omega) (by omega) (by rw [Int.toNat_natCast]; exact hy1)) ?_
        (repeat (first | refine k_nil ?_ | refine k_n ?_ | refine k_r ?_ | refine k_x ?_ | refine b_n ?_ | refine b_r ?_ | refine b_y rfl ?_ | refine b_z rfl ?_ | refine l_r ?_ | refine l_x ?_ | refine k_seq ?_ | refine k_blk ?_ | refine k_reg ?_ | refine k_ret ?_ | refine k_exit ?_ | refine k_skip ?_ | refine Zs ?_))
        have hyl := own_mx hy2
        obtain ⟨pa, pc, epv, _, p0, pr⟩ := own_read hy2
        cases epv
        refine k_loop (σ := Nat) (fun j => [(3, .pointer (some ⟨b, 0, none⟩)), (11, .slice (some ⟨gs, 0, none⟩) S.st.length S.st.length), (12, .int .i64 (i : Int)), (13, .pointer (some ⟨b9, 0, none⟩)), (106, .slice (some ⟨gx, 0, none⟩) S.st.length sc), (107, .int .i64 (S.st.length : Int)), (108, .int .i64 (i : Int)), (117, .agg [Value.slice va x.th.length vc, .slice va2 x.el.length vc2].toArray), (118, .int .i64 (t : Int)), (121, .slice ya y.length yc), (122, .int .i64 (y.length : Int)), (123, .int .i64 (j : Int))])
          (fun j w' => Kp (fun k => k = gs) w10 w' ∧ j ≤ y.length ∧ w'.heap[gs]? = some (.cells (cnts S.st.length ((own (S.st.take i) ++ two x t) ++ y.take j)).toArray 3 (0, 0))) (fun j => y.length - j) 0 ⟨rfl, rfl, rfl, rfl, rfl, rfl, rfl, rfl, rfl, rfl, rfl, rfl, trivial⟩ ⟨k11, Nat.zero_le _, by rw [List.take_zero, List.append_nil]; exact hq11⟩ ?_
        rintro j lj w12 ⟨k12, hj, hq12⟩
        have k612 : Kp No w6 w12 := k10.trans k12 fun i hi e => by omega
        have hb12 := k612.get0 hb6
        have h912 := k12.get h9 hne
        (repeat (first | refine k_nil ?_ | refine k_n ?_ | refine k_r ?_ | refine k_x ?_ | refine b_n ?_ | refine b_r ?_ | refine b_y rfl ?_ | refine b_z rfl ?_ | refine l_r ?_ | refine l_x ?_ | refine k_seq ?_ | refine k_blk ?_ | refine k_reg ?_ | refine k_ret ?_ | refine k_exit ?_ | refine k_skip ?_ | refine Zs ?_))
        refine c_dec rfl (fun q3 => ?_) (fun q3 => ?_)
        · have q3 : j < y.length := by omega
          obtain ⟨m, z, em, hm, hz, hf1, hf2⟩ := hgd _ (hy4 _ (List.getElem_mem q3))
          obtain ⟨hz0, hz1⟩ := once hc1 hy5 (j := j) (m := m) (by rw [List.getElem?_eq_getElem q3, em])
          have hm' : m < S.st.length := by omega
          cases ya with
          | none => have := p0 rfl; omega
          | some ad =>
          obtain ⟨gp, rfl, _, _, hgp⟩ := pr _ rfl
          have c1 : w12.cell? ⟨gp, 0 + (j : Int).toNat * 1, none⟩ = some (.int .i64 (m : Int)) := k612.cell0 (by rw [Nat.mul_one]; exact hgp _ _ (by rw [Int.toNat_natCast, List.getElem?_map, List.getElem?_eq_getElem q3, em]; rfl))
          obtain ⟨gz, lvz, mvz, egz, _, _, hcz⟩ := ht6.st hz
          cases egz
          have z1 : w12.cell? ⟨gx, 0 + (m : Int).toNat * 9 + 1, none⟩ = some (.int .i64 z.f) := k612.cell0 (hcz 1 _ rfl)
          have z2 : w12.cell? ⟨gx, 0 + (m : Int).toNat * 9 + 2, none⟩ = some (.int .i64 z.e) := k612.cell0 (hcz 2 _ rfl)
          (repeat (first | refine k_nil ?_ | refine k_n ?_ | refine k_r ?_ | refine k_x ?_ | refine b_n ?_ | refine b_r ?_ | refine b_y rfl ?_ | refine b_z rfl ?_ | refine l_r ?_ | refine l_x ?_ | refine k_seq ?_ | refine k_blk ?_ | refine k_reg ?_ | refine k_ret ?_ | refine k_exit ?_ | refine k_skip ?_ | refine Zs ?_))
          refine s_v (r_ia (size := 1) rfl rfl rfl rfl (by omega) (by omega)) ?_
          (repeat (first | refine k_nil ?_ | refine k_n ?_ | refine k_r ?_ | refine k_x ?_ | refine b_n ?_ | refine b_r ?_ | refine b_y rfl ?_ | refine b_z rfl ?_ | refine l_r ?_ | refine l_x ?_ | refine k_seq ?_ | refine k_blk ?_ | refine k_reg ?_ | refine k_ret ?_ | refine k_exit ?_ | refine k_skip ?_ | refine Zs ?_))
          refine k_q (by kernel_rfl) (by kernel_rfl) ?_
          (repeat (first | refine Zq ?_ | refine Zqn ?_ | refine Zqu ?_ | refine Zqg ?_))
          refine q_set 129 false rfl (decide_eq_false (by omega)) ?_
          (repeat (first | refine Zq ?_ | refine Zqn ?_ | refine Zqu ?_ | refine Zqg ?_))
          refine q_set 134 false rfl (decide_eq_false (by omega)) ?_
          (repeat (first | refine Zq ?_ | refine Zqn ?_ | refine Zqu ?_ | refine Zqg ?_))
          refine q_gv rfl (fun w' hw => r_lda (vs := [.int .i64 z.f, .int .i64 z.e]) rfl rfl rfl rfl (fun k hk => by
            match k, hk with
            | 0, _ => exact hw.cell0 z1
            | 1, _ => exact hw.cell0 z2)) ?_
          (repeat (first | refine Zq ?_ | refine Zqn ?_ | refine Zqu ?_ | refine Zqg ?_))
          refine q_gv rfl (fun w' hw => r_ldb (n := 2) (vs := [.int .i64 x.f, .int .i64 x.e]) rfl rfl rfl (hw.get0 h912) rfl rfl) ?_
          refine q_gcall (us := []) (zs := []) (v := .bool true) rfl (by kernel_rfl) rfl rfl (fun w' hw => (withinF z.f z.e x.f x.e w' hf1 hf2).mono (by rintro _ _ ⟨rfl, h⟩; exact ⟨rfl, hw.no h⟩)) ?_
          (repeat (first | refine Zq ?_ | refine Zqn ?_ | refine Zqu ?_ | refine Zqg ?_))
          refine q_nil (fun w13 k13 => ?_)
          (repeat (first | refine k_nil ?_ | refine k_n ?_ | refine k_r ?_ | refine k_x ?_ | refine b_n ?_ | refine b_r ?_ | refine b_y rfl ?_ | refine b_z rfl ?_ | refine l_r ?_ | refine l_x ?_ | refine k_seq ?_ | refine k_blk ?_ | refine k_reg ?_ | refine k_ret ?_ | refine k_exit ?_ | refine k_skip ?_ | refine Zs ?_))
          refine c_f rfl ?_
          have hq13 := k13.get0 hq12
          have c2 : w13.cell? ⟨gs, 0 + (m : Int).toNat * 1, none⟩ = some (.int .i64 0) := cell_of_blk hq13 (by rw [Int.toNat_natCast, Nat.mul_one, Nat.zero_add, cnts_get hm', hz0]; rfl)
          (repeat (first | refine k_nil ?_ | refine k_n ?_ | refine k_r ?_ | refine k_x ?_ | refine b_n ?_ | refine b_r ?_ | refine b_y rfl ?_ | refine b_z rfl ?_ | refine l_r ?_ | refine l_x ?_ | refine k_seq ?_ | refine k_blk ?_ | refine k_reg ?_ | refine k_ret ?_ | refine k_exit ?_ | refine k_skip ?_ | refine Zs ?_))
          refine s_v (r_ia (size := 1) rfl rfl rfl rfl (by omega) (by omega)) ?_
          (repeat (first | refine k_nil ?_ | refine k_n ?_ | refine k_r ?_ | refine k_x ?_ | refine b_n ?_ | refine b_r ?_ | refine b_y rfl ?_ | refine b_z rfl ?_ | refine l_r ?_ | refine l_x ?_ | refine k_seq ?_ | refine k_blk ?_ | refine k_reg ?_ | refine k_ret ?_ | refine k_exit ?_ | refine k_skip ?_ | refine Zs ?_))
          refine s_v (r_ia (size := 1) rfl rfl rfl rfl (by omega) (by omega)) ?_
          refine s_st (vs := [.int .i64 1]) rfl rfl rfl rfl rfl hq13 (by rw [Int.toNat_natCast, cnts_len]; simp; omega) (fun w14 s14 => ?_)
          have hq14 : w14.heap[gs]? = some (.cells (cnts S.st.length ((own (S.st.take i) ++ two x t) ++ y.take (j + 1))).toArray 3 (0, 0)) := by
            have := s14.blk
            rw [Int.toNat_natCast, Nat.mul_one, Nat.zero_add, cnts_set hm' hz0, ← hz1] at this
            exact this
          have k14 : Kp (fun k => k = gs) w10 w14 := (k12.no k13).trans s14.kp fun _ _ e => e
          (repeat (first | refine k_nil ?_ | refine k_n ?_ | refine k_r ?_ | refine k_x ?_ | refine b_n ?_ | refine b_r ?_ | refine b_y rfl ?_ | refine b_z rfl ?_ | refine l_r ?_ | refine l_x ?_ | refine k_seq ?_ | refine k_blk ?_ | refine k_reg ?_ | refine k_ret ?_ | refine k_exit ?_ | refine k_skip ?_ | refine Zs ?_))
          exact l_next (j + 1) ⟨rfl, rfl, rfl, rfl, rfl, rfl, rfl, rfl, rfl, rfl, rfl, rfl, trivial⟩ ⟨k14, by show j + 1 ≤ _; omega, hq14⟩ (by show y.length - (j + 1) < y.length - j; omega)
        · have ej : j = y.length := by omega
          subst ej
          rw [List.take_length, List.append_assoc, ← hy3] at hq12
          (repeat (first | refine k_nil ?_ | refine k_n ?_ | refine k_r ?_ | refine k_x ?_ | refine b_n ?_ | refine b_r ?_ | refine b_y rfl ?_ | refine b_z rfl ?_ | refine l_r ?_ | refine l_x ?_ | refine k_seq ?_ | refine k_blk ?_ | refine k_reg ?_ | refine k_ret ?_ | refine k_exit ?_ | refine k_skip ?_ | refine Zs ?_))
          exact l_next (t + 1) ⟨rfl, rfl, rfl, rfl, rfl, rfl, rfl, rfl, rfl, trivial⟩ ⟨k12, by show t + 1 ≤ 2; omega, hq12⟩ (by show 2 - (t + 1) < 2 - t; omega)
      · have et : t = 2 := by omega
        subst et
        rw [show two x 2 = x.th ++ x.el from rfl, ← ho2] at hq11
        (repeat (first | refine k_nil ?_ | refine k_n ?_ | refine k_r ?_ | refine k_x ?_ | refine b_n ?_ | refine b_r ?_ | refine b_y rfl ?_ | refine b_z rfl ?_ | refine l_r ?_ | refine l_x ?_ | refine k_seq ?_ | refine k_blk ?_ | refine k_reg ?_ | refine k_ret ?_ | refine k_exit ?_ | refine k_skip ?_ | refine Zs ?_))
        exact l_next (i + 1) ⟨rfl, rfl, rfl, rfl, rfl, trivial⟩ ⟨k10.trans k11 fun i hi e => by omega, by show i + 1 ≤ _; omega, hq11⟩ (by show S.st.length - (i + 1) < S.st.length - i; omega)
    · have ei : i = S.st.length := by omega
      subst ei
      rw [List.take_length] at hq8
      have hb8 := k8.get0 hb6
      (repeat (first | refine k_nil ?_ | refine k_n ?_ | refine k_r ?_ | refine k_x ?_ | refine b_n ?_ | refine b_r ?_ | refine b_y rfl ?_ | refine b_z rfl ?_ | refine l_r ?_ | refine l_x ?_ | refine k_seq ?_ | refine k_blk ?_ | refine k_reg ?_ | refine k_ret ?_ | refine k_exit ?_ | refine k_skip ?_ | refine Zs ?_))
      refine k_loop (σ := Nat) (fun i => [(3, .pointer (some ⟨b, 0, none⟩)), (11, .slice (some ⟨gs, 0, none⟩) S.st.length S.st.length), (156, .slice fa S.fn.length fc), (157, .int .i64 (S.fn.length : Int)), (158, .int .i64 (i : Int))])
        (fun i w' => Kp No w6 w' ∧ i ≤ S.fn.length ∧ w'.heap[gs]? = some (.cells (cnts S.st.length (own S.st ++ bods (S.fn.take i))).toArray 3 (0, 0))) (fun i => S.fn.length - i) 0 ⟨rfl, rfl, rfl, rfl, rfl, trivial⟩ ⟨k8, Nat.zero_le _, by rw [show bods (S.fn.take 0) = [] from rfl, List.append_nil]; exact hq8⟩ ?_
      rintro i l w9 ⟨k9, hi, hq9⟩
      have hb9 := k9.get0 hb6
      (repeat (first | refine k_nil ?_ | refine k_n ?_ | refine k_r ?_ | refine k_x ?_ | refine b_n ?_ | refine b_r ?_ | refine b_y rfl ?_ | refine b_z rfl ?_ | refine l_r ?_ | refine l_x ?_ | refine k_seq ?_ | refine k_blk ?_ | refine k_reg ?_ | refine k_ret ?_ | refine k_exit ?_ | refine k_skip ?_ | refine Zs ?_))
      refine c_dec rfl (fun q => ?_) (fun q => ?_)
      · have q : i < S.fn.length := by omega
        obtain ⟨x, hx⟩ : ∃ x, S.fn[i]? = some x := ⟨_, List.getElem?_eq_getElem q⟩
        have hgd := hW.fn x (List.mem_of_getElem? hx)
        obtain ⟨ho1, ho2⟩ := bods_at hx
        obtain ⟨gx, lv, mv, rfl, hlv, hmv, hcx⟩ := ht6.fn hx
        obtain ⟨va, vc, elv, _⟩ := own_read hlv
        subst elv
        obtain ⟨va2, vc2, rfl⟩ := hmv.val
        (repeat (first | refine k_nil ?_ | refine k_n ?_ | refine k_r ?_ | refine k_x ?_ | refine b_n ?_ | refine b_r ?_ | refine b_y rfl ?_ | refine b_z rfl ?_ | refine l_r ?_ | refine l_x ?_ | refine k_seq ?_ | refine k_blk ?_ | refine k_reg ?_ | refine k_ret ?_ | refine k_exit ?_ | refine k_skip ?_ | refine Zs ?_))
        refine s_v (r_ia (size := 6) rfl rfl rfl rfl (by omega) (by omega)) ?_
        refine s_v (r_lda (n := 6) (vs := fnC (x, .slice va x.ps.length vc, .slice va2 x.bd.length vc2)) rfl rfl rfl rfl (fun j hj => by
          obtain ⟨u, hu⟩ : ∃ u, (fnC (x, .slice va x.ps.length vc, .slice va2 x.bd.length vc2))[j]? = some u := ⟨_, List.getElem?_eq_getElem (by simpa [fnC] using hj)⟩
          rw [hu]; exact k9.cell0 (hcx j u hu))) ?_
        refine s_al rfl (fun b9 w10 n9 => ?_)
        refine s_st (vs := fnC (x, .slice va x.ps.length vc, .slice va2 x.bd.length vc2)) rfl rfl rfl rfl rfl n9.blk (Nat.le_of_ble_eq_true rfl) (fun w11 s10 => ?_)
        have k911 : Kp No w9 w11 := n9.kp.trans s10.kp fun i hi e => by have := n9.ge; omega
        have hb11 := k911.get0 hb9
        have hq11 := k911.get0 hq9
        have h9 : w11.heap[b9]? = some (.cells [sv x.nm, .int .i64 x.f, .int .i64 x.e, .slice va x.ps.length vc, .int .i64 x.ty, .slice va2 x.bd.length vc2].toArray 43 (0, 0)) := s10.blk
        have hne : b9 ≠ gs := fun e => by
          have := n9.ge
          have := lt_of_get hq9
          omega
        have k11 : Kp No w6 w11 := k9.no k911
        clear n9 s10
        have hyl := own_mx hmv
        obtain ⟨pa, pc, epv, _, p0, pr⟩ := own_read hmv
        cases epv
        (repeat (first | refine k_nil ?_ | refine k_n ?_ | refine k_r ?_ | refine k_x ?_ | refine b_n ?_ | refine b_r ?_ | refine b_y rfl ?_ | refine b_z rfl ?_ | refine l_r ?_ | refine l_x ?_ | refine k_seq ?_ | refine k_blk ?_ | refine k_reg ?_ | refine k_ret ?_ | refine k_exit ?_ | refine k_skip ?_ | refine Zs ?_))
        refine k_loop (σ := Nat) (fun j => [(3, .pointer (some ⟨b, 0, none⟩)), (11, .slice (some ⟨gs, 0, none⟩) S.st.length S.st.length), (19, .pointer (some ⟨b9, 0, none⟩)), (156, .slice (some ⟨gx, 0, none⟩) S.fn.length fc), (157, .int .i64 (S.fn.length : Int)), (158, .int .i64 (i : Int)), (163, .slice va2 x.bd.length vc2), (164, .int .i64 (x.bd.length : Int)), (165, .int .i64 (j : Int))])
          (fun j w' => Kp (fun k => k = gs) w11 w' ∧ j ≤ x.bd.length ∧ w'.heap[gs]? = some (.cells (cnts S.st.length ((own S.st ++ bods (S.fn.take i)) ++ x.bd.take j)).toArray 3 (0, 0))) (fun j => x.bd.length - j) 0 ⟨rfl, rfl, rfl, rfl, rfl, rfl, rfl, rfl, rfl, trivial⟩ ⟨Kp.refl _ _, Nat.zero_le _, by rw [List.take_zero, List.append_nil]; exact hq11⟩ ?_
        rintro j lj w12 ⟨k12, hj, hq12⟩
        have k612 : Kp No w6 w12 := k11.trans k12 fun i hi e => by omega
        have hb12 := k612.get0 hb6
        have h912 := k12.get h9 hne
        (repeat (first | refine k_nil ?_ | refine k_n ?_ | refine k_r ?_ | refine k_x ?_ | refine b_n ?_ | refine b_r ?_ | refine b_y rfl ?_ | refine b_z rfl ?_ | refine l_r ?_ | refine l_x ?_ | refine k_seq ?_ | refine k_blk ?_ | refine k_reg ?_ | refine k_ret ?_ | refine k_exit ?_ | refine k_skip ?_ | refine Zs ?_))
        refine c_dec rfl (fun q3 => ?_) (fun q3 => ?_)
        · have q3 : j < x.bd.length := by omega
          obtain ⟨m, z, em, hz, hf1, hf2⟩ := hgd _ (List.getElem_mem q3)
          obtain ⟨hz0, hz1⟩ := once hc1 (P := own S.st ++ bods (S.fn.take i)) (l := x.bd) (r := bods (S.fn.drop (i + 1))) (by rw [ho1, List.append_assoc]) (j := j) (m := m) (by rw [List.getElem?_eq_getElem q3, em])
          have hm' : m < S.st.length := (List.getElem?_eq_some_iff.1 hz).1
          cases va2 with
          | none => have := p0 rfl; omega
          | some ad =>
          obtain ⟨gp, rfl, _, _, hgp⟩ := pr _ rfl
          have c1 : w12.cell? ⟨gp, 0 + (j : Int).toNat * 1, none⟩ = some (.int .i64 (m : Int)) := k612.cell0 (by rw [Nat.mul_one]; exact hgp _ _ (by rw [Int.toNat_natCast, List.getElem?_map, List.getElem?_eq_getElem q3, em]; rfl))
          obtain ⟨gz, lvz, mvz, rfl, _, _, hcz⟩ := ht6.st hz
          have z1 : w12.cell? ⟨gz, 0 + (m : Int).toNat * 9 + 1, none⟩ = some (.int .i64 z.f) := k612.cell0 (hcz 1 _ rfl)
          have z2 : w12.cell? ⟨gz, 0 + (m : Int).toNat * 9 + 2, none⟩ = some (.int .i64 z.e) := k612.cell0 (hcz 2 _ rfl)
          (repeat (first | refine k_nil ?_ | refine k_n ?_ | refine k_r ?_ | refine k_x ?_ | refine b_n ?_ | refine b_r ?_ | refine b_y rfl ?_ | refine b_z rfl ?_ | refine l_r ?_ | refine l_x ?_ | refine k_seq ?_ | refine k_blk ?_ | refine k_reg ?_ | refine k_ret ?_ | refine k_exit ?_ | refine k_skip ?_ | refine Zs ?_))
          refine s_v (r_ia (size := 1) rfl rfl rfl rfl (by omega) (by omega)) ?_
          (repeat (first | refine k_nil ?_ | refine k_n ?_ | refine k_r ?_ | refine k_x ?_ | refine b_n ?_ | refine b_r ?_ | refine b_y rfl ?_ | refine b_z rfl ?_ | refine l_r ?_ | refine l_x ?_ | refine k_seq ?_ | refine k_blk ?_ | refine k_reg ?_ | refine k_ret ?_ | refine k_exit ?_ | refine k_skip ?_ | refine Zs ?_))
          refine k_q (by kernel_rfl) (by kernel_rfl) ?_
          (repeat (first | refine Zq ?_ | refine Zqn ?_ | refine Zqu ?_ | refine Zqg ?_))
          refine q_set 171 false rfl (decide_eq_false (by omega)) ?_
          (repeat (first | refine Zq ?_ | refine Zqn ?_ | refine Zqu ?_ | refine Zqg ?_))
          refine q_set 178 false rfl (decide_eq_false (by omega)) ?_
          (repeat (first | refine Zq ?_ | refine Zqn ?_ | refine Zqu ?_ | refine Zqg ?_))
          refine q_gv rfl (fun w' hw => r_lda (vs := [.int .i64 z.f, .int .i64 z.e]) rfl rfl rfl rfl (fun k hk => by
            match k, hk with
            | 0, _ => exact hw.cell0 z1
            | 1, _ => exact hw.cell0 z2)) ?_
          (repeat (first | refine Zq ?_ | refine Zqn ?_ | refine Zqu ?_ | refine Zqg ?_))
          refine q_gv rfl (fun w' hw => r_ldb (n := 2) (vs := [.int .i64 x.f, .int .i64 x.e]) rfl rfl rfl (hw.get0 h912) rfl rfl) ?_
          refine q_gcall (us := []) (zs := []) (v := .bool true) rfl (by kernel_rfl) rfl rfl (fun w' hw => (withinF z.f z.e x.f x.e w' hf1 hf2).mono (by rintro _ _ ⟨rfl, h⟩; exact ⟨rfl, hw.no h⟩)) ?_
          (repeat (first | refine Zq ?_ | refine Zqn ?_ | refine Zqu ?_ | refine Zqg ?_))
          refine q_nil (fun w13 k13 => ?_)
          (repeat (first | refine k_nil ?_ | refine k_n ?_ | refine k_r ?_ | refine k_x ?_ | refine b_n ?_ | refine b_r ?_ | refine b_y rfl ?_ | refine b_z rfl ?_ | refine l_r ?_ | refine l_x ?_ | refine k_seq ?_ | refine k_blk ?_ | refine k_reg ?_ | refine k_ret ?_ | refine k_exit ?_ | refine k_skip ?_ | refine Zs ?_))
          refine c_f rfl ?_
          have hq13 := k13.get0 hq12
          have c2 : w13.cell? ⟨gs, 0 + (m : Int).toNat * 1, none⟩ = some (.int .i64 0) := cell_of_blk hq13 (by rw [Int.toNat_natCast, Nat.mul_one, Nat.zero_add, cnts_get hm', hz0]; rfl)
          (repeat (first | refine k_nil ?_ | refine k_n ?_ | refine k_r ?_ | refine k_x ?_ | refine b_n ?_ | refine b_r ?_ | refine b_y rfl ?_ | refine b_z rfl ?_ | refine l_r ?_ | refine l_x ?_ | refine k_seq ?_ | refine k_blk ?_ | refine k_reg ?_ | refine k_ret ?_ | refine k_exit ?_ | refine k_skip ?_ | refine Zs ?_))
          refine s_v (r_ia (size := 1) rfl rfl rfl rfl (by omega) (by omega)) ?_
          (repeat (first | refine k_nil ?_ | refine k_n ?_ | refine k_r ?_ | refine k_x ?_ | refine b_n ?_ | refine b_r ?_ | refine b_y rfl ?_ | refine b_z rfl ?_ | refine l_r ?_ | refine l_x ?_ | refine k_seq ?_ | refine k_blk ?_ | refine k_reg ?_ | refine k_ret ?_ | refine k_exit ?_ | refine k_skip ?_ | refine Zs ?_))
          refine s_v (r_ia (size := 1) rfl rfl rfl rfl (by omega) (by omega)) ?_
          refine s_st (vs := [.int .i64 1]) rfl rfl rfl rfl rfl hq13 (by rw [Int.toNat_natCast, cnts_len]; simp; omega) (fun w14 s14 => ?_)
          have hq14 : w14.heap[gs]? = some (.cells (cnts S.st.length ((own S.st ++ bods (S.fn.take i)) ++ x.bd.take (j + 1))).toArray 3 (0, 0)) := by
            have := s14.blk
            rw [Int.toNat_natCast, Nat.mul_one, Nat.zero_add, cnts_set hm' hz0, ← hz1] at this
            exact this
          have k14 : Kp (fun k => k = gs) w11 w14 := (k12.no k13).trans s14.kp fun _ _ e => e
          (repeat (first | refine k_nil ?_ | refine k_n ?_ | refine k_r ?_ | refine k_x ?_ | refine b_n ?_ | refine b_r ?_ | refine b_y rfl ?_ | refine b_z rfl ?_ | refine l_r ?_ | refine l_x ?_ | refine k_seq ?_ | refine k_blk ?_ | refine k_reg ?_ | refine k_ret ?_ | refine k_exit ?_ | refine k_skip ?_ | refine Zs ?_))
          exact l_next (j + 1) ⟨rfl, rfl, rfl, rfl, rfl, rfl, rfl, rfl, rfl, trivial⟩ ⟨k14, by show j + 1 ≤ _; omega, hq14⟩ (by show x.bd.length - (j + 1) < x.bd.length - j; omega)
        · have ej : j = x.bd.length := by omega
          subst ej
          rw [List.take_length, List.append_assoc, ← ho2] at hq12
          (repeat (first | refine k_nil ?_ | refine k_n ?_ | refine k_r ?_ | refine k_x ?_ | refine b_n ?_ | refine b_r ?_ | refine b_y rfl ?_ | refine b_z rfl ?_ | refine l_r ?_ | refine l_x ?_ | refine k_seq ?_ | refine k_blk ?_ | refine k_reg ?_ | refine k_ret ?_ | refine k_exit ?_ | refine k_skip ?_ | refine Zs ?_))
          exact l_next (i + 1) ⟨rfl, rfl, rfl, rfl, rfl, trivial⟩ ⟨k612, by show i + 1 ≤ _; omega, hq12⟩ (by show S.fn.length - (i + 1) < S.fn.length - i; omega)
      · have ei : i = S.fn.length := by omega
        subst ei
        rw [List.take_length] at hq9
        (repeat (first | refine k_nil ?_ | refine k_n ?_ | refine k_r ?_ | refine k_x ?_ | refine b_n ?_ | refine b_r ?_ | refine b_y rfl ?_ | refine b_z rfl ?_ | refine l_r ?_ | refine l_x ?_ | refine k_seq ?_ | refine k_blk ?_ | refine k_reg ?_ | refine k_ret ?_ | refine k_exit ?_ | refine k_skip ?_ | refine Zs ?_))
        refine k_loop (σ := Nat) (fun i => [(198, .slice (some ⟨gs, 0, none⟩) S.st.length S.st.length), (199, .int .i64 (S.st.length : Int)), (200, .int .i64 (i : Int))]) (fun i w' => Kp No w9 w' ∧ i ≤ S.st.length) (fun i => S.st.length - i) 0 ⟨rfl, rfl, rfl, trivial⟩ ⟨Kp.refl _ _, Nat.zero_le _⟩ ?_
        rintro m l w10 ⟨k10, hm⟩
        (repeat (first | refine k_nil ?_ | refine k_n ?_ | refine k_r ?_ | refine k_x ?_ | refine b_n ?_ | refine b_r ?_ | refine b_y rfl ?_ | refine b_z rfl ?_ | refine l_r ?_ | refine l_x ?_ | refine k_seq ?_ | refine k_blk ?_ | refine k_reg ?_ | refine k_ret ?_ | refine k_exit ?_ | refine k_skip ?_ | refine Zs ?_))
        refine c_dec rfl (fun q => ?_) (fun q => ?_)
        · have q : m < S.st.length := by omega
          have hq10 := k10.get0 hq9
          have c2 : w10.cell? ⟨gs, 0 + (m : Int).toNat * 1, none⟩ = some (.int .i64 1) := cell_of_blk hq10 (by rw [Int.toNat_natCast, Nat.mul_one, Nat.zero_add, cnts_get q, hcn, if_pos q]; rfl)
          (repeat (first | refine k_nil ?_ | refine k_n ?_ | refine k_r ?_ | refine k_x ?_ | refine b_n ?_ | refine b_r ?_ | refine b_y rfl ?_ | refine b_z rfl ?_ | refine l_r ?_ | refine l_x ?_ | refine k_seq ?_ | refine k_blk ?_ | refine k_reg ?_ | refine k_ret ?_ | refine k_exit ?_ | refine k_skip ?_ | refine Zs ?_))
          refine s_v (r_ia (size := 1) rfl rfl rfl rfl (by omega) (by omega)) ?_
          (repeat (first | refine k_nil ?_ | refine k_n ?_ | refine k_r ?_ | refine k_x ?_ | refine b_n ?_ | refine b_r ?_ | refine b_y rfl ?_ | refine b_z rfl ?_ | refine l_r ?_ | refine l_x ?_ | refine k_seq ?_ | refine k_blk ?_ | refine k_reg ?_ | refine k_ret ?_ | refine k_exit ?_ | refine k_skip ?_ | refine Zs ?_))
          refine c_f rfl ?_
          (repeat (first | refine k_nil ?_ | refine k_n ?_ | refine k_r ?_ | refine k_x ?_ | refine b_n ?_ | refine b_r ?_ | refine b_y rfl ?_ | refine b_z rfl ?_ | refine l_r ?_ | refine l_x ?_ | refine k_seq ?_ | refine k_blk ?_ | refine k_reg ?_ | refine k_ret ?_ | refine k_exit ?_ | refine k_skip ?_ | refine Zs ?_))
          exact l_next (m + 1) ⟨rfl, rfl, rfl, trivial⟩ ⟨k10, by show m + 1 ≤ _; omega⟩ (by show S.st.length - (m + 1) < S.st.length - m; omega)
        · (repeat (first | refine k_nil ?_ | refine k_n ?_ | refine k_r ?_ | refine k_x ?_ | refine b_n ?_ | refine b_r ?_ | refine b_y rfl ?_ | refine b_z rfl ?_ | refine l_r ?_ | refine l_x ?_ | refine k_seq ?_ | refine k_blk ?_ | refine k_reg ?_ | refine k_ret ?_ | refine k_exit ?_ | refine k_skip ?_ | refine Zs ?_))
          exact ret_1 rfl rfl ⟨rfl, (kw6.no k9).no k10⟩
end Go.Proofs.YtgnkdeapifbgeaaDoor.Sy
