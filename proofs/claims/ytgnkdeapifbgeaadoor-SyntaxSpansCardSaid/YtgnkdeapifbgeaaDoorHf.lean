/- syntax.Parse. -/
import Derived.Test.YtgnkdeapifbgeaaDoorHd
import Derived.Test.YtgnkdeapifbgeaaDoorHe
import Derived.Test.YtgnkdeapifbgeaaDoorUb
import Derived.Test.YtgnkdeapifbgeaaDoorGm
namespace Go.Proofs.YtgnkdeapifbgeaaDoor.Sy
open Go Go.RowKit Fw
set_option linter.unusedVariables false
set_option maxRecDepth 20000
/-- A program in memory. -/
def Tr (w : World) (ux us uf : Value) (S : PS) : Prop := RX w ⟨ux, us, uf, fun _ => True⟩ S.ex ∧ RS w ⟨ux, us, uf, fun _ => True⟩ S.st ∧ RF w ⟨ux, us, uf, fun _ => True⟩ S.fn
theorem Tr.kp {w w' : World} {ux us uf : Value} {S : PS} (h : Tr w ux us uf S) (k : Kp No w w') : Tr w' ux us uf S := by
  have no : ∀ {base : Nat} {e : TypeId} {size : Nat} {v : Value} {n : Nat} {cs : List Value}, w.ownsRow base e size v n cs → w'.ownsRow base e size v n cs := fun ho => own_kp ho k fun _ _ h => h
  obtain ⟨⟨rx, e1, o1, l1⟩, ⟨ry, e2, o2, l2⟩, rz, e3, o3, l3⟩ := h
  exact ⟨⟨rx, e1, no o1, fun r hr => ⟨no (l1 r hr).1, (l1 r hr).2⟩⟩, ⟨ry, e2, no o2, fun r hr => ⟨⟨no (l2 r hr).1.1, (l2 r hr).1.2⟩, no (l2 r hr).2.1, (l2 r hr).2.2⟩⟩,
    ⟨rz, e3, no o3, fun r hr => ⟨⟨no (l3 r hr).1.1, (l3 r hr).1.2⟩, no (l3 r hr).2.1, (l3 r hr).2.2⟩⟩⟩
/-- What Parse hands back. -/
def PrsV (w : World) (v : Value) : Rs Unit → Prop
  | .ok _ S => ∃ ux us uf, v = .tuple #[.agg #[ux, us, uf], .int .i64 0, .int .i64 0] ∧ Tr w ux us uf S
  | .er c p => v = .tuple #[.agg #[nilS, nilS, nilS], .int .i64 p, .int .i64 c]
  | .out => False
theorem Kp.from0 {S : Nat → Prop} {a b c : World} (h : Kp No a b) (k : Kp S b c) (hs : ∀ i, i < a.heap.size → ¬ S i) : Kp No a c := h.trans k fun i hi e => hs i hi e
structure PaS where
  m : Nat
  s : PS
  V : VS
theorem nilown {w : World} {e : TypeId} {z : Nat} : w.ownsRow 0 e z nilS 0 [] := ⟨by simp, .inl ⟨rfl, rfl⟩⟩
def V0 : VS := ⟨nilS, nilS, nilS, fun _ => False⟩
set_option maxHeartbeats 1000000 in
theorem ParseF (s : ByteArray) (w : World) (hg : Tk.Glob w) (hs : s.size ≤ 1000000) :
    Ret Tryd.prog 11 [.string s] w fun v w' => Kp No w w' ∧ PrsV w' v (prs (B s)) := by
  refine retD_enter Tryd.func11 rfl Tryd.ntmps11 rfl ?_
  (repeat (first | refine k_nil ?_ | refine k_n ?_ | refine k_r ?_ | refine k_x ?_ | refine b_n ?_ | refine b_r ?_ | refine b_y rfl ?_ | refine b_z rfl ?_ | refine l_r ?_ | refine l_x ?_ | refine k_seq ?_ | refine k_blk ?_ | refine k_reg ?_ | refine k_ret ?_ | refine k_exit ?_ | refine k_skip ?_ | refine Zs ?_))
  refine s_al rfl (fun p2 w1 n1 => ?_)
  refine s_al rfl (fun p3 w2 n2 => ?_)
  refine s_al rfl (fun p4 w3 n3 => ?_)
  have k3 : Kp No w w3 := (n1.kp.no n2.kp).no n3.kp
  have ge2 := n1.ge
  have ge3 : w1.heap.size ≤ p3 := n2.ge
  have ge4 : w2.heap.size ≤ p4 := n3.ge
  have lt2 := n1.lt
  have lt3 := n2.lt
  have lt4 := n3.lt
  have z1 := n1.kp.size
  have z2 := n2.kp.size
  have z3 := n3.kp.size
  have a2 : w3.heap[p2]? = some (.cells [nilS, nilS, nilS].toArray 27 (0, 0)) := n3.kp.get0 (n2.kp.get0 n1.blk)
  have a3 : w3.heap[p3]? = some (.cells [Value.int .i64 0].toArray 3 (0, 0)) := n3.kp.get0 n2.blk
  have a4 : w3.heap[p4]? = some (.cells [Value.int .i64 0].toArray 28 (0, 0)) := n3.blk
  have h23 : p2 ≠ p3 := by omega
  have h24 : p2 ≠ p4 := by omega
  have h34 : p3 ≠ p4 := by omega
  have g2 : w.heap.size ≤ p2 ∧ w.heap.size ≤ p3 ∧ w.heap.size ≤ p4 := ⟨by omega, by omega, by omega⟩
  (repeat (first | refine k_nil ?_ | refine k_n ?_ | refine k_r ?_ | refine k_x ?_ | refine b_n ?_ | refine b_r ?_ | refine b_y rfl ?_ | refine b_z rfl ?_ | refine l_r ?_ | refine l_x ?_ | refine k_seq ?_ | refine k_blk ?_ | refine k_reg ?_ | refine k_ret ?_ | refine k_exit ?_ | refine k_skip ?_ | refine Zs ?_))
  refine s_call (us := []) (zs := []) (by kernel_rfl) rfl rfl (Tk.All s w3 (hg.kp k3) (by omega)) ?_
  rintro _ w4 ⟨u, rfl, own4, k4⟩
  obtain ⟨av, cv, rfl, _, _, _⟩ := own_read own4
  (repeat (first | refine k_nil ?_ | refine k_n ?_ | refine k_r ?_ | refine k_x ?_ | refine b_n ?_ | refine b_r ?_ | refine b_y rfl ?_ | refine b_z rfl ?_ | refine l_r ?_ | refine l_x ?_ | refine k_seq ?_ | refine k_blk ?_ | refine k_reg ?_ | refine k_ret ?_ | refine k_exit ?_ | refine k_skip ?_ | refine Zs ?_))
  refine s_st (vs := [.int .i64 (Tk.allT (B s)).2.1]) rfl rfl rfl rfl rfl (k4.get0 a3) (Nat.le_of_ble_eq_true rfl) (fun w5 s5 => ?_)
  refine s_st (vs := [.int .i64 (Tk.allT (B s)).2.2]) rfl rfl rfl rfl rfl (s5.kp.get (k4.get0 a4) (Ne.symm h34)) (Nat.le_of_ble_eq_true rfl) (fun w6 s6 => ?_)
  have b2 : w6.heap[p2]? = some (.cells [nilS, nilS, nilS].toArray 27 (0, 0)) := s6.kp.get (s5.kp.get (k4.get0 a2) h23) h24
  have b3 : w6.heap[p3]? = some (.cells [Value.int .i64 (Tk.allT (B s)).2.1].toArray 3 (0, 0)) := s6.kp.get s5.blk h34
  have b4 : w6.heap[p4]? = some (.cells [Value.int .i64 (Tk.allT (B s)).2.2].toArray 28 (0, 0)) := s6.blk
  have k6 : Kp No w w6 := Kp.from0 (Kp.from0 (k3.no k4) s5.kp fun i hi e => by omega) s6.kp fun i hi e => by omega
  have own6 : w6.ownsRow 0 70 3 (.slice av (Tk.allT (B s)).1.length cv) (Tk.allT (B s)).1.length (Tk.tc (Tk.allT (B s)).1) := by
    refine own_kp (own_kp ?_ s5.kp fun g hg e => ?_) s6.kp fun g hg e => ?_
    · refine ⟨own4.1, ?_⟩
      rcases own4.2 with h | ⟨g, cap, cur, e1, _, e3⟩
      · exact .inl h
      · exact .inr ⟨g, cap, cur, e1, Nat.zero_le _, e3⟩
    · have := (own_lt own4 hg).1; omega
    · have := (own_lt own4 hg).1; omega
  clear a2 a3 a4 n1 n2 n3 s5 s6 own4 k4
  (repeat (first | refine k_nil ?_ | refine k_n ?_ | refine k_r ?_ | refine k_x ?_ | refine b_n ?_ | refine b_r ?_ | refine b_y rfl ?_ | refine b_z rfl ?_ | refine l_r ?_ | refine l_x ?_ | refine k_seq ?_ | refine k_blk ?_ | refine k_reg ?_ | refine k_ret ?_ | refine k_exit ?_ | refine k_skip ?_ | refine Zs ?_))
  refine c_ne rfl (fun hbad => ?_) (fun hgood => ?_)
  · have ep : prs (B s) = .er (Tk.allT (B s)).2.2 (Tk.allT (B s)).2.1 := by unfold prs; rw [if_pos hbad]
    rw [ep]
    (repeat (first | refine k_nil ?_ | refine k_n ?_ | refine k_r ?_ | refine k_x ?_ | refine b_n ?_ | refine b_r ?_ | refine b_y rfl ?_ | refine b_z rfl ?_ | refine l_r ?_ | refine l_x ?_ | refine k_seq ?_ | refine k_blk ?_ | refine k_reg ?_ | refine k_ret ?_ | refine k_exit ?_ | refine k_skip ?_ | refine Zs ?_))
    refine k_h (fun w' => w'.heap[p3]? = some (.cells [Value.int .i64 (Tk.allT (B s)).2.1].toArray 3 (0, 0)) ∧ w'.heap[p4]? = some (.cells [Value.int .i64 (Tk.allT (B s)).2.2].toArray 28 (0, 0))) [(0, false), (1, false), (2, false), (3, true), (4, true), (5, true)] 5 (by kernel_rfl) (waits_of_last (by kernel_rfl)) (by kernel_rfl) (by kernel_rfl) (by kernel_rfl) rfl (fun w7 k7 q7 => ?_)
    have c2 := k7.get0 b2
    have c3 := k7.get0 b3
    have c4 := k7.get0 b4
    refine h_v ⟨c3, c4⟩ (fun w' hw => r_bd rfl) ?_
    refine h_v ⟨c3, c4⟩ (fun w' hw => r_ld rfl rfl (cell_of_blk hw.1 rfl)) ?_
    refine h_v ⟨c3, c4⟩ (fun w' hw => r_ld rfl rfl (cell_of_blk hw.2 rfl)) ?_
    refine h_st (vs := [nilS, nilS, nilS]) rfl rfl rfl rfl rfl c2 (Nat.le_of_ble_eq_true rfl) (fun w8 s8 => ⟨fun _ => ⟨s8.kp.get c3 (Ne.symm h23), s8.kp.get c4 (Ne.symm h24)⟩, ?_⟩)
    have d3 := s8.kp.get c3 (Ne.symm h23)
    have d4 := s8.kp.get c4 (Ne.symm h24)
    refine h_st (vs := [.int .i64 (Tk.allT (B s)).2.1]) rfl rfl rfl rfl rfl d3 (Nat.le_of_ble_eq_true rfl) (fun w9 s9 => ⟨fun _ => ⟨s9.blk, s9.kp.get d4 (Ne.symm h34)⟩, ?_⟩)
    refine h_st (vs := [.int .i64 (Tk.allT (B s)).2.2]) rfl rfl rfl rfl rfl (s9.kp.get d4 (Ne.symm h34)) (Nat.le_of_ble_eq_true rfl) (fun w10 s10 => ⟨fun h => (h rfl).elim, ?_⟩)
    have e2 : w10.heap[p2]? = some (.cells [nilS, nilS, nilS].toArray 27 (0, 0)) := s10.kp.get (s9.kp.get s8.blk h23) h24
    have e3 : w10.heap[p3]? = some (.cells [Value.int .i64 (Tk.allT (B s)).2.1].toArray 3 (0, 0)) := s10.kp.get s9.blk h34
    have e4 : w10.heap[p4]? = some (.cells [Value.int .i64 (Tk.allT (B s)).2.2].toArray 28 (0, 0)) := s10.blk
    refine h_nil ?_
    (repeat (first | refine k_nil ?_ | refine k_n ?_ | refine k_r ?_ | refine k_x ?_ | refine b_n ?_ | refine b_r ?_ | refine b_y rfl ?_ | refine b_z rfl ?_ | refine l_r ?_ | refine l_x ?_ | refine k_seq ?_ | refine k_blk ?_ | refine k_reg ?_ | refine k_ret ?_ | refine k_exit ?_ | refine k_skip ?_ | refine Zs ?_))
    refine retD_0 (res_n (vs := [.agg #[nilS, nilS, nilS], .int .i64 (Tk.allT (B s)).2.1, .int .i64 (Tk.allT (B s)).2.2]) rfl rfl ⟨rv_ag (vs := [nilS, nilS, nilS]) rfl rfl rfl e2 rfl rfl, rv_1 rfl rfl (cell_of_blk e3 rfl), rv_1 rfl rfl (cell_of_blk e4 rfl), trivial⟩) ⟨?_, rfl⟩
    exact Kp.from0 (Kp.from0 (Kp.from0 (k6.no k7) s8.kp fun i hi e => by omega) s9.kp fun i hi e => by omega) s10.kp fun i hi e => by omega
  obtain ⟨hL, hals, hat0⟩ := Tk.all_ok hgood
  have htl := Tk.all_len hL
  have hbd := fun t => Tk.all_bounds (L := B s) (t := t)
  have hsl := B_len s
  have ep : prs (B s) = fcts (envOf (B s)) (fuel (B s)) (fuel (B s)) ⟨0, [], [], []⟩ := by unfold prs; rw [if_neg (fun e => e hgood)]
  rw [hat0] at b3
  rw [hgood] at b4
  obtain ⟨T, hT⟩ : ∃ T, T = (Tk.allT (B s)).1 := ⟨_, rfl⟩
  rw [← hT] at own6 ⊢
  have hTl : T.length ≤ s.size + 1 := by rw [hT]; omega
  (repeat (first | refine k_nil ?_ | refine k_n ?_ | refine k_r ?_ | refine k_x ?_ | refine b_n ?_ | refine b_r ?_ | refine b_y rfl ?_ | refine b_z rfl ?_ | refine l_r ?_ | refine l_x ?_ | refine k_seq ?_ | refine k_blk ?_ | refine k_reg ?_ | refine k_ret ?_ | refine k_exit ?_ | refine k_skip ?_ | refine Zs ?_))
  refine s_call (us := []) (zs := []) (by kernel_rfl) rfl rfl (Tk.Text s av cv T w6 (Tk.RdT.of own6) (by omega) (fun t ht => by rw [hT] at ht; have := hbd t ht; omega)) ?_
  rintro wv w7 ⟨own7, k7⟩
  have own7t := own_kp own6 k7 fun _ _ h => h
  have own7 : w7.ownsRow 0 9 1 wv (T.map (Tk.tx s)).length ((T.map (Tk.tx s)).map Value.string) := by
    rw [List.length_map]
    refine ⟨own7.1, ?_⟩
    rcases own7.2 with h | ⟨g, cap, cur, e1, _, e3⟩
    · exact .inl h
    · exact .inr ⟨g, cap, cur, e1, Nat.zero_le _, e3⟩
  have c2 := k7.get0 b2
  have c3 := k7.get0 b3
  have c4 := k7.get0 b4
  clear b2 b3 b4 own6
  obtain ⟨wa, wc, ew, _⟩ := own_read own7
  subst ew
  (repeat (first | refine k_nil ?_ | refine k_n ?_ | refine k_r ?_ | refine k_x ?_ | refine b_n ?_ | refine b_r ?_ | refine b_y rfl ?_ | refine b_z rfl ?_ | refine l_r ?_ | refine l_x ?_ | refine k_seq ?_ | refine k_blk ?_ | refine k_reg ?_ | refine k_ret ?_ | refine k_exit ?_ | refine k_skip ?_ | refine Zs ?_))
  refine s_box rfl rfl (fun p w8 n8 => ?_)
  obtain ⟨X, hX⟩ : ∃ X : Cx, X = ⟨p, .slice av T.length cv, .slice wa (T.map (Tk.tx s)).length wc, T, T.map (Tk.tx s)⟩ := ⟨_, rfl⟩
  have hXp : X.p = p := by rw [hX]
  have ok : Ok X := ok_of hgood (by rw [hX]; exact hT) (by rw [hX, ← hT])
  have eE : X.E = envOf (B s) := env_of (by rw [hX]; exact hT) (by rw [hX, ← hT])
  have hne : T ≠ [] := fun e => by rw [← hT, e] at hals; exact Tk.als_ne hals
  have hA : At X w8 ⟨0, [], [], []⟩ V0 := by
    rw [hX]
    refine ⟨n8.blk, own_kp own7t n8.kp fun _ _ h => h, own_kp own7 n8.kp fun _ _ h => h, ⟨[], rfl, nilown, fun r hr => (by cases hr)⟩, ⟨[], rfl, nilown, fun r hr => (by cases hr)⟩, ⟨[], rfl, nilown, fun r hr => (by cases hr)⟩, ?_, Nat.le_refl _, Nat.zero_le _, Nat.zero_le _, fun b hb => hb.elim⟩
    cases T with
    | nil => exact (hne rfl).elim
    | cons => simp
  have hz8 := n8.ge
  have k8 : Kp No w w8 := (k6.no k7).no n8.kp
  have hSx : ∀ i, i < w.heap.size → ¬ Sx X V0 i := by
    intro i hi hs
    rcases hs with hs | hs | hs | hs
    · have := k6.size; have := k7.size; omega
    · cases hs
    · cases hs
    · cases hs
  have hzw : w.heap.size ≤ w8.heap.size := k8.size
  have hns : ∀ b, b < w7.heap.size → ¬ Sx X V0 b := by
    intro b hb hs
    rcases hs with hs | hs | hs | hs
    · omega
    · cases hs
    · cases hs
    · cases hs
  have B2 : Bx X w w8 V0 p2 [nilS, nilS, nilS] 27 := ⟨g2.1, n8.kp.get0 c2, hns _ (lt_of_get c2)⟩
  have B3 : Bx X w w8 V0 p3 [.int .i64 0] 3 := ⟨g2.2.1, n8.kp.get0 c3, hns _ (lt_of_get c3)⟩
  have B4 : Bx X w w8 V0 p4 [.int .i64 0] 28 := ⟨g2.2.2, n8.kp.get0 c4, hns _ (lt_of_get c4)⟩
  have hp8 : p2 < w8.heap.size ∧ p3 < w8.heap.size ∧ p4 < w8.heap.size := ⟨lt_of_get B2.blk, lt_of_get B3.blk, lt_of_get B4.blk⟩
  rw [← eE] at ep
  obtain ⟨F, hF⟩ : ∃ F, F = fuel (B s) := ⟨_, rfl⟩
  rw [← hF] at ep
  have hno := prs_no (B s)
  obtain ⟨R, hR⟩ : ∃ R, prs (B s) = R := ⟨_, rfl⟩
  rw [hR] at hno ep ⊢
  have hpt : Value.pointer (some ⟨p, 0, none⟩) = ptr X := by rw [ptr, hXp]
  rw [hpt]
  clear n8 hX own7 own7t c2 c3 c4 hR hF hT hals hbd hsl htl hL hat0
  (repeat (first | refine k_nil ?_ | refine k_n ?_ | refine k_r ?_ | refine k_x ?_ | refine b_n ?_ | refine b_r ?_ | refine b_y rfl ?_ | refine b_z rfl ?_ | refine l_r ?_ | refine l_x ?_ | refine k_seq ?_ | refine k_blk ?_ | refine k_reg ?_ | refine k_ret ?_ | refine k_exit ?_ | refine k_skip ?_ | refine Zs ?_))
  refine s_defer (zs := [.pointer (some ⟨p2, 0, none⟩), .pointer (some ⟨p3, 0, none⟩), .pointer (some ⟨p4, 0, none⟩)]) rfl ?_
  refine k_nil ?_
  refine k_n ?_
  refine k_seq ?_
  refine k_blk ?_
  refine k_loop (σ := PaS) (fun x => [(2, .pointer (some ⟨p2, 0, none⟩)), (3, .pointer (some ⟨p3, 0, none⟩)), (4, .pointer (some ⟨p4, 0, none⟩)), (6, ptr X)])
    (fun x w' => fcts X.E F x.m x.s = R ∧ Sg X w8 V0 w' x.s x.V ∧ Bx X w w' x.V p2 [nilS, nilS, nilS] 27 ∧ Bx X w w' x.V p3 [.int .i64 0] 3 ∧ Bx X w w' x.V p4 [.int .i64 0] 28) (fun x => x.m) ⟨F, ⟨0, [], [], []⟩, V0⟩ ⟨rfl, rfl, rfl, rfl, trivial⟩ ⟨ep.symm, Sg.start hA, B2, B3, B4⟩ ?_
  rintro ⟨m, S, V⟩ l w9 ⟨hm, g9, D2, D3, D4⟩
  simp only at hm g9 D2 D3 D4
  cases m with
  | zero => exact (hno (by rw [← hm]; rfl)).elim
  | succ m =>
  unfold fcts at hm
  clear B2 B3 B4 ep hA
  have h9 := g9.at_
  obtain ⟨t, x0, ht, hx0, e1, e2, e3⟩ := h9.tok ok
  obtain ⟨gt, ct, et, hct⟩ := h9.tokens
  obtain ⟨c1, c2, c3⟩ := hct _ _ ht
  have hb := h9.blk
  rw [et] at hb
  have hlt := h9.lt
  have hbig := ok.big
  (repeat (first | refine k_nil ?_ | refine k_n ?_ | refine k_r ?_ | refine k_x ?_ | refine b_n ?_ | refine b_r ?_ | refine b_y rfl ?_ | refine b_z rfl ?_ | refine l_r ?_ | refine l_x ?_ | refine k_seq ?_ | refine k_blk ?_ | refine k_reg ?_ | refine k_ret ?_ | refine k_exit ?_ | refine k_skip ?_ | refine Zs ?_))
  refine k_q (by kernel_rfl) (by kernel_rfl) ?_
  (repeat (first | refine Zq ?_ | refine Zqn ?_ | refine Zqu ?_ | refine Zqg ?_))
  refine q_call (us := []) (zs := []) (by kernel_rfl) rfl rfl (fun w' hw => (lenF (h9.no hw)).mono (by rintro _ _ ⟨rfl, rfl⟩; exact ⟨rfl, hw⟩)) ?_
  (repeat (first | refine Zq ?_ | refine Zqn ?_ | refine Zqu ?_ | refine Zqg ?_))
  by_cases hf : S.fn = []
  · rw [if_neg (fun e => e.1 hf)] at hm
    refine q_set 30 true rfl (by rw [hf]; rfl) ?_
    (repeat (first | refine Zq ?_ | refine Zqn ?_ | refine Zqu ?_ | refine Zqg ?_))
    refine q_nil (fun w10 k10 => ?_)
    have g10 := g9.no k10
    (repeat (first | refine k_nil ?_ | refine k_n ?_ | refine k_r ?_ | refine k_x ?_ | refine b_n ?_ | refine b_r ?_ | refine b_y rfl ?_ | refine b_z rfl ?_ | refine l_r ?_ | refine l_x ?_ | refine k_seq ?_ | refine k_blk ?_ | refine k_reg ?_ | refine k_ret ?_ | refine k_exit ?_ | refine k_skip ?_ | refine Zs ?_))
    refine c_t rfl ?_
    (repeat (first | refine k_nil ?_ | refine k_n ?_ | refine k_r ?_ | refine k_x ?_ | refine b_n ?_ | refine b_r ?_ | refine b_y rfl ?_ | refine b_z rfl ?_ | refine l_r ?_ | refine l_x ?_ | refine k_seq ?_ | refine k_blk ?_ | refine k_reg ?_ | refine k_ret ?_ | refine k_exit ?_ | refine k_skip ?_ | refine Zs ?_))
    refine s_enterP (R := fun v w' => ∃ s' V', fct X.E F S = .ok () s' ∧ Sg X w10 V w' s' V') (F' := erP X w10 V (fct X.E F S)) (run_call (us := []) (zs := []) (by kernel_rfl) rfl rfl) (functionF ok S V w10 g10.at_ (bind_ne (show _ ≠ _ by rw [hm]; exact hno))) ?_ ?_
    · rintro c w11 ⟨k, q, ee, rfl, kk⟩
      have er : R = .er k q := by rw [← hm, ee]; rfl
      have D2' := kk.get (D2.no k10).blk D2.ns
      have D3' := kk.get (D3.no k10).blk D3.ns
      have D4' := kk.get (D4.no k10).blk D4.ns
      refine panicD_1 (by kernel_rfl) (catchF p2 p3 p4 q k _ _ _ _ _ w11 D2' D3' D4' h23 h24 h34) ?_
      rintro e u w12 ⟨hv, hu, ⟨f2, f3, f4⟩, kc⟩
      refine ⟨hv, hu, _, res_n (vs := [.agg #[nilS, nilS, nilS], .int .i64 q, .int .i64 k]) rfl rfl ⟨rv_ag (vs := [nilS, nilS, nilS]) rfl rfl rfl f2 rfl rfl, rv_1 rfl rfl (cell_of_blk f3 rfl), rv_1 rfl rfl (cell_of_blk f4 rfl), trivial⟩, ?_, by rw [er]; rfl⟩
      exact Kp.from0 (Kp.from0 k8 (g10.gs.kp.trans kk fun i hi hs => g10.gs.fr i hi hs) hSx) kc fun i hi e => by omega
    rintro _ w11 ⟨S', V', e11, g11⟩
    rw [e11, bind_ok] at hm
    (repeat (first | refine k_nil ?_ | refine k_n ?_ | refine k_r ?_ | refine k_x ?_ | refine b_n ?_ | refine b_r ?_ | refine b_y rfl ?_ | refine b_z rfl ?_ | refine l_r ?_ | refine l_x ?_ | refine k_seq ?_ | refine k_blk ?_ | refine k_reg ?_ | refine k_ret ?_ | refine k_exit ?_ | refine k_skip ?_ | refine Zs ?_))
    exact l_next ⟨m, S', V'⟩ ⟨rfl, rfl, rfl, rfl, trivial⟩ ⟨hm, g10.call g11, (D2.no k10).gs g11.gs, (D3.no k10).gs g11.gs, (D4.no k10).gs g11.gs⟩ (by simp)
  have hf0 : ((S.fn.length : Int) == 0) = false := by
    cases hS : S.fn with
    | nil => exact (hf hS).elim
    | cons => simp; omega
  refine q_set 30 false rfl hf0 ?_
  (repeat (first | refine Zq ?_ | refine Zqn ?_ | refine Zqu ?_ | refine Zqg ?_))
  refine q_nil (fun w10 k10 => ?_)
  have g10 := g9.no k10
  (repeat (first | refine k_nil ?_ | refine k_n ?_ | refine k_r ?_ | refine k_x ?_ | refine b_n ?_ | refine b_r ?_ | refine b_y rfl ?_ | refine b_z rfl ?_ | refine l_r ?_ | refine l_x ?_ | refine k_seq ?_ | refine k_blk ?_ | refine k_reg ?_ | refine k_ret ?_ | refine k_exit ?_ | refine k_skip ?_ | refine Zs ?_))
  refine c_ne rfl (fun q => ?_) (fun q => ?_)
  · rw [if_neg (fun e => q (by rw [← e1]; exact e.2))] at hm
    (repeat (first | refine k_nil ?_ | refine k_n ?_ | refine k_r ?_ | refine k_x ?_ | refine b_n ?_ | refine b_r ?_ | refine b_y rfl ?_ | refine b_z rfl ?_ | refine l_r ?_ | refine l_x ?_ | refine k_seq ?_ | refine k_blk ?_ | refine k_reg ?_ | refine k_ret ?_ | refine k_exit ?_ | refine k_skip ?_ | refine Zs ?_))
    refine s_enterP (R := fun v w' => ∃ s' V', fct X.E F S = .ok () s' ∧ Sg X w10 V w' s' V') (F' := erP X w10 V (fct X.E F S)) (run_call (us := []) (zs := []) (by kernel_rfl) rfl rfl) (functionF ok S V w10 g10.at_ (bind_ne (show _ ≠ _ by rw [hm]; exact hno))) ?_ ?_
    · rintro c w11 ⟨k, q, ee, rfl, kk⟩
      have er : R = .er k q := by rw [← hm, ee]; rfl
      have D2' := kk.get (D2.no k10).blk D2.ns
      have D3' := kk.get (D3.no k10).blk D3.ns
      have D4' := kk.get (D4.no k10).blk D4.ns
      refine panicD_1 (by kernel_rfl) (catchF p2 p3 p4 q k _ _ _ _ _ w11 D2' D3' D4' h23 h24 h34) ?_
      rintro e u w12 ⟨hv, hu, ⟨f2, f3, f4⟩, kc⟩
      refine ⟨hv, hu, _, res_n (vs := [.agg #[nilS, nilS, nilS], .int .i64 q, .int .i64 k]) rfl rfl ⟨rv_ag (vs := [nilS, nilS, nilS]) rfl rfl rfl f2 rfl rfl, rv_1 rfl rfl (cell_of_blk f3 rfl), rv_1 rfl rfl (cell_of_blk f4 rfl), trivial⟩, ?_, by rw [er]; rfl⟩
      exact Kp.from0 (Kp.from0 k8 (g10.gs.kp.trans kk fun i hi hs => g10.gs.fr i hi hs) hSx) kc fun i hi e => by omega
    rintro _ w11 ⟨S', V', e11, g11⟩
    rw [e11, bind_ok] at hm
    (repeat (first | refine k_nil ?_ | refine k_n ?_ | refine k_r ?_ | refine k_x ?_ | refine b_n ?_ | refine b_r ?_ | refine b_y rfl ?_ | refine b_z rfl ?_ | refine l_r ?_ | refine l_x ?_ | refine k_seq ?_ | refine k_blk ?_ | refine k_reg ?_ | refine k_ret ?_ | refine k_exit ?_ | refine k_skip ?_ | refine Zs ?_))
    exact l_next ⟨m, S', V'⟩ ⟨rfl, rfl, rfl, rfl, trivial⟩ ⟨hm, g10.call g11, (D2.no k10).gs g11.gs, (D3.no k10).gs g11.gs, (D4.no k10).gs g11.gs⟩ (by simp)
  rw [if_pos ⟨hf, by rw [e1]; exact q⟩] at hm
  have hmR := hm
  (repeat (first | refine k_nil ?_ | refine k_n ?_ | refine k_r ?_ | refine k_x ?_ | refine b_n ?_ | refine b_r ?_ | refine b_y rfl ?_ | refine b_z rfl ?_ | refine l_r ?_ | refine l_x ?_ | refine k_seq ?_ | refine k_blk ?_ | refine k_reg ?_ | refine k_ret ?_ | refine k_exit ?_ | refine k_skip ?_ | refine Zs ?_))
  clear hm g9 hb c1 c2 c3 hct et ht hx0 e1 e2 e3 hf0
  refine k_h (fun _ => True) [(0, false), (1, false), (2, false), (4, false), (5, false), (6, false), (8, false), (9, false), (10, false), (3, true), (7, true), (11, true), (12, false), (13, true), (14, true), (15, true)] 16 (by kernel_rfl) (waits_none) (by kernel_rfl) (by kernel_rfl) (by kernel_rfl) rfl (fun w11 k11 q11 => ?_)
  have h11 := h9.no (k10.no k11)
  obtain ⟨rx, a1, o1, l1⟩ := h11.xs
  obtain ⟨ry, a2, o2, l2⟩ := h11.ss
  obtain ⟨rz, a3, o3, l3⟩ := h11.fs
  have i1 : S.ex.length ≤ 30000 := by have := h9.xl; omega
  have i2 : S.st.length ≤ 30000 := by have := h9.sl; omega
  have i3 : S.fn.length ≤ 30000 := by have := h9.fl; omega
  refine h_v trivial (fun w' hw => r_mv rfl) ?_
  refine h_v trivial (fun w' hw => r_nc rfl) ?_
  refine h_v trivial (fun w' hw => r_fa rfl rfl) ?_
  refine h_v trivial (fun w' hw => r_mv rfl) ?_
  refine h_v trivial (fun w' hw => r_nc rfl) ?_
  refine h_v trivial (fun w' hw => r_fa rfl rfl) ?_
  refine h_v trivial (fun w' hw => r_mv rfl) ?_
  refine h_v trivial (fun w' hw => r_nc rfl) ?_
  refine h_v trivial (fun w' hw => r_fa rfl rfl) ?_
  refine h_call (us := []) (zs := []) (by kernel_rfl) rfl rfl (alX V.x S.ex.length (rx.flatMap exC) w11 h11.blk rfl o1 (ex_one fun r hr => ⟨_, (l1 r hr).1⟩) i1) ?_
  rintro ux w12 ⟨u1, k12⟩
  refine ⟨fun _ => trivial, ?_⟩
  have h12 := h11.no k12
  refine h_call (us := []) (zs := []) (by kernel_rfl) rfl rfl (alS V.s S.st.length (ry.flatMap stC) w12 h12.blk rfl (own_kp o2 k12 fun _ _ h => h) (st_one fun r hr => ⟨⟨_, (l2 r hr).1.1⟩, ⟨_, (l2 r hr).2.1⟩⟩) i2) ?_
  rintro us w13 ⟨u2, k13⟩
  refine ⟨fun _ => trivial, ?_⟩
  have h13 := h12.no k13
  refine h_call (us := []) (zs := []) (by kernel_rfl) rfl rfl (alF V.f S.fn.length (rz.flatMap fnC) w13 h13.blk rfl (own_kp o3 (k12.no k13) fun _ _ h => h) (fn_one fun r hr => ⟨⟨_, (l3 r hr).1.1⟩, ⟨_, (l3 r hr).2.1⟩⟩) i3) ?_
  rintro uf w14 ⟨u3, k14⟩
  refine ⟨fun _ => trivial, ?_⟩
  have kk := ((k11.no k12).no k13).no k14
  have C2 := ((D2.no k10).no kk).blk
  have C3 := ((D3.no k10).no kk).blk
  have C4 := ((D4.no k10).no kk).blk
  obtain ⟨xa, xc, rfl, _⟩ := own_read u1
  obtain ⟨sa, sc, rfl, _⟩ := own_read u2
  obtain ⟨fa, fc, rfl, _⟩ := own_read u3
  refine h_v trivial (fun w' hw => r_bd rfl) ?_
  refine h_st (vs := [.slice xa S.ex.length xc, .slice sa S.st.length sc, .slice fa S.fn.length fc]) rfl rfl rfl rfl rfl C2 (Nat.le_of_ble_eq_true rfl) (fun w15 s15 => ⟨fun _ => trivial, ?_⟩)
  refine h_st (vs := [.int .i64 0]) rfl rfl rfl rfl rfl (s15.kp.get C3 (Ne.symm h23)) (Nat.le_of_ble_eq_true rfl) (fun w16 s16 => ⟨fun _ => trivial, ?_⟩)
  refine h_st (vs := [.int .i64 0]) rfl rfl rfl rfl rfl (s16.kp.get (s15.kp.get C4 (Ne.symm h24)) (Ne.symm h34)) (Nat.le_of_ble_eq_true rfl) (fun w17 s17 => ⟨fun _ => trivial, ?_⟩)
  refine h_nil ?_
  have f2 : w17.heap[p2]? = some (.cells [.slice xa S.ex.length xc, .slice sa S.st.length sc, .slice fa S.fn.length fc].toArray 27 (0, 0)) := s17.kp.get (s16.kp.get s15.blk h23) h24
  have f3 : w17.heap[p3]? = some (.cells [Value.int .i64 0].toArray 3 (0, 0)) := s17.kp.get s16.blk h34
  have f4 : w17.heap[p4]? = some (.cells [Value.int .i64 0].toArray 28 (0, 0)) := s17.blk
  have kst : Kp (fun i => i = p2 ∨ i = p3 ∨ i = p4) w14 w17 := (s15.kp.mono fun i _ e => .inl e).trans ((s16.kp.mono fun i _ e => (.inr (.inl e) : i = p2 ∨ i = p3 ∨ i = p4)).trans (s17.kp.mono fun i _ e => .inr (.inr e)) fun _ _ h => h) fun _ _ h => h
  have gs10 := g10.gs
  have hfo : ∀ b, V.o b → ¬ (b = p2 ∨ b = p3 ∨ b = p4) := by
    intro b hb hs
    have hlt8 : b < w8.heap.size := by
      rcases hs with e | e | e <;> rw [e]
      · exact hp8.1
      · exact hp8.2.1
      · exact hp8.2.2
    exact gs10.fo b hlt8 hb
  have up : ∀ {base : Nat} {e : TypeId} {size : Nat} {v : Value} {n : Nat} {cs : List Value}, w14.ownsRow base e size v n cs → (Nat.beq e 27 || Nat.beq e 3 || Nat.beq e 28) = false → w17.ownsRow base e size v n cs := fun ho he => own_kp ho kst fun g hg hs => by
    obtain ⟨c, hc⟩ := own_ty ho hg
    simp only [Bool.or_eq_false_iff] at he
    rcases hs with hs | hs | hs
    · exact ty_ne hc C2 he.1.1 hs
    · exact ty_ne hc C3 he.1.2 hs
    · exact ty_ne hc C4 he.2 hs
  have upl : ∀ {base : Nat} {e : TypeId} {size : Nat} {v : Value} {n : Nat} {cs : List Value}, w11.ownsRow base e size v n cs → Ow V v → w17.ownsRow base e size v n cs := fun ho hw => own_kp (own_kp ho ((k12.no k13).no k14) fun _ _ h => h) kst fun g hg => hfo g (hw g hg)
  have TR : Tr w17 (.slice xa S.ex.length xc) (.slice sa S.st.length sc) (.slice fa S.fn.length fc) S :=
    ⟨⟨rx, a1, up (own_kp u1 (k13.no k14) fun _ _ h => h) rfl, fun r hr => ⟨upl (l1 r hr).1 (l1 r hr).2, fun _ _ => trivial⟩⟩, ⟨ry, a2, up (own_kp u2 k14 fun _ _ h => h) rfl, fun r hr => ⟨⟨upl (l2 r hr).1.1 (l2 r hr).1.2, fun _ _ => trivial⟩, upl (l2 r hr).2.1 (l2 r hr).2.2, fun _ _ => trivial⟩⟩,
      ⟨rz, a3, up u3 rfl, fun r hr => ⟨⟨upl (l3 r hr).1.1 (l3 r hr).1.2, fun _ _ => trivial⟩, upl (l3 r hr).2.1 (l3 r hr).2.2, fun _ _ => trivial⟩⟩⟩
  have kW : Kp No w w17 := Kp.from0 ((Kp.from0 k8 gs10.kp hSx).no kk) kst fun i hi e => by omega
  (repeat (first | refine k_nil ?_ | refine k_n ?_ | refine k_r ?_ | refine k_x ?_ | refine b_n ?_ | refine b_r ?_ | refine b_y rfl ?_ | refine b_z rfl ?_ | refine l_r ?_ | refine l_x ?_ | refine k_seq ?_ | refine k_blk ?_ | refine k_reg ?_ | refine k_ret ?_ | refine k_exit ?_ | refine k_skip ?_ | refine Zs ?_))
  refine retD_1 (by kernel_rfl) (idleF p2 p3 p4 w17) ?_
  rintro e u w18 ⟨hv, hu, k18⟩
  refine ⟨hv, hu, _, res_n (vs := [.agg #[.slice xa S.ex.length xc, .slice sa S.st.length sc, .slice fa S.fn.length fc], .int .i64 0, .int .i64 0]) rfl rfl ⟨rv_ag (vs := [.slice xa S.ex.length xc, .slice sa S.st.length sc, .slice fa S.fn.length fc]) rfl rfl rfl (k18.get0 f2) rfl rfl, rv_1 rfl rfl (cell_of_blk (k18.get0 f3) rfl), rv_1 rfl rfl (cell_of_blk (k18.get0 f4) rfl), trivial⟩, kW.no k18, ?_⟩
  rw [← hmR]
  exact ⟨_, _, _, rfl, TR.kp k18⟩
end Go.Proofs.YtgnkdeapifbgeaaDoor.Sy
