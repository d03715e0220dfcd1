/- The parser's rows. -/
import Derived.Test.YtgnkdeapifbgeaaDoorGk
import Derived.Test.YtgnkdeapifbgeaaDoorGm
namespace Go.Proofs.YtgnkdeapifbgeaaDoor.Sy
open Go Go.RowKit Fw
set_option linter.unusedVariables false
set_option maxRecDepth 20000
theorem sgB_ne {v : Nat} (hv : v < 5) : [] ∉ (sgB v).map B := by
  rw [sgB_B v hv]
  match v, hv with
  | 0, _ => decide
  | 1, _ => decide
  | 2, _ => decide
  | 3, _ => decide
  | 4, _ => decide
theorem sgB_len {v : Nat} (hv : v < 5) : (sgB v).length ≤ 1000 := by
  match v, hv with
  | 0, _ => decide
  | 1, _ => decide
  | 2, _ => decide
  | 3, _ => decide
  | 4, _ => decide
theorem subA_lv {g v : Nat} (hv : v < 5) : subA (some ⟨g, 2 * min v 4, none⟩) 1 (5 - v) 2 = some ⟨g, 2 * min (v + 1) 4, none⟩ := by
  match v, hv with
  | 0, _ => rfl
  | 1, _ => rfl
  | 2, _ => rfl
  | 3, _ => rfl
  | 4, _ => rfl
/-- What a row's loop is at. -/
structure RowS where
  m : Nat
  a : Int
  s : PS
  V : VS
section
variable {X : Cx} {n : Nat}
theorem rowF (ok : Ok X) (hW : ∀ m, m ≤ n → Wk X (lv X.E m)) (v : Nat) (d : Int) (s : PS) (V : VS) (w : World) (g : Nat) (hv : v ≤ 5) (hd : 0 ≤ d ∧ d ≤ 64) (h : At X w s V) (hg : LvAt w g) : Does X 63 [ptr X, lvV g v, .int .i64 d] w V (sRow X.E (lv X.E n) v d s) intV := by
  intro hr
  unfold sRow at hr ⊢
  refine retP_enter Tryd.func63 rfl Tryd.ntmps63 rfl ?_
  (repeat (first | refine k_nil ?_ | refine k_n ?_ | refine k_r ?_ | refine k_x ?_ | refine b_n ?_ | refine b_r ?_ | refine b_y rfl ?_ | refine b_z rfl ?_ | refine l_r ?_ | refine l_x ?_ | refine k_seq ?_ | refine k_blk ?_ | refine k_reg ?_ | refine k_ret ?_ | refine k_exit ?_ | refine k_skip ?_ | refine Zs ?_))
  refine c_eq rfl (fun q => ?_) (fun q => ?_)
  · have e : v = 5 := by omega
    rw [if_pos e] at hr ⊢
    (repeat (first | refine k_nil ?_ | refine k_n ?_ | refine k_r ?_ | refine k_x ?_ | refine b_n ?_ | refine b_r ?_ | refine b_y rfl ?_ | refine b_z rfl ?_ | refine l_r ?_ | refine l_x ?_ | refine k_seq ?_ | refine k_blk ?_ | refine k_reg ?_ | refine k_ret ?_ | refine k_exit ?_ | refine k_skip ?_ | refine Zs ?_))
    refine s_callP (us := []) (zs := []) (by kernel_rfl) rfl rfl ((hW n (Nat.le_refl _)).unary d s V w hd h hr) (erP.up0 (Sg.start h)) ?_
    rintro v w4 ⟨a, s4, V4, e4, rfl, g4⟩
    (repeat (first | refine k_nil ?_ | refine k_n ?_ | refine k_r ?_ | refine k_x ?_ | refine b_n ?_ | refine b_r ?_ | refine b_y rfl ?_ | refine b_z rfl ?_ | refine l_r ?_ | refine l_x ?_ | refine k_seq ?_ | refine k_blk ?_ | refine k_reg ?_ | refine k_ret ?_ | refine k_exit ?_ | refine k_skip ?_ | refine Zs ?_))
    exact retP_1 rfl rfl ⟨a, s4, V4, e4, rfl, g4⟩
  have hv5 : v < 5 := by omega
  rw [if_neg (by omega)] at hr ⊢
  (repeat (first | refine k_nil ?_ | refine k_n ?_ | refine k_r ?_ | refine k_x ?_ | refine b_n ?_ | refine b_r ?_ | refine b_y rfl ?_ | refine b_z rfl ?_ | refine l_r ?_ | refine l_x ?_ | refine k_seq ?_ | refine k_blk ?_ | refine k_reg ?_ | refine k_ret ?_ | refine k_exit ?_ | refine k_skip ?_ | refine Zs ?_))
  refine s_call (us := []) (zs := []) (by kernel_rfl) rfl rfl (hereF h ok) ?_
  rintro _ w1 ⟨rfl, k1⟩
  have g1 := (Sg.start h).no k1
  have hg1 := hg.no k1
  (repeat (first | refine k_nil ?_ | refine k_n ?_ | refine k_r ?_ | refine k_x ?_ | refine b_n ?_ | refine b_r ?_ | refine b_y rfl ?_ | refine b_z rfl ?_ | refine l_r ?_ | refine l_x ?_ | refine k_seq ?_ | refine k_blk ?_ | refine k_reg ?_ | refine k_ret ?_ | refine k_exit ?_ | refine k_skip ?_ | refine Zs ?_))
  refine s_v (r_slx (a' := some ⟨g, 2 * min (v + 1) 4, none⟩) (n' := 5 - (v + 1)) (c' := 5 - (v + 1)) (size := 2) (a := some ⟨g, 2 * min v 4, none⟩) (n := 5 - v) (c := 5 - v) (l := 1) (h := ((5 - v : Nat) : Int)) rfl rfl rfl rfl rfl (by omega) (by omega) (by omega) (by omega) (subA_lv hv5) (by omega) (by omega)) ?_
  (repeat (first | refine k_nil ?_ | refine k_n ?_ | refine k_r ?_ | refine k_x ?_ | refine b_n ?_ | refine b_r ?_ | refine b_y rfl ?_ | refine b_z rfl ?_ | refine l_r ?_ | refine l_x ?_ | refine k_seq ?_ | refine k_blk ?_ | refine k_reg ?_ | refine k_ret ?_ | refine k_exit ?_ | refine k_skip ?_ | refine Zs ?_))
  refine s_callP (us := []) (zs := []) (by kernel_rfl) rfl rfl ((hW n (Nat.le_refl _)).row (v + 1) d s V w1 g (by omega) hd g1.at_ hg1 (bind_ne hr)) (erP.up g1 rfl) ?_
  rintro _ w2 ⟨a, s2, V2, e2, rfl, g2'⟩
  rw [e2, bind_ok] at hr ⊢
  have hg2 := hg1.gs g1.at_ g2'.gs.kp
  have g2 := g1.call g2'
  obtain ⟨fr, hfr⟩ : ∃ fr, Sy.hr X.E s = fr := ⟨_, rfl⟩
  rw [hfr] at hr ⊢
  obtain ⟨R, hR⟩ : ∃ R, (lv X.E n).rows v d fr a s2 = R := ⟨_, rfl⟩
  rw [hR] at hr ⊢
  (repeat (first | refine k_nil ?_ | refine k_n ?_ | refine k_r ?_ | refine k_x ?_ | refine b_n ?_ | refine b_r ?_ | refine b_y rfl ?_ | refine b_z rfl ?_ | refine l_r ?_ | refine l_x ?_ | refine k_seq ?_ | refine k_blk ?_ | refine k_reg ?_ | refine k_ret ?_ | refine k_exit ?_ | refine k_skip ?_ | refine Zs ?_))
  refine k_loop (σ := RowS) (fun x => [(0, ptr X), (1, lvV g v), (2, .int .i64 d), (7, .int .i64 fr), (8, .int .i64 x.a)])
    (fun x w' => x.m ≤ n ∧ (lv X.E x.m).rows v d fr x.a x.s = R ∧ Sg X w V w' x.s x.V ∧ LvAt w' g) (fun x => x.m) ⟨n, a, s2, V2⟩ ⟨rfl, rfl, rfl, (by rw [← hfr]; rfl), rfl, trivial⟩ ⟨Nat.le_refl _, hR, g2, hg2⟩ ?_
  rintro ⟨m, a, s3, V3⟩ l w3 ⟨hm, hR3, g3, hg3⟩
  simp only at hm hR3 g3
  clear hR g2 hg2 e2 g2'
  cases m with
  | zero => exact (hr (by rw [← hR3]; rfl)).elim
  | succ m =>
  have hR3 : sRows X.E (lv X.E m) v d fr a s3 = R := hR3
  obtain ⟨lr, c1, c2, hrd⟩ := hg3.at hv5
  have hmin : min v 4 = v := by omega
  have hgv : lvV g v = .slice (some ⟨g, 2 * v, none⟩) (5 - v) (5 - v) := by unfold lvV; rw [hmin]
  simp only [hgv]
  (repeat (first | refine k_nil ?_ | refine k_n ?_ | refine k_r ?_ | refine k_x ?_ | refine b_n ?_ | refine b_r ?_ | refine b_y rfl ?_ | refine b_z rfl ?_ | refine l_r ?_ | refine l_x ?_ | refine k_seq ?_ | refine k_blk ?_ | refine k_reg ?_ | refine k_ret ?_ | refine k_exit ?_ | refine k_skip ?_ | refine Zs ?_))
  refine s_v (r_ia (size := 2) rfl rfl rfl rfl (by omega) (by omega)) ?_
  (repeat (first | refine k_nil ?_ | refine k_n ?_ | refine k_r ?_ | refine k_x ?_ | refine b_n ?_ | refine b_r ?_ | refine b_y rfl ?_ | refine b_z rfl ?_ | refine l_r ?_ | refine l_x ?_ | refine k_seq ?_ | refine k_blk ?_ | refine k_reg ?_ | refine k_ret ?_ | refine k_exit ?_ | refine k_skip ?_ | refine Zs ?_))
  refine s_call (us := []) (zs := []) (by kernel_rfl) rfl rfl (takeF g3.at_ ok (sgB v) (some ⟨lr, 0, none⟩) (sgB v).length hrd (sgB_len hv5) (sgB_ne hv5)) ?_
  rw [sgB_B v hv5]
  unfold sRows at hR3
  rintro _ w4 ⟨x, hx, ⟨q, rfl, hz, g4⟩ | ⟨q, rfl, k4⟩⟩
  · rw [if_pos q] at hR3
    have hne := bind_ne (show _ ≠ _ by rw [hR3]; exact hr)
    have hg4 := hg3.gs g3.at_ g4.gs.kp
    have g4 := g3.call g4
    (repeat (first | refine k_nil ?_ | refine k_n ?_ | refine k_r ?_ | refine k_x ?_ | refine b_n ?_ | refine b_r ?_ | refine b_y rfl ?_ | refine b_z rfl ?_ | refine l_r ?_ | refine l_x ?_ | refine k_seq ?_ | refine k_blk ?_ | refine k_reg ?_ | refine k_ret ?_ | refine k_exit ?_ | refine k_skip ?_ | refine Zs ?_))
    refine c_b rfl (fun hb => (by rw [show _ = _ from hz] at hb; cases hb)) (fun hb => ?_)
    refine k_re 9 (v := .string x) (v' := sv (Sy.wd X.E s3)) rfl (by rw [← hx]; exact (sv_B x).symm) ?_
    (repeat (first | refine k_nil ?_ | refine k_n ?_ | refine k_r ?_ | refine k_x ?_ | refine b_n ?_ | refine b_r ?_ | refine b_y rfl ?_ | refine b_z rfl ?_ | refine l_r ?_ | refine l_x ?_ | refine k_seq ?_ | refine k_blk ?_ | refine k_reg ?_ | refine k_ret ?_ | refine k_exit ?_ | refine k_skip ?_ | refine Zs ?_))
    refine s_v (r_slx (a' := some ⟨g, 2 * min (v + 1) 4, none⟩) (n' := 5 - (v + 1)) (c' := 5 - (v + 1)) (size := 2) (a := some ⟨g, 2 * v, none⟩) (n := 5 - v) (c := 5 - v) (l := 1) (h := ((5 - v : Nat) : Int)) rfl rfl rfl rfl rfl (by omega) (by omega) (by omega) (by omega) (by have := subA_lv (g := g) hv5; rw [hmin] at this; exact this) (by omega) (by omega)) ?_
    (repeat (first | refine k_nil ?_ | refine k_n ?_ | refine k_r ?_ | refine k_x ?_ | refine b_n ?_ | refine b_r ?_ | refine b_y rfl ?_ | refine b_z rfl ?_ | refine l_r ?_ | refine l_x ?_ | refine k_seq ?_ | refine k_blk ?_ | refine k_reg ?_ | refine k_ret ?_ | refine k_exit ?_ | refine k_skip ?_ | refine Zs ?_))
    refine s_callP (us := []) (zs := []) (by kernel_rfl) rfl rfl ((hW m (by omega)).row (v + 1) d _ V3 w4 g (by omega) hd g4.at_ hg4 hne) (erP.up g4 hR3.symm) ?_
    rintro _ w5 ⟨b, s5, V5, e5, rfl, g5'⟩
    rw [e5, bind_ok] at hR3
    have hg5 := hg4.gs g4.at_ g5'.gs.kp
    have g5 := g4.call g5'
    have hx5 : s5.ex.length + 1 ≤ s5.i := by
      have u := (bd_lv (E := X.E) m).row _ _ _ _ _ e5
      have := g3.at_.xl
      have e1 : (adv s3).i = s3.i + 1 := rfl
      have e2 : (adv s3).ex = s3.ex := rfl
      unfold Up at u
      rw [e1, e2] at u
      omega
    (repeat (first | refine k_nil ?_ | refine k_n ?_ | refine k_r ?_ | refine k_x ?_ | refine b_n ?_ | refine b_r ?_ | refine b_y rfl ?_ | refine b_z rfl ?_ | refine l_r ?_ | refine l_x ?_ | refine k_seq ?_ | refine k_blk ?_ | refine k_reg ?_ | refine k_ret ?_ | refine k_exit ?_ | refine k_skip ?_ | refine Zs ?_))
    refine s_callP (us := []) (zs := []) (by kernel_rfl) rfl rfl (putF g5.at_ ok fr { k := 9, op := Sy.wd X.E s3, a := a, b := b } (.slice none 0 0) LI.nil Ow.nil hx5 put_no) (erP.up g5 hR3.symm) ?_
    rintro _ w6 ⟨c, s6, V6, e6, rfl, g6'⟩
    rw [e6, bind_ok] at hR3
    have hg6 := hg5.gs g5.at_ g6'.gs.kp
    have g6 := g5.call g6'
    obtain ⟨lr6, c16, c26, hrd6⟩ := hg6.at hv5
    (repeat (first | refine k_nil ?_ | refine k_n ?_ | refine k_r ?_ | refine k_x ?_ | refine b_n ?_ | refine b_r ?_ | refine b_y rfl ?_ | refine b_z rfl ?_ | refine l_r ?_ | refine l_x ?_ | refine k_seq ?_ | refine k_blk ?_ | refine k_reg ?_ | refine k_ret ?_ | refine k_exit ?_ | refine k_skip ?_ | refine Zs ?_))
    refine s_v (r_ia (size := 2) rfl rfl rfl rfl (by omega) (by omega)) ?_
    (repeat (first | refine k_nil ?_ | refine k_n ?_ | refine k_r ?_ | refine k_x ?_ | refine b_n ?_ | refine b_r ?_ | refine b_y rfl ?_ | refine b_z rfl ?_ | refine l_r ?_ | refine l_x ?_ | refine k_seq ?_ | refine k_blk ?_ | refine k_reg ?_ | refine k_ret ?_ | refine k_exit ?_ | refine k_skip ?_ | refine Zs ?_))
    refine c_b rfl (fun hb => ?_) (fun hb => ?_)
    · have hb : (v == 2) = true := hb
      rw [if_pos (by simpa using hb)] at hR3
      (repeat (first | refine k_nil ?_ | refine k_n ?_ | refine k_r ?_ | refine k_x ?_ | refine b_n ?_ | refine b_r ?_ | refine b_y rfl ?_ | refine b_z rfl ?_ | refine l_r ?_ | refine l_x ?_ | refine k_seq ?_ | refine k_blk ?_ | refine k_reg ?_ | refine k_ret ?_ | refine k_exit ?_ | refine k_skip ?_ | refine Zs ?_))
      exact retP_1 rfl rfl ⟨c, s6, V6, hR3.symm, rfl, g6⟩
    · have hb : (v == 2) = false := hb
      rw [if_neg (by simpa using hb)] at hR3
      (repeat (first | refine k_nil ?_ | refine k_n ?_ | refine k_r ?_ | refine k_x ?_ | refine b_n ?_ | refine b_r ?_ | refine b_y rfl ?_ | refine b_z rfl ?_ | refine l_r ?_ | refine l_x ?_ | refine k_seq ?_ | refine k_blk ?_ | refine k_reg ?_ | refine k_ret ?_ | refine k_exit ?_ | refine k_skip ?_ | refine Zs ?_))
      exact l_next ⟨m, c, s6, V6⟩ ⟨rfl, rfl, rfl, rfl, rfl, trivial⟩ ⟨by simp only; omega, hR3, g6, hg6⟩ (by simp)
  · rw [if_neg q] at hR3
    have g4 := g3.no k4
    (repeat (first | refine k_nil ?_ | refine k_n ?_ | refine k_r ?_ | refine k_x ?_ | refine b_n ?_ | refine b_r ?_ | refine b_y rfl ?_ | refine b_z rfl ?_ | refine l_r ?_ | refine l_x ?_ | refine k_seq ?_ | refine k_blk ?_ | refine k_reg ?_ | refine k_ret ?_ | refine k_exit ?_ | refine k_skip ?_ | refine Zs ?_))
    refine c_b rfl (fun hb => ?_) (fun hb => (by rw [show _ = _ from ez] at hb; cases hb))
    (repeat (first | refine k_nil ?_ | refine k_n ?_ | refine k_r ?_ | refine k_x ?_ | refine b_n ?_ | refine b_r ?_ | refine b_y rfl ?_ | refine b_z rfl ?_ | refine l_r ?_ | refine l_x ?_ | refine k_seq ?_ | refine k_blk ?_ | refine k_reg ?_ | refine k_ret ?_ | refine k_exit ?_ | refine k_skip ?_ | refine Zs ?_))
    exact retP_1 rfl rfl ⟨a, s3, V3, hR3.symm, rfl, g4⟩
end
end Go.Proofs.YtgnkdeapifbgeaaDoor.Sy
