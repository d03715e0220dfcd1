/- The parser's parts that call each other: expressions. -/
import Derived.Test.YtgnkdeapifbgeaaDoorGi
import Derived.Test.YtgnkdeapifbgeaaDoorGj
namespace Go.Proofs.YtgnkdeapifbgeaaDoor.Sy
open Go Go.RowKit Fw
set_option linter.unusedVariables false
set_option maxRecDepth 20000
abbrev ptr (X : Cx) : Value := .pointer (some ⟨X.p, 0, none⟩)
/-- What the calls of the parts come to. -/
structure Wk (X : Cx) (L : Lv) : Prop where
  row : ∀ v d s V w g, v ≤ 5 → 0 ≤ d ∧ d ≤ 64 → At X w s V → LvAt w g → Does X 63 [ptr X, lvV g v, .int .i64 d] w V (L.row v d s) intV
  expr : ∀ d s V w, 0 ≤ d ∧ d ≤ 65 → At X w s V → Does X 56 [ptr X, .int .i64 d] w V (L.expr d s) intV
  unary : ∀ d s V w, 0 ≤ d ∧ d ≤ 64 → At X w s V → Does X 69 [ptr X, .int .i64 d] w V (L.unary d s) intV
  prim : ∀ d s V w, 0 ≤ d ∧ d ≤ 64 → At X w s V → Does X 71 [ptr X, .int .i64 d] w V (L.prim d s) intV
  stmt : ∀ d s V w, 0 ≤ d ∧ d ≤ 64 → At X w s V → Does X 47 [ptr X, .int .i64 d] w V (L.stmt d s) intV
  branch : ∀ fr d s V w, 0 ≤ d ∧ d ≤ 64 → At X w s V → Does X 55 [ptr X, .int .i64 fr, .int .i64 d] w V (L.branch fr d s) intV
theorem erP.up0 {α : Type} {X : Cx} {w0 w : World} {s : PS} {V0 V : VS} {r : Rs α} (h : Sg X w0 V0 w s V) : ∀ c w1, erP X w V r c w1 → erP X w0 V0 r c w1 := by
  rintro c w1 ⟨k, p, rfl, rfl, hk⟩
  exact ⟨k, p, rfl, rfl, h.gs.kp.trans hk fun i hi hs => h.gs.fr i hi hs⟩
theorem deep_le {E : Env} {d : Int} {s t : PS} {x : Unit} (h : deep E d s = .ok x t) : d ≤ 64 := by
  unfold deep at h
  split at h
  · cases h
  · omega
theorem Ow.nil {V : VS} : Ow V (.slice none 0 0) := fun g hg => by cases hg
theorem LI.nil {w : World} : LI w (.slice none 0 0) [] := ⟨rfl, .inl ⟨rfl, rfl⟩⟩
section
variable {X : Cx} {L : Lv}
theorem exprF (ok : Ok X) (hL : Wk X L) (d : Int) (s : PS) (V : VS) (w : World) (hd : 0 ≤ d ∧ d ≤ 65) (h : At X w s V) : Does X 56 [ptr X, .int .i64 d] w V (sExpr X.E L d s) intV := by
  intro hr
  unfold sExpr at hr ⊢
  refine retP_enter Tryd.func56 rfl Tryd.ntmps56 rfl ?_
  (repeat (first | refine k_nil ?_ | refine k_n ?_ | refine k_r ?_ | refine k_x ?_ | refine b_n ?_ | refine b_r ?_ | refine b_y rfl ?_ | refine b_z rfl ?_ | refine l_r ?_ | refine l_x ?_ | refine k_seq ?_ | refine k_blk ?_ | refine k_reg ?_ | refine k_ret ?_ | refine k_exit ?_ | refine k_skip ?_ | refine Zs ?_))
  refine s_callP (us := []) (zs := []) (by kernel_rfl) rfl rfl (deepF h ok d (bind_ne hr)) (erP.up (Sg.start h) rfl) ?_
  rintro v w1 ⟨x, s1, V1, e1, rfl, g1⟩
  have hd' := deep_le e1
  rw [e1, bind_ok] at hr ⊢
  (repeat (first | refine k_nil ?_ | refine k_n ?_ | refine k_r ?_ | refine k_x ?_ | refine b_n ?_ | refine b_r ?_ | refine b_y rfl ?_ | refine b_z rfl ?_ | refine l_r ?_ | refine l_x ?_ | refine k_seq ?_ | refine k_blk ?_ | refine k_reg ?_ | refine k_ret ?_ | refine k_exit ?_ | refine k_skip ?_ | refine Zs ?_))
  refine s_call (us := []) (zs := []) (by kernel_rfl) rfl rfl (levelsF w1) ?_
  rintro v w2 ⟨g, rfl, hg, k2⟩
  have g2 := g1.no k2
  (repeat (first | refine k_nil ?_ | refine k_n ?_ | refine k_r ?_ | refine k_x ?_ | refine b_n ?_ | refine b_r ?_ | refine b_y rfl ?_ | refine b_z rfl ?_ | refine l_r ?_ | refine l_x ?_ | refine k_seq ?_ | refine k_blk ?_ | refine k_reg ?_ | refine k_ret ?_ | refine k_exit ?_ | refine k_skip ?_ | refine Zs ?_))
  refine s_callP (us := []) (zs := []) (by kernel_rfl) rfl rfl (hL.row 0 d s1 V1 w2 g (by omega) (by omega) g2.at_ hg hr) (erP.up0 g2) ?_
  rintro v w3 ⟨x3, s3, V3, e3, rfl, g3⟩
  (repeat (first | refine k_nil ?_ | refine k_n ?_ | refine k_r ?_ | refine k_x ?_ | refine b_n ?_ | refine b_r ?_ | refine b_y rfl ?_ | refine b_z rfl ?_ | refine l_r ?_ | refine l_x ?_ | refine k_seq ?_ | refine k_blk ?_ | refine k_reg ?_ | refine k_ret ?_ | refine k_exit ?_ | refine k_skip ?_ | refine Zs ?_))
  exact retP_1 rfl rfl ⟨x3, s3, V3, e3, rfl, g2.call g3⟩
theorem unaryF (ok : Ok X) (hB : Bd L) (hL : Wk X L) (d : Int) (s : PS) (V : VS) (w : World) (hd : 0 ≤ d ∧ d ≤ 64) (h : At X w s V) : Does X 69 [ptr X, .int .i64 d] w V (sUnary X.E L d s) intV := by
  intro hr
  unfold sUnary at hr ⊢
  refine retP_enter Tryd.func69 rfl Tryd.ntmps69 rfl ?_
  (repeat (first | refine k_nil ?_ | refine k_n ?_ | refine k_r ?_ | refine k_x ?_ | refine b_n ?_ | refine b_r ?_ | refine b_y rfl ?_ | refine b_z rfl ?_ | refine l_r ?_ | refine l_x ?_ | refine k_seq ?_ | refine k_blk ?_ | refine k_reg ?_ | refine k_ret ?_ | refine k_exit ?_ | refine k_skip ?_ | refine Zs ?_))
  refine s_call (us := []) (zs := []) (by kernel_rfl) rfl rfl (hereF h ok) ?_
  rintro v w1 ⟨rfl, k1⟩
  have g1 := (Sg.start h).no k1
  (repeat (first | refine k_nil ?_ | refine k_n ?_ | refine k_r ?_ | refine k_x ?_ | refine b_n ?_ | refine b_r ?_ | refine b_y rfl ?_ | refine b_z rfl ?_ | refine l_r ?_ | refine l_x ?_ | refine k_seq ?_ | refine k_blk ?_ | refine k_reg ?_ | refine k_ret ?_ | refine k_exit ?_ | refine k_skip ?_ | refine Zs ?_))
  refine s_bs (cs := [Value.string (Tk.strOf wMinus), .string (Tk.strOf wNot)]) (e := 9) rfl (fun b2 w2 n2 => ?_)
  have g2 := g1.no n2.kp
  refine s_call (us := []) (zs := []) (by kernel_rfl) rfl rfl (takeF g2.at_ ok [Tk.strOf wMinus, Tk.strOf wNot] (some ⟨b2, 0, none⟩) 2 (RdN n2.blk) (by decide) (by decide)) ?_
  have em : [Tk.strOf wMinus, Tk.strOf wNot].map B = [wMinus, wNot] := by kernel_rfl
  rw [em]
  rintro v w3 ⟨x, hx, ⟨q, rfl, hz, g3⟩ | ⟨q, rfl, k3⟩⟩
  · have q' : Sy.wd X.E s = wMinus ∨ Sy.wd X.E s = wNot := by simpa using q
    rw [if_pos q'] at hr ⊢
    have g3 := g2.call g3
    (repeat (first | refine k_nil ?_ | refine k_n ?_ | refine k_r ?_ | refine k_x ?_ | refine b_n ?_ | refine b_r ?_ | refine b_y rfl ?_ | refine b_z rfl ?_ | refine l_r ?_ | refine l_x ?_ | refine k_seq ?_ | refine k_blk ?_ | refine k_reg ?_ | refine k_ret ?_ | refine k_exit ?_ | refine k_skip ?_ | refine Zs ?_))
    refine c_b rfl (fun hb => (by rw [show _ = _ from hz] at hb; cases hb)) (fun hb => ?_)
    refine k_re 6 (v := .string x) (v' := sv (Sy.wd X.E s)) rfl (by rw [← hx]; exact (sv_B x).symm) ?_
    (repeat (first | refine k_nil ?_ | refine k_n ?_ | refine k_r ?_ | refine k_x ?_ | refine b_n ?_ | refine b_r ?_ | refine b_y rfl ?_ | refine b_z rfl ?_ | refine l_r ?_ | refine l_x ?_ | refine k_seq ?_ | refine k_blk ?_ | refine k_reg ?_ | refine k_ret ?_ | refine k_exit ?_ | refine k_skip ?_ | refine Zs ?_))
    refine s_callP (us := []) (zs := []) (by kernel_rfl) rfl rfl (deepF g3.at_ ok (d + 1) (bind_ne hr)) (erP.up g3 rfl) ?_
    rintro v w4 ⟨y, s4, V4, e4, rfl, g4⟩
    have hd' := deep_le e4
    have e4' := deep_up e4
    subst e4'
    rw [e4, bind_ok] at hr ⊢
    have g4 := g3.call g4
    (repeat (first | refine k_nil ?_ | refine k_n ?_ | refine k_r ?_ | refine k_x ?_ | refine b_n ?_ | refine b_r ?_ | refine b_y rfl ?_ | refine b_z rfl ?_ | refine l_r ?_ | refine l_x ?_ | refine k_seq ?_ | refine k_blk ?_ | refine k_reg ?_ | refine k_ret ?_ | refine k_exit ?_ | refine k_skip ?_ | refine Zs ?_))
    refine s_callP (us := []) (zs := []) (by kernel_rfl) rfl rfl (hL.unary (d + 1) _ V4 w4 (by omega) g4.at_ (bind_ne hr)) (erP.up g4 rfl) ?_
    rintro v w5 ⟨a, s5, V5, e5, rfl, g5⟩
    rw [e5, bind_ok] at hr ⊢
    have g5 := g4.call g5
    have u := hB.unary _ _ _ _ e5
    (repeat (first | refine k_nil ?_ | refine k_n ?_ | refine k_r ?_ | refine k_x ?_ | refine b_n ?_ | refine b_r ?_ | refine b_y rfl ?_ | refine b_z rfl ?_ | refine l_r ?_ | refine l_x ?_ | refine k_seq ?_ | refine k_blk ?_ | refine k_reg ?_ | refine k_ret ?_ | refine k_exit ?_ | refine k_skip ?_ | refine Zs ?_))
    have hx5 : s5.ex.length + 1 ≤ s5.i := by
      have := g5.at_.xl
      have := g3.at_.xl
      unfold Up at u
      show s5.ex.length + 1 ≤ s5.i
      have e1 : (adv s).i = s.i + 1 := rfl
      have e2 : (adv s).ex = s.ex := rfl
      have := h.xl
      rw [e1, e2] at u
      omega
    refine s_callP (us := []) (zs := []) (by kernel_rfl) rfl rfl (putF g5.at_ ok (Sy.hr X.E s) { k := 8, op := Sy.wd X.E s, a := a } (.slice none 0 0) LI.nil Ow.nil hx5 hr) (erP.up0 g5) ?_
    rintro v w6 ⟨b, s6, V6, e6, rfl, g6⟩
    (repeat (first | refine k_nil ?_ | refine k_n ?_ | refine k_r ?_ | refine k_x ?_ | refine b_n ?_ | refine b_r ?_ | refine b_y rfl ?_ | refine b_z rfl ?_ | refine l_r ?_ | refine l_x ?_ | refine k_seq ?_ | refine k_blk ?_ | refine k_reg ?_ | refine k_ret ?_ | refine k_exit ?_ | refine k_skip ?_ | refine Zs ?_))
    exact retP_1 rfl rfl ⟨b, s6, V6, e6, rfl, g5.call g6⟩
  · have q' : ¬ (Sy.wd X.E s = wMinus ∨ Sy.wd X.E s = wNot) := by simpa using q
    rw [if_neg q'] at hr ⊢
    have g3 := g2.no k3
    (repeat (first | refine k_nil ?_ | refine k_n ?_ | refine k_r ?_ | refine k_x ?_ | refine b_n ?_ | refine b_r ?_ | refine b_y rfl ?_ | refine b_z rfl ?_ | refine l_r ?_ | refine l_x ?_ | refine k_seq ?_ | refine k_blk ?_ | refine k_reg ?_ | refine k_ret ?_ | refine k_exit ?_ | refine k_skip ?_ | refine Zs ?_))
    refine c_b rfl (fun hb => ?_) (fun hb => (by rw [show _ = _ from ez] at hb; cases hb))
    (repeat (first | refine k_nil ?_ | refine k_n ?_ | refine k_r ?_ | refine k_x ?_ | refine b_n ?_ | refine b_r ?_ | refine b_y rfl ?_ | refine b_z rfl ?_ | refine l_r ?_ | refine l_x ?_ | refine k_seq ?_ | refine k_blk ?_ | refine k_reg ?_ | refine k_ret ?_ | refine k_exit ?_ | refine k_skip ?_ | refine Zs ?_))
    refine s_callP (us := []) (zs := []) (by kernel_rfl) rfl rfl (hL.prim d s V w3 hd g3.at_ hr) (erP.up0 g3) ?_
    rintro v w4 ⟨a, s4, V4, e4, rfl, g4⟩
    (repeat (first | refine k_nil ?_ | refine k_n ?_ | refine k_r ?_ | refine k_x ?_ | refine b_n ?_ | refine b_r ?_ | refine b_y rfl ?_ | refine b_z rfl ?_ | refine l_r ?_ | refine l_x ?_ | refine k_seq ?_ | refine k_blk ?_ | refine k_reg ?_ | refine k_ret ?_ | refine k_exit ?_ | refine k_skip ?_ | refine Zs ?_))
    exact retP_1 rfl rfl ⟨a, s4, V4, e4, rfl, g3.call g4⟩
end
end Go.Proofs.YtgnkdeapifbgeaaDoor.Sy
