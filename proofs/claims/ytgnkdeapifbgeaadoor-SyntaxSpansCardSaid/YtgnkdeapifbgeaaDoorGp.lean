/- The parser's statements. -/
import Derived.Test.YtgnkdeapifbgeaaDoorGo
namespace Go.Proofs.YtgnkdeapifbgeaaDoor.Fw
open Go Go.RowKit
section
variable {P : Program} {w : World} {n : Nat} {l : Slots} {fn : Func} {R : Value → World → Prop} {F : List PanicEntry → World → Prop}
theorem retP_c1 {r : ResultVar} {v : Value} (hr : fn.results = #[r]) (hv : Rv P w n l r v) (h : R v w) : Po (FinP P fn R F) .ret n l [] w := postP_ret (res_1 hr hv) h
end
end Go.Proofs.YtgnkdeapifbgeaaDoor.Fw
namespace Go.Proofs.YtgnkdeapifbgeaaDoor.Sy
open Go Go.RowKit Fw
set_option linter.unusedVariables false
set_option maxRecDepth 20000
theorem lit_iff {x q : ByteArray} {l : List Int} {b : Bool} (h : (x.toList == q.toList) = b) (hq : B q = l) : b = decide (B x = l) := by rw [← h, str_eq, hq]
theorem Sg.more' {X : Cx} {w0 w : World} {s : PS} {V0 V : VS} {v : Value} (h : Sg X w0 V0 w s V) (hl : ∀ g, v.ownBlock = some g → w0.heap.size ≤ g ∧ g < w.heap.size) : Sg X w0 V0 w s (V.add v.ownBlock) :=
  ⟨h.at_.more _ fun b hb => (hl b hb).2, ⟨h.gs.kp, h.gs.fr, fun b hb hs => hs.elim (h.gs.fo b hb) fun e => by have := (hl b e).1; omega⟩⟩
theorem Ls.rng {w0 w : World} {V : VS} {e : TypeId} {v : Value} {n : Nat} {cs : List Value} (hl : Ls w0 w V e v n cs) : ∀ g, v.ownBlock = some g → w0.heap.size ≤ g ∧ g < w.heap.size := fun g hg =>
  ⟨(hl.nw g hg).1, by obtain ⟨c, hc⟩ := own_ty hl.own hg; exact lt_of_get hc⟩
/-- A row that was just made. -/
theorem own_new {w w1 : World} {b : Nat} {e : TypeId} {cs : List Value} (h : Nb w b cs e w1) (hl : cs.length ≤ maxLen) : w1.ownsRow 0 e 1 (.slice (some ⟨b, 0, none⟩) cs.length cs.length) cs.length cs :=
  ⟨by simp, .inr ⟨b, cs.length, cs.toArray, rfl, Nat.zero_le _, h.blk, Nat.le_refl _, hl, by simp, by simp⟩⟩
abbrev nilS : Value := .slice none 0 0
def stV (x : St) (_ : World) (v : Value) : Prop := v = .agg (stC (x, nilS, nilS)).toArray ∧ x.th = [] ∧ x.el = []
section
variable {X : Cx} {L : Lv}
theorem addX {w0 w : World} {s : PS} {V0 V : VS} (g : Sg X w0 V0 w s V) (ok : Ok X) (fr : Int) (x : St) (hth : x.th = []) (hel : x.el = []) (hi : 1 ≤ s.i) :
    RetP Tryd.prog 57 [ptr X, .int .i64 fr, .agg (stC (x, nilS, nilS)).toArray] w (okP X w V (add X.E fr x s) intV) (erP X w V (add X.E fr x s)) :=
  addF g.at_ ok fr x nilS nilS (by rw [hth]; exact LI.nil) (by rw [hel]; exact LI.nil) Ow.nil Ow.nil hi add_no
theorem declF (ok : Ok X) (hL : Wk X L) (d : Int) (s : PS) (V : VS) (w : World) (hd : 0 ≤ d ∧ d ≤ 64) (h : At X w s V) : Does X 54 [ptr X, .int .i64 d] w V (sDecl X.E L d s) stV := by
  intro hr
  have el : B (Tk.strOf wLbra) = wLbra := B_of (by decide)
  have er : B (Tk.strOf wRbra) = wRbra := B_of (by decide)
  have ee : B (Tk.strOf wEq) = wEq := B_of (by decide)
  unfold sDecl at hr ⊢
  refine retP_enter Tryd.func54 rfl Tryd.ntmps54 rfl ?_
  (repeat (first | refine k_nil ?_ | refine k_n ?_ | refine k_r ?_ | refine k_x ?_ | refine b_n ?_ | refine b_r ?_ | refine b_y rfl ?_ | refine b_z rfl ?_ | refine l_r ?_ | refine l_x ?_ | refine k_seq ?_ | refine k_blk ?_ | refine k_reg ?_ | refine k_ret ?_ | refine k_exit ?_ | refine k_skip ?_ | refine Zs ?_))
  refine s_al rfl (fun b w1 n1 => ?_)
  have g1 := (Sg.start h).no n1.kp
  have B1 := Bx.new (w0 := w) h (Nat.le_refl _) n1
  (repeat (first | refine k_nil ?_ | refine k_n ?_ | refine k_r ?_ | refine k_x ?_ | refine b_n ?_ | refine b_r ?_ | refine b_y rfl ?_ | refine b_z rfl ?_ | refine l_r ?_ | refine l_x ?_ | refine k_seq ?_ | refine k_blk ?_ | refine k_reg ?_ | refine k_ret ?_ | refine k_exit ?_ | refine k_skip ?_ | refine Zs ?_))
  refine s_callP (us := []) (zs := []) (by kernel_rfl) rfl rfl (kindF g1.at_ ok 1 (by decide) (bind_ne hr)) (erP.up g1 rfl) ?_
  rintro _ w2 ⟨nm, s2, V2, e2, rfl, g2⟩
  have B2 := B1.gs g2.gs
  have g2 := g1.call g2
  rw [e2, bind_ok] at hr ⊢
  (repeat (first | refine k_nil ?_ | refine k_n ?_ | refine k_r ?_ | refine k_x ?_ | refine b_n ?_ | refine b_r ?_ | refine b_y rfl ?_ | refine b_z rfl ?_ | refine l_r ?_ | refine l_x ?_ | refine k_seq ?_ | refine k_blk ?_ | refine k_reg ?_ | refine k_ret ?_ | refine k_exit ?_ | refine k_skip ?_ | refine Zs ?_))
  refine s_bs (cs := [.string (Tk.strOf wLbra)]) (e := 9) rfl (fun b3 w3 n3 => ?_)
  have g3 := g2.no n3.kp
  have B3 := B2.no n3.kp
  refine s_call (us := []) (zs := []) (by kernel_rfl) rfl rfl (take1 g3.at_ ok (Tk.strOf wLbra) (by rw [el]; decide) n3.blk) ?_
  rw [el]
  rintro _ w4 ⟨y, ⟨rfl, q4, hz, g4⟩ | ⟨rfl, q4, hz, k4⟩⟩
  · rw [if_pos q4] at hr ⊢
    have B4 := B3.gs g4.gs
    have g4 := g3.call g4
    (repeat (first | refine k_nil ?_ | refine k_n ?_ | refine k_r ?_ | refine k_x ?_ | refine b_n ?_ | refine b_r ?_ | refine b_y rfl ?_ | refine b_z rfl ?_ | refine l_r ?_ | refine l_x ?_ | refine k_seq ?_ | refine k_blk ?_ | refine k_reg ?_ | refine k_ret ?_ | refine k_exit ?_ | refine k_skip ?_ | refine Zs ?_))
    refine c_b rfl (fun hb => ?_) (fun hb => (by rw [show _ = _ from congrArg not hz] at hb; cases hb))
    (repeat (first | refine k_nil ?_ | refine k_n ?_ | refine k_r ?_ | refine k_x ?_ | refine b_n ?_ | refine b_r ?_ | refine b_y rfl ?_ | refine b_z rfl ?_ | refine l_r ?_ | refine l_x ?_ | refine k_seq ?_ | refine k_blk ?_ | refine k_reg ?_ | refine k_ret ?_ | refine k_exit ?_ | refine k_skip ?_ | refine Zs ?_))
    refine s_callP (us := []) (zs := []) (by kernel_rfl) rfl rfl (kindF g4.at_ ok 2 (by decide) (bind_ne hr)) (erP.up g4 rfl) ?_
    rintro _ w5 ⟨w', s5, V5, e5, rfl, g5⟩
    have hk : kd X.E (adv s2) = 2 ∧ w' = Sy.wd X.E (adv s2) := by
      unfold knd at e5
      split at e5
      · rename_i q; cases e5; exact ⟨q, rfl⟩
      · cases e5
    obtain ⟨hk, rfl⟩ := hk
    have B5 := B4.gs g5.gs
    have g5 := g4.call g5
    rw [e5, bind_ok] at hr ⊢
    (repeat (first | refine k_nil ?_ | refine k_n ?_ | refine k_r ?_ | refine k_x ?_ | refine b_n ?_ | refine b_r ?_ | refine b_y rfl ?_ | refine b_z rfl ?_ | refine l_r ?_ | refine l_x ?_ | refine k_seq ?_ | refine k_blk ?_ | refine k_reg ?_ | refine k_ret ?_ | refine k_exit ?_ | refine k_skip ?_ | refine Zs ?_))
    refine s_call (us := []) (zs := []) (by kernel_rfl) rfl rfl (numF g4.at_ ok hk) ?_
    rintro _ w5' ⟨rfl, rfl⟩
    (repeat (first | refine k_nil ?_ | refine k_n ?_ | refine k_r ?_ | refine k_x ?_ | refine b_n ?_ | refine b_r ?_ | refine b_y rfl ?_ | refine b_z rfl ?_ | refine l_r ?_ | refine l_x ?_ | refine k_seq ?_ | refine k_blk ?_ | refine k_reg ?_ | refine k_ret ?_ | refine k_exit ?_ | refine k_skip ?_ | refine Zs ?_))
    refine s_callP (us := []) (zs := []) (by kernel_rfl) rfl rfl (wantF g5.at_ ok (Tk.strOf wRbra) (by rw [er]; decide) (by rw [er]; exact want_no)) (by rw [er]; exact erP.up g5 rfl) ?_
    rw [er]
    rintro _ w6 ⟨_, s6, V6, e6, rfl, g6⟩
    have B6 := B5.gs g6.gs
    have g6 := g5.call g6
    rw [e6, bind_ok] at hr ⊢
    (repeat (first | refine k_nil ?_ | refine k_n ?_ | refine k_r ?_ | refine k_x ?_ | refine b_n ?_ | refine b_r ?_ | refine b_y rfl ?_ | refine b_z rfl ?_ | refine l_r ?_ | refine l_x ?_ | refine k_seq ?_ | refine k_blk ?_ | refine k_reg ?_ | refine k_ret ?_ | refine k_exit ?_ | refine k_skip ?_ | refine Zs ?_))
    refine s_st (vs := stC ({ k := 2, nm := nm, n := num (Sy.wd X.E (adv s2)) }, nilS, nilS)) rfl rfl rfl rfl rfl B6.blk (Nat.le_of_ble_eq_true rfl) (fun w7 s7 => ?_)
    obtain ⟨g7, B7⟩ := g6.put B6 (cs' := stC ({ k := 2, nm := nm, n := num (Sy.wd X.E (adv s2)) }, nilS, nilS)) ⟨s7.kp, s7.sz, s7.blk⟩ rfl
    (repeat (first | refine k_nil ?_ | refine k_n ?_ | refine k_r ?_ | refine k_x ?_ | refine b_n ?_ | refine b_r ?_ | refine b_y rfl ?_ | refine b_z rfl ?_ | refine l_r ?_ | refine l_x ?_ | refine k_seq ?_ | refine k_blk ?_ | refine k_reg ?_ | refine k_ret ?_ | refine k_exit ?_ | refine k_skip ?_ | refine Zs ?_))
    exact retP_c1 rfl (rv_ag (vs := stC ({ k := 2, nm := nm, n := num (Sy.wd X.E (adv s2)) }, nilS, nilS)) rfl rfl rfl B7.blk rfl rfl) ⟨_, s6, V6, rfl, ⟨rfl, rfl, rfl⟩, g7⟩
  rw [if_neg q4] at hr ⊢
  have g4 := g3.no k4
  have B4 := B3.no k4
  (repeat (first | refine k_nil ?_ | refine k_n ?_ | refine k_r ?_ | refine k_x ?_ | refine b_n ?_ | refine b_r ?_ | refine b_y rfl ?_ | refine b_z rfl ?_ | refine l_r ?_ | refine l_x ?_ | refine k_seq ?_ | refine k_blk ?_ | refine k_reg ?_ | refine k_ret ?_ | refine k_exit ?_ | refine k_skip ?_ | refine Zs ?_))
  refine c_b rfl (fun hb => (by rw [show _ = _ from congrArg not hz] at hb; cases hb)) (fun hb => ?_)
  (repeat (first | refine k_nil ?_ | refine k_n ?_ | refine k_r ?_ | refine k_x ?_ | refine b_n ?_ | refine b_r ?_ | refine b_y rfl ?_ | refine b_z rfl ?_ | refine l_r ?_ | refine l_x ?_ | refine k_seq ?_ | refine k_blk ?_ | refine k_reg ?_ | refine k_ret ?_ | refine k_exit ?_ | refine k_skip ?_ | refine Zs ?_))
  refine s_callP (us := []) (zs := []) (by kernel_rfl) rfl rfl (wantF g4.at_ ok (Tk.strOf wEq) (by rw [ee]; decide) (by rw [ee]; exact want_no)) (by rw [ee]; exact erP.up g4 rfl) ?_
  rw [ee]
  rintro _ w6 ⟨_, s6, V6, e6, rfl, g6⟩
  have B6 := B4.gs g6.gs
  have g6 := g4.call g6
  rw [e6, bind_ok] at hr ⊢
  (repeat (first | refine k_nil ?_ | refine k_n ?_ | refine k_r ?_ | refine k_x ?_ | refine b_n ?_ | refine b_r ?_ | refine b_y rfl ?_ | refine b_z rfl ?_ | refine l_r ?_ | refine l_x ?_ | refine k_seq ?_ | refine k_blk ?_ | refine k_reg ?_ | refine k_ret ?_ | refine k_exit ?_ | refine k_skip ?_ | refine Zs ?_))
  refine s_callP (us := []) (zs := []) (by kernel_rfl) rfl rfl (hL.expr d s6 V6 w6 (by omega) g6.at_ (bind_ne hr)) (erP.up g6 rfl) ?_
  rintro _ w7 ⟨a, s7, V7, e7, rfl, g7⟩
  have B7 := B6.gs g7.gs
  have g7 := g6.call g7
  rw [e7, bind_ok] at hr ⊢
  (repeat (first | refine k_nil ?_ | refine k_n ?_ | refine k_r ?_ | refine k_x ?_ | refine b_n ?_ | refine b_r ?_ | refine b_y rfl ?_ | refine b_z rfl ?_ | refine l_r ?_ | refine l_x ?_ | refine k_seq ?_ | refine k_blk ?_ | refine k_reg ?_ | refine k_ret ?_ | refine k_exit ?_ | refine k_skip ?_ | refine Zs ?_))
  refine s_st (vs := stC ({ k := 1, nm := nm, a := a }, nilS, nilS)) rfl rfl rfl rfl rfl B7.blk (Nat.le_of_ble_eq_true rfl) (fun w8 s8 => ?_)
  obtain ⟨g8, B8⟩ := g7.put B7 (cs' := stC ({ k := 1, nm := nm, a := a }, nilS, nilS)) ⟨s8.kp, s8.sz, s8.blk⟩ rfl
  (repeat (first | refine k_nil ?_ | refine k_n ?_ | refine k_r ?_ | refine k_x ?_ | refine b_n ?_ | refine b_r ?_ | refine b_y rfl ?_ | refine b_z rfl ?_ | refine l_r ?_ | refine l_x ?_ | refine k_seq ?_ | refine k_blk ?_ | refine k_reg ?_ | refine k_ret ?_ | refine k_exit ?_ | refine k_skip ?_ | refine Zs ?_))
  exact retP_c1 rfl (rv_ag (vs := stC ({ k := 1, nm := nm, a := a }, nilS, nilS)) rfl rfl rfl B8.blk rfl rfl) ⟨_, s7, V7, rfl, ⟨rfl, rfl, rfl⟩, g8⟩
theorem namedF (ok : Ok X) (hL : Wk X L) (hC : CallD X L) (d : Int) (s : PS) (V : VS) (w : World) (hd : 0 ≤ d ∧ d ≤ 64) (h : At X w s V) : Does X 58 [ptr X, .int .i64 d] w V (sNamed X.E L d s) stV := by
  intro hr
  have el : B (Tk.strOf wLbra) = wLbra := B_of (by decide)
  have er : B (Tk.strOf wRbra) = wRbra := B_of (by decide)
  have ee : B (Tk.strOf wEq) = wEq := B_of (by decide)
  have ep : B (Tk.strOf wLpar) = wLpar := B_of (by decide)
  unfold sNamed at hr ⊢
  refine retP_enter Tryd.func58 rfl Tryd.ntmps58 rfl ?_
  (repeat (first | refine k_nil ?_ | refine k_n ?_ | refine k_r ?_ | refine k_x ?_ | refine b_n ?_ | refine b_r ?_ | refine b_y rfl ?_ | refine b_z rfl ?_ | refine l_r ?_ | refine l_x ?_ | refine k_seq ?_ | refine k_blk ?_ | refine k_reg ?_ | refine k_ret ?_ | refine k_exit ?_ | refine k_skip ?_ | refine Zs ?_))
  refine s_al rfl (fun b w1 n1 => ?_)
  have g1 := (Sg.start h).no n1.kp
  have B1 := Bx.new (w0 := w) h (Nat.le_refl _) n1
  (repeat (first | refine k_nil ?_ | refine k_n ?_ | refine k_r ?_ | refine k_x ?_ | refine b_n ?_ | refine b_r ?_ | refine b_y rfl ?_ | refine b_z rfl ?_ | refine l_r ?_ | refine l_x ?_ | refine k_seq ?_ | refine k_blk ?_ | refine k_reg ?_ | refine k_ret ?_ | refine k_exit ?_ | refine k_skip ?_ | refine Zs ?_))
  refine s_call (us := []) (zs := []) (by kernel_rfl) rfl rfl (hereF g1.at_ ok) ?_
  rintro _ w1' ⟨rfl, k1⟩
  have g1 := g1.no k1
  have B1 := B1.no k1
  (repeat (first | refine k_nil ?_ | refine k_n ?_ | refine k_r ?_ | refine k_x ?_ | refine b_n ?_ | refine b_r ?_ | refine b_y rfl ?_ | refine b_z rfl ?_ | refine l_r ?_ | refine l_x ?_ | refine k_seq ?_ | refine k_blk ?_ | refine k_reg ?_ | refine k_ret ?_ | refine k_exit ?_ | refine k_skip ?_ | refine Zs ?_))
  refine s_callP (us := []) (zs := []) (by kernel_rfl) rfl rfl (kindF g1.at_ ok 1 (by decide) (bind_ne hr)) (erP.up g1 rfl) ?_
  rintro _ w2 ⟨nm, s2, V2, e2, rfl, g2⟩
  have B2 := B1.gs g2.gs
  have g2 := g1.call g2
  rw [e2, bind_ok] at hr ⊢
  (repeat (first | refine k_nil ?_ | refine k_n ?_ | refine k_r ?_ | refine k_x ?_ | refine b_n ?_ | refine b_r ?_ | refine b_y rfl ?_ | refine b_z rfl ?_ | refine l_r ?_ | refine l_x ?_ | refine k_seq ?_ | refine k_blk ?_ | refine k_reg ?_ | refine k_ret ?_ | refine k_exit ?_ | refine k_skip ?_ | refine Zs ?_))
  refine s_bs (cs := [.string (Tk.strOf wLpar)]) (e := 9) rfl (fun b3 w3 n3 => ?_)
  have g3 := g2.no n3.kp
  have B3 := B2.no n3.kp
  refine s_call (us := []) (zs := []) (by kernel_rfl) rfl rfl (is1 g3.at_ ok (Tk.strOf wLpar) (by rw [ep]; decide) n3.blk) ?_
  rw [ep]
  rintro _ w4 ⟨rfl, k4⟩
  have g4 := g3.no k4
  have B4 := B3.no k4
  (repeat (first | refine k_nil ?_ | refine k_n ?_ | refine k_r ?_ | refine k_x ?_ | refine b_n ?_ | refine b_r ?_ | refine b_y rfl ?_ | refine b_z rfl ?_ | refine l_r ?_ | refine l_x ?_ | refine k_seq ?_ | refine k_blk ?_ | refine k_reg ?_ | refine k_ret ?_ | refine k_exit ?_ | refine k_skip ?_ | refine Zs ?_))
  refine c_dec rfl (fun q => ?_) (fun q => ?_)
  · rw [if_pos q] at hr ⊢
    (repeat (first | refine k_nil ?_ | refine k_n ?_ | refine k_r ?_ | refine k_x ?_ | refine b_n ?_ | refine b_r ?_ | refine b_y rfl ?_ | refine b_z rfl ?_ | refine l_r ?_ | refine l_x ?_ | refine k_seq ?_ | refine k_blk ?_ | refine k_reg ?_ | refine k_ret ?_ | refine k_exit ?_ | refine k_skip ?_ | refine Zs ?_))
    refine s_callP (us := []) (zs := []) (by kernel_rfl) rfl rfl (hC (Sy.hr X.E s) nm d s2 V2 w4 hd g4.at_ (bind_ne hr)) (erP.up g4 rfl) ?_
    rintro _ w5 ⟨a, s5, V5, e5, rfl, g5⟩
    have B5 := B4.gs g5.gs
    have g5 := g4.call g5
    rw [e5, bind_ok] at hr ⊢
    (repeat (first | refine k_nil ?_ | refine k_n ?_ | refine k_r ?_ | refine k_x ?_ | refine b_n ?_ | refine b_r ?_ | refine b_y rfl ?_ | refine b_z rfl ?_ | refine l_r ?_ | refine l_x ?_ | refine k_seq ?_ | refine k_blk ?_ | refine k_reg ?_ | refine k_ret ?_ | refine k_exit ?_ | refine k_skip ?_ | refine Zs ?_))
    refine s_st (vs := stC ({ k := 11, a := a }, nilS, nilS)) rfl rfl rfl rfl rfl B5.blk (Nat.le_of_ble_eq_true rfl) (fun w6 s6 => ?_)
    obtain ⟨g6, B6⟩ := g5.put B5 (cs' := stC ({ k := 11, a := a }, nilS, nilS)) ⟨s6.kp, s6.sz, s6.blk⟩ rfl
    (repeat (first | refine k_nil ?_ | refine k_n ?_ | refine k_r ?_ | refine k_x ?_ | refine b_n ?_ | refine b_r ?_ | refine b_y rfl ?_ | refine b_z rfl ?_ | refine l_r ?_ | refine l_x ?_ | refine k_seq ?_ | refine k_blk ?_ | refine k_reg ?_ | refine k_ret ?_ | refine k_exit ?_ | refine k_skip ?_ | refine Zs ?_))
    exact retP_c1 rfl (rv_ag (vs := stC ({ k := 11, a := a }, nilS, nilS)) rfl rfl rfl B6.blk rfl rfl) ⟨_, s5, V5, rfl, ⟨rfl, rfl, rfl⟩, g6⟩
  rw [if_neg q] at hr ⊢
  (repeat (first | refine k_nil ?_ | refine k_n ?_ | refine k_r ?_ | refine k_x ?_ | refine b_n ?_ | refine b_r ?_ | refine b_y rfl ?_ | refine b_z rfl ?_ | refine l_r ?_ | refine l_x ?_ | refine k_seq ?_ | refine k_blk ?_ | refine k_reg ?_ | refine k_ret ?_ | refine k_exit ?_ | refine k_skip ?_ | refine Zs ?_))
  refine s_bs (cs := [.string (Tk.strOf wLbra)]) (e := 9) rfl (fun b5 w5 n5 => ?_)
  have g5 := g4.no n5.kp
  have B5 := B4.no n5.kp
  refine s_call (us := []) (zs := []) (by kernel_rfl) rfl rfl (take1 g5.at_ ok (Tk.strOf wLbra) (by rw [el]; decide) n5.blk) ?_
  rw [el]
  rintro _ w6 ⟨y, ⟨rfl, q6, hz, g6⟩ | ⟨rfl, q6, hz, k6⟩⟩
  · rw [if_pos q6] at hr ⊢
    have B6 := B5.gs g6.gs
    have g6 := g5.call g6
    (repeat (first | refine k_nil ?_ | refine k_n ?_ | refine k_r ?_ | refine k_x ?_ | refine b_n ?_ | refine b_r ?_ | refine b_y rfl ?_ | refine b_z rfl ?_ | refine l_r ?_ | refine l_x ?_ | refine k_seq ?_ | refine k_blk ?_ | refine k_reg ?_ | refine k_ret ?_ | refine k_exit ?_ | refine k_skip ?_ | refine Zs ?_))
    refine c_b rfl (fun hb => ?_) (fun hb => (by rw [show _ = _ from congrArg not hz] at hb; cases hb))
    (repeat (first | refine k_nil ?_ | refine k_n ?_ | refine k_r ?_ | refine k_x ?_ | refine b_n ?_ | refine b_r ?_ | refine b_y rfl ?_ | refine b_z rfl ?_ | refine l_r ?_ | refine l_x ?_ | refine k_seq ?_ | refine k_blk ?_ | refine k_reg ?_ | refine k_ret ?_ | refine k_exit ?_ | refine k_skip ?_ | refine Zs ?_))
    refine s_callP (us := []) (zs := []) (by kernel_rfl) rfl rfl (hL.expr (d + 1) _ V2 w6 (by omega) g6.at_ (bind_ne hr)) (erP.up g6 rfl) ?_
    rintro _ w7 ⟨a, s7, V7, e7, rfl, g7⟩
    have B7 := B6.gs g7.gs
    have g7 := g6.call g7
    rw [e7, bind_ok] at hr ⊢
    (repeat (first | refine k_nil ?_ | refine k_n ?_ | refine k_r ?_ | refine k_x ?_ | refine b_n ?_ | refine b_r ?_ | refine b_y rfl ?_ | refine b_z rfl ?_ | refine l_r ?_ | refine l_x ?_ | refine k_seq ?_ | refine k_blk ?_ | refine k_reg ?_ | refine k_ret ?_ | refine k_exit ?_ | refine k_skip ?_ | refine Zs ?_))
    refine s_al rfl (fun c w8 n8 => ?_)
    have C8 := Bx.new (w0 := w) g7.at_ g7.size n8
    have g8 := g7.no n8.kp
    have B8 := B7.no n8.kp
    refine s_st (vs := stC ({ k := 4, nm := nm, a := a }, nilS, nilS)) rfl rfl rfl rfl rfl C8.blk (Nat.le_of_ble_eq_true rfl) (fun w9 s9 => ?_)
    obtain ⟨g9, C9⟩ := g8.put C8 (cs' := stC ({ k := 4, nm := nm, a := a }, nilS, nilS)) ⟨s9.kp, s9.sz, s9.blk⟩ rfl
    have hbc : ¬ b = c := fun e => by have := lt_of_get B7.blk; have := n8.ge; omega
    have B9 : Bx X w w9 V7 b _ _ := ⟨B8.ge, s9.kp.get B8.blk hbc, B8.ns⟩
    (repeat (first | refine k_nil ?_ | refine k_n ?_ | refine k_r ?_ | refine k_x ?_ | refine b_n ?_ | refine b_r ?_ | refine b_y rfl ?_ | refine b_z rfl ?_ | refine l_r ?_ | refine l_x ?_ | refine k_seq ?_ | refine k_blk ?_ | refine k_reg ?_ | refine k_ret ?_ | refine k_exit ?_ | refine k_skip ?_ | refine Zs ?_))
    refine s_callP (us := []) (zs := []) (by kernel_rfl) rfl rfl (wantF g9.at_ ok (Tk.strOf wRbra) (by rw [er]; decide) (by rw [er]; exact want_no)) (by rw [er]; exact erP.up g9 rfl) ?_
    rw [er]
    rintro _ w10 ⟨_, s10, V10, e10, rfl, g10⟩
    have B10 := B9.gs g10.gs
    have C10 := C9.gs g10.gs
    have g10 := g9.call g10
    rw [e10, bind_ok] at hr ⊢
    (repeat (first | refine k_nil ?_ | refine k_n ?_ | refine k_r ?_ | refine k_x ?_ | refine b_n ?_ | refine b_r ?_ | refine b_y rfl ?_ | refine b_z rfl ?_ | refine l_r ?_ | refine l_x ?_ | refine k_seq ?_ | refine k_blk ?_ | refine k_reg ?_ | refine k_ret ?_ | refine k_exit ?_ | refine k_skip ?_ | refine Zs ?_))
    refine s_callP (us := []) (zs := []) (by kernel_rfl) rfl rfl (wantF g10.at_ ok (Tk.strOf wEq) (by rw [ee]; decide) (by rw [ee]; exact want_no)) (by rw [ee]; exact erP.up g10 rfl) ?_
    rw [ee]
    rintro _ w11 ⟨_, s11, V11, e11, rfl, g11⟩
    have B11 := B10.gs g11.gs
    have C11 := C10.gs g11.gs
    have g11 := g10.call g11
    rw [e11, bind_ok] at hr ⊢
    (repeat (first | refine k_nil ?_ | refine k_n ?_ | refine k_r ?_ | refine k_x ?_ | refine b_n ?_ | refine b_r ?_ | refine b_y rfl ?_ | refine b_z rfl ?_ | refine l_r ?_ | refine l_x ?_ | refine k_seq ?_ | refine k_blk ?_ | refine k_reg ?_ | refine k_ret ?_ | refine k_exit ?_ | refine k_skip ?_ | refine Zs ?_))
    refine s_callP (us := []) (zs := []) (by kernel_rfl) rfl rfl (hL.expr d s11 V11 w11 (by omega) g11.at_ (bind_ne hr)) (erP.up g11 rfl) ?_
    rintro _ w12 ⟨a2, s12, V12, e12, rfl, g12⟩
    have B12 := B11.gs g12.gs
    have C12 := C11.gs g12.gs
    have g12 := g11.call g12
    rw [e12, bind_ok] at hr ⊢
    (repeat (first | refine k_nil ?_ | refine k_n ?_ | refine k_r ?_ | refine k_x ?_ | refine b_n ?_ | refine b_r ?_ | refine b_y rfl ?_ | refine b_z rfl ?_ | refine l_r ?_ | refine l_x ?_ | refine k_seq ?_ | refine k_blk ?_ | refine k_reg ?_ | refine k_ret ?_ | refine k_exit ?_ | refine k_skip ?_ | refine Zs ?_))
    refine s_st (vs := [.int .i64 a2]) rfl rfl rfl rfl rfl C12.blk (Nat.le_of_ble_eq_true rfl) (fun w13 s13 => ?_)
    obtain ⟨g13, C13⟩ := g12.put C12 (cs' := stC ({ k := 4, nm := nm, a := a, b := a2 }, nilS, nilS)) ⟨s13.kp, s13.sz, s13.blk⟩ rfl
    have B13 : Bx X w w13 V12 b _ _ := ⟨B12.ge, s13.kp.get B12.blk hbc, B12.ns⟩
    (repeat (first | refine k_nil ?_ | refine k_n ?_ | refine k_r ?_ | refine k_x ?_ | refine b_n ?_ | refine b_r ?_ | refine b_y rfl ?_ | refine b_z rfl ?_ | refine l_r ?_ | refine l_x ?_ | refine k_seq ?_ | refine k_blk ?_ | refine k_reg ?_ | refine k_ret ?_ | refine k_exit ?_ | refine k_skip ?_ | refine Zs ?_))
    refine s_v (r_ldb (vs := stC ({ k := 4, nm := nm, a := a, b := a2 }, nilS, nilS)) rfl rfl rfl C13.blk rfl rfl) ?_
    refine s_st (vs := stC ({ k := 4, nm := nm, a := a, b := a2 }, nilS, nilS)) rfl rfl rfl rfl rfl B13.blk (Nat.le_of_ble_eq_true rfl) (fun w14 s14 => ?_)
    obtain ⟨g14, B14⟩ := g13.put B13 (cs' := stC ({ k := 4, nm := nm, a := a, b := a2 }, nilS, nilS)) ⟨s14.kp, s14.sz, s14.blk⟩ rfl
    (repeat (first | refine k_nil ?_ | refine k_n ?_ | refine k_r ?_ | refine k_x ?_ | refine b_n ?_ | refine b_r ?_ | refine b_y rfl ?_ | refine b_z rfl ?_ | refine l_r ?_ | refine l_x ?_ | refine k_seq ?_ | refine k_blk ?_ | refine k_reg ?_ | refine k_ret ?_ | refine k_exit ?_ | refine k_skip ?_ | refine Zs ?_))
    exact retP_c1 rfl (rv_ag (vs := stC ({ k := 4, nm := nm, a := a, b := a2 }, nilS, nilS)) rfl rfl rfl B14.blk rfl rfl) ⟨_, s12, V12, rfl, ⟨rfl, rfl, rfl⟩, g14⟩
  rw [if_neg q6] at hr ⊢
  have B6 := B5.no k6
  have g6 := g5.no k6
  (repeat (first | refine k_nil ?_ | refine k_n ?_ | refine k_r ?_ | refine k_x ?_ | refine b_n ?_ | refine b_r ?_ | refine b_y rfl ?_ | refine b_z rfl ?_ | refine l_r ?_ | refine l_x ?_ | refine k_seq ?_ | refine k_blk ?_ | refine k_reg ?_ | refine k_ret ?_ | refine k_exit ?_ | refine k_skip ?_ | refine Zs ?_))
  refine c_b rfl (fun hb => (by rw [show _ = _ from congrArg not hz] at hb; cases hb)) (fun hb => ?_)
  (repeat (first | refine k_nil ?_ | refine k_n ?_ | refine k_r ?_ | refine k_x ?_ | refine b_n ?_ | refine b_r ?_ | refine b_y rfl ?_ | refine b_z rfl ?_ | refine l_r ?_ | refine l_x ?_ | refine k_seq ?_ | refine k_blk ?_ | refine k_reg ?_ | refine k_ret ?_ | refine k_exit ?_ | refine k_skip ?_ | refine Zs ?_))
  refine s_callP (us := []) (zs := []) (by kernel_rfl) rfl rfl (wantF g6.at_ ok (Tk.strOf wEq) (by rw [ee]; decide) (by rw [ee]; exact want_no)) (by rw [ee]; exact erP.up g6 rfl) ?_
  rw [ee]
  rintro _ w7 ⟨_, s7, V7, e7, rfl, g7⟩
  have B7 := B6.gs g7.gs
  have g7 := g6.call g7
  rw [e7, bind_ok] at hr ⊢
  (repeat (first | refine k_nil ?_ | refine k_n ?_ | refine k_r ?_ | refine k_x ?_ | refine b_n ?_ | refine b_r ?_ | refine b_y rfl ?_ | refine b_z rfl ?_ | refine l_r ?_ | refine l_x ?_ | refine k_seq ?_ | refine k_blk ?_ | refine k_reg ?_ | refine k_ret ?_ | refine k_exit ?_ | refine k_skip ?_ | refine Zs ?_))
  refine s_callP (us := []) (zs := []) (by kernel_rfl) rfl rfl (hL.expr d s7 V7 w7 (by omega) g7.at_ (bind_ne hr)) (erP.up g7 rfl) ?_
  rintro _ w8 ⟨a, s8, V8, e8, rfl, g8⟩
  have B8 := B7.gs g8.gs
  have g8 := g7.call g8
  rw [e8, bind_ok] at hr ⊢
  (repeat (first | refine k_nil ?_ | refine k_n ?_ | refine k_r ?_ | refine k_x ?_ | refine b_n ?_ | refine b_r ?_ | refine b_y rfl ?_ | refine b_z rfl ?_ | refine l_r ?_ | refine l_x ?_ | refine k_seq ?_ | refine k_blk ?_ | refine k_reg ?_ | refine k_ret ?_ | refine k_exit ?_ | refine k_skip ?_ | refine Zs ?_))
  refine s_st (vs := stC ({ k := 3, nm := nm, a := a }, nilS, nilS)) rfl rfl rfl rfl rfl B8.blk (Nat.le_of_ble_eq_true rfl) (fun w9 s9 => ?_)
  obtain ⟨g9, B9⟩ := g8.put B8 (cs' := stC ({ k := 3, nm := nm, a := a }, nilS, nilS)) ⟨s9.kp, s9.sz, s9.blk⟩ rfl
  (repeat (first | refine k_nil ?_ | refine k_n ?_ | refine k_r ?_ | refine k_x ?_ | refine b_n ?_ | refine b_r ?_ | refine b_y rfl ?_ | refine b_z rfl ?_ | refine l_r ?_ | refine l_x ?_ | refine k_seq ?_ | refine k_blk ?_ | refine k_reg ?_ | refine k_ret ?_ | refine k_exit ?_ | refine k_skip ?_ | refine Zs ?_))
  exact retP_c1 rfl (rv_ag (vs := stC ({ k := 3, nm := nm, a := a }, nilS, nilS)) rfl rfl rfl B9.blk rfl rfl) ⟨_, s8, V8, rfl, ⟨rfl, rfl, rfl⟩, g9⟩
end
end Go.Proofs.YtgnkdeapifbgeaaDoor.Sy
