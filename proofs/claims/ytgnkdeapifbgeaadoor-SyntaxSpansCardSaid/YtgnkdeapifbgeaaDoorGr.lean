/- The parser's statements: stmt; all parts together. -/
import Derived.Test.YtgnkdeapifbgeaaDoorGq
namespace Go.Proofs.YtgnkdeapifbgeaaDoor.Sy
open Go Go.RowKit Fw
set_option linter.unusedVariables false
set_option maxRecDepth 20000
structure StS where
  x : St
  s : PS
  V : VS
def w7 : List (List Int) := [wVar, wIf, wWhile, wBreak, wCont, wReturn, wPrint]
def w7B : List ByteArray := w7.map Tk.strOf
theorem w7_B : w7B.map B = w7 := by kernel_rfl
theorem w7_ne : [] ∉ w7B.map B := by rw [w7_B]; decide
section
variable {X : Cx} {L : Lv}
theorem stmtF (ok : Ok X) (hB : Bd L) (hL : Wk X L) (hK : BlockD X L) (hC : CallD X L) (d : Int) (s : PS) (V : VS) (w : World) (hd : 0 ≤ d ∧ d ≤ 64) (h : At X w s V) : Does X 47 [ptr X, .int .i64 d] w V (sStmt X.E L d s) intV := by
  intro hr
  have es : B (Tk.strOf wSemi) = wSemi := B_of (by decide)
  obtain ⟨R, hR⟩ : ∃ R, sStmt X.E L d s = R := ⟨_, rfl⟩
  rw [hR] at hr ⊢
  unfold sStmt at hR
  refine retP_enter Tryd.func47 rfl Tryd.ntmps47 rfl ?_
  (repeat (first | refine k_nil ?_ | refine k_n ?_ | refine k_r ?_ | refine k_x ?_ | refine b_n ?_ | refine b_r ?_ | refine b_y rfl ?_ | refine b_z rfl ?_ | refine l_r ?_ | refine l_x ?_ | refine k_seq ?_ | refine k_blk ?_ | refine k_reg ?_ | refine k_ret ?_ | refine k_exit ?_ | refine k_skip ?_ | refine Zs ?_))
  refine s_call (us := []) (zs := []) (by kernel_rfl) rfl rfl (hereF h ok) ?_
  rintro _ w1 ⟨rfl, k1⟩
  have g1 := (Sg.start h).no k1
  (repeat (first | refine k_nil ?_ | refine k_n ?_ | refine k_r ?_ | refine k_x ?_ | refine b_n ?_ | refine b_r ?_ | refine b_y rfl ?_ | refine b_z rfl ?_ | refine l_r ?_ | refine l_x ?_ | refine k_seq ?_ | refine k_blk ?_ | refine k_reg ?_ | refine k_ret ?_ | refine k_exit ?_ | refine k_skip ?_ | refine Zs ?_))
  refine s_al rfl (fun b w2 n2 => ?_)
  have g2 := g1.no n2.kp
  have B2 := Bx.new (w0 := w) g1.at_ g1.size n2
  have B2 : Bx X w w2 V b (stC ({ k := 0 }, nilS, nilS)) 39 := B2
  (repeat (first | refine k_nil ?_ | refine k_n ?_ | refine k_r ?_ | refine k_x ?_ | refine b_n ?_ | refine b_r ?_ | refine b_y rfl ?_ | refine b_z rfl ?_ | refine l_r ?_ | refine l_x ?_ | refine k_seq ?_ | refine k_blk ?_ | refine k_reg ?_ | refine k_ret ?_ | refine k_exit ?_ | refine k_skip ?_ | refine Zs ?_))
  refine s_bs (cs := w7B.map Value.string) (e := 9) rfl (fun b3 w3 n3 => ?_)
  have g3 := g2.no n3.kp
  have B3 := B2.no n3.kp
  refine s_call (us := []) (zs := []) (by kernel_rfl) rfl rfl (takeF g3.at_ ok w7B (some ⟨b3, 0, none⟩) 7 (RdN n3.blk) (by decide) w7_ne) ?_
  rw [w7_B]
  refine fun v w4 hv => ?_
  have hcut : ∃ q : Bool, ∃ x : ByteArray, v = .string x ∧ (q = true → Sy.wd X.E s ∈ w7 ∧ B x = Sy.wd X.E s ∧ Sg X w V w4 (adv s) V ∧ Bx X w w4 V b (stC ({ k := 0 }, nilS, nilS)) 39) ∧
      (q = false → Sy.wd X.E s ∉ w7 ∧ B x = [] ∧ Sg X w V w4 s V ∧ Bx X w w4 V b (stC ({ k := 0 }, nilS, nilS)) 39) := by
    rcases hv with ⟨y, hy, ⟨q7, rfl, hz, g7⟩ | ⟨q7, rfl, k7⟩⟩
    · exact ⟨true, y, rfl, (fun _ => ⟨q7, hy, g3.call g7, B3.gs g7.gs⟩), fun e => by cases e⟩
    · exact ⟨false, ⟨#[]⟩, rfl, (fun e => by cases e), fun _ => ⟨q7, rfl, g3.no k7, B3.no k7⟩⟩
  clear hv
  obtain ⟨q, x, rfl, hy, hn⟩ := hcut
  clear g3 B3 g2 B2 n2 n3 g1 k1
  refine k_nil ?_
  refine k_n ?_
  refine k_cutc (σ := StS) (fun _ => [(0, ptr X), (5, .int .i64 (Sy.hr X.E s)), (6, .pointer (some ⟨b, 0, none⟩))])
    (fun y w' => endS X.E (Sy.hr X.E s) y.x y.s = R ∧ Sg X w V w' y.s y.V ∧ Bx X w w' y.V b (stC (y.x, nilS, nilS)) 39 ∧ y.x.th = [] ∧ y.x.el = []) ?_ ?_
  · have tst : ∀ {l : List Int} {bo : Bool}, (bo = decide (B x = l)) → l ≠ [] → (bo = true → q = true ∧ Sy.wd X.E s = l) ∧ (bo = false → q = true → Sy.wd X.E s ≠ l) := fun {l bo} hbo hl => by
      cases q with
      | true => rw [(hy rfl).2.1] at hbo; exact ⟨fun e => ⟨rfl, by rw [hbo] at e; exact of_decide_eq_true e⟩, fun e _ => by rw [hbo] at e; exact of_decide_eq_false e⟩
      | false => rw [(hn rfl).2.1, decide_eq_false (Ne.symm hl)] at hbo; exact ⟨fun e => (by rw [hbo] at e; cases e), fun _ e => (by cases e)⟩
    (repeat (first | refine k_nil ?_ | refine k_n ?_ | refine k_r ?_ | refine k_x ?_ | refine b_n ?_ | refine b_r ?_ | refine b_y rfl ?_ | refine b_z rfl ?_ | refine l_r ?_ | refine l_x ?_ | refine k_seq ?_ | refine k_blk ?_ | refine k_reg ?_ | refine k_ret ?_ | refine k_exit ?_ | refine k_skip ?_ | refine Zs ?_))
    refine c_b rfl (fun hb => ?_) (fun hb => ?_)
    · obtain ⟨hq, q1⟩ := (tst (l := wVar) (lit_iff hb (by kernel_rfl)) (by decide)).1 rfl
      obtain ⟨_, _, g4, B4⟩ := hy hq
      rw [if_pos q1] at hR
      (repeat (first | refine k_nil ?_ | refine k_n ?_ | refine k_r ?_ | refine k_x ?_ | refine b_n ?_ | refine b_r ?_ | refine b_y rfl ?_ | refine b_z rfl ?_ | refine l_r ?_ | refine l_x ?_ | refine k_seq ?_ | refine k_blk ?_ | refine k_reg ?_ | refine k_ret ?_ | refine k_exit ?_ | refine k_skip ?_ | refine Zs ?_))
      refine s_callP (us := []) (zs := []) (by kernel_rfl) rfl rfl (declF ok hL d _ V w4 hd g4.at_ (bind_ne (show _ ≠ _ by rw [hR]; exact hr))) (erP.up g4 hR.symm) ?_
      rintro _ w5 ⟨y, s5, V5, e5, ⟨rfl, hth, hel⟩, g5⟩
      rw [e5, bind_ok] at hR
      have B5 := B4.gs g5.gs
      have g5 := g4.call g5
      refine s_st (vs := stC (y, nilS, nilS)) rfl rfl rfl rfl rfl B5.blk (Nat.le_of_ble_eq_true rfl) (fun w6 s6 => ?_)
      obtain ⟨g6, B6⟩ := g5.put B5 (cs' := stC (y, nilS, nilS)) ⟨s6.kp, s6.sz, s6.blk⟩ rfl
      (repeat (first | refine k_nil ?_ | refine k_n ?_ | refine k_r ?_ | refine k_x ?_ | refine b_n ?_ | refine b_r ?_ | refine b_y rfl ?_ | refine b_z rfl ?_ | refine l_r ?_ | refine l_x ?_ | refine k_seq ?_ | refine k_blk ?_ | refine k_reg ?_ | refine k_ret ?_ | refine k_exit ?_ | refine k_skip ?_ | refine Zs ?_))
      exact l_cut ⟨y, s5, V5⟩ ⟨rfl, rfl, rfl, trivial⟩ ⟨hR, g6, B6, hth, hel⟩
    have t1 := (tst (l := wVar) (lit_iff hb (by kernel_rfl)) (by decide)).2 rfl
    clear hb
    (repeat (first | refine k_nil ?_ | refine k_n ?_ | refine k_r ?_ | refine k_x ?_ | refine b_n ?_ | refine b_r ?_ | refine b_y rfl ?_ | refine b_z rfl ?_ | refine l_r ?_ | refine l_x ?_ | refine k_seq ?_ | refine k_blk ?_ | refine k_reg ?_ | refine k_ret ?_ | refine k_exit ?_ | refine k_skip ?_ | refine Zs ?_))
    refine c_b rfl (fun hb => ?_) (fun hb => ?_)
    · obtain ⟨hq, q1⟩ := (tst (l := wIf) (lit_iff hb (by kernel_rfl)) (by decide)).1 rfl
      obtain ⟨_, _, g4, B4⟩ := hy hq
      rw [if_neg (t1 hq), if_pos q1] at hR
      (repeat (first | refine k_nil ?_ | refine k_n ?_ | refine k_r ?_ | refine k_x ?_ | refine b_n ?_ | refine b_r ?_ | refine b_y rfl ?_ | refine b_z rfl ?_ | refine l_r ?_ | refine l_x ?_ | refine k_seq ?_ | refine k_blk ?_ | refine k_reg ?_ | refine k_ret ?_ | refine k_exit ?_ | refine k_skip ?_ | refine Zs ?_))
      refine s_callP (us := []) (zs := []) (by kernel_rfl) rfl rfl (hL.branch (Sy.hr X.E s) d _ V w4 hd g4.at_ (by rw [hR]; exact hr)) (by rw [hR]; exact erP.up0 g4) ?_
      rintro _ w5 ⟨c, s5, V5, e5, rfl, g5⟩
      (repeat (first | refine k_nil ?_ | refine k_n ?_ | refine k_r ?_ | refine k_x ?_ | refine b_n ?_ | refine b_r ?_ | refine b_y rfl ?_ | refine b_z rfl ?_ | refine l_r ?_ | refine l_x ?_ | refine k_seq ?_ | refine k_blk ?_ | refine k_reg ?_ | refine k_ret ?_ | refine k_exit ?_ | refine k_skip ?_ | refine Zs ?_))
      exact retP_1 rfl rfl ⟨c, s5, V5, by rw [← hR, e5], rfl, g4.call g5⟩
    have t2 := (tst (l := wIf) (lit_iff hb (by kernel_rfl)) (by decide)).2 rfl
    clear hb
    (repeat (first | refine k_nil ?_ | refine k_n ?_ | refine k_r ?_ | refine k_x ?_ | refine b_n ?_ | refine b_r ?_ | refine b_y rfl ?_ | refine b_z rfl ?_ | refine l_r ?_ | refine l_x ?_ | refine k_seq ?_ | refine k_blk ?_ | refine k_reg ?_ | refine k_ret ?_ | refine k_exit ?_ | refine k_skip ?_ | refine Zs ?_))
    refine c_b rfl (fun hb => ?_) (fun hb => ?_)
    · obtain ⟨hq, q1⟩ := (tst (l := wWhile) (lit_iff hb (by kernel_rfl)) (by decide)).1 rfl
      obtain ⟨_, _, g4, B4⟩ := hy hq
      rw [if_neg (t1 hq), if_neg (t2 hq), if_pos q1] at hR
      (repeat (first | refine k_nil ?_ | refine k_n ?_ | refine k_r ?_ | refine k_x ?_ | refine b_n ?_ | refine b_r ?_ | refine b_y rfl ?_ | refine b_z rfl ?_ | refine l_r ?_ | refine l_x ?_ | refine k_seq ?_ | refine k_blk ?_ | refine k_reg ?_ | refine k_ret ?_ | refine k_exit ?_ | refine k_skip ?_ | refine Zs ?_))
      refine s_callP (us := []) (zs := []) (by kernel_rfl) rfl rfl (hL.expr d _ V w4 (by omega) g4.at_ (bind_ne (show _ ≠ _ by rw [hR]; exact hr))) (erP.up g4 hR.symm) ?_
      rintro _ w5 ⟨a, s5, V5, e5, rfl, g5⟩
      rw [e5, bind_ok] at hR
      have B5 := B4.gs g5.gs
      have g5 := g4.call g5
      (repeat (first | refine k_nil ?_ | refine k_n ?_ | refine k_r ?_ | refine k_x ?_ | refine b_n ?_ | refine b_r ?_ | refine b_y rfl ?_ | refine b_z rfl ?_ | refine l_r ?_ | refine l_x ?_ | refine k_seq ?_ | refine k_blk ?_ | refine k_reg ?_ | refine k_ret ?_ | refine k_exit ?_ | refine k_skip ?_ | refine Zs ?_))
      refine s_st (vs := stC ({ k := 6, a := a }, nilS, nilS)) rfl rfl rfl rfl rfl B5.blk (Nat.le_of_ble_eq_true rfl) (fun w6 s6 => ?_)
      obtain ⟨g6, B6⟩ := g5.put B5 (cs' := stC ({ k := 6, a := a }, nilS, nilS)) ⟨s6.kp, s6.sz, s6.blk⟩ rfl
      (repeat (first | refine k_nil ?_ | refine k_n ?_ | refine k_r ?_ | refine k_x ?_ | refine b_n ?_ | refine b_r ?_ | refine b_y rfl ?_ | refine b_z rfl ?_ | refine l_r ?_ | refine l_x ?_ | refine k_seq ?_ | refine k_blk ?_ | refine k_reg ?_ | refine k_ret ?_ | refine k_exit ?_ | refine k_skip ?_ | refine Zs ?_))
      refine s_callP (us := []) (zs := []) (by kernel_rfl) rfl rfl (hK (d + 1) s5 V5 w6 (by omega) g6.at_ (bind_ne (show _ ≠ _ by rw [hR]; exact hr))) (erP.up g6 hR.symm) ?_
      rintro _ w7 ⟨th, s7, V7, e7, g7, l7⟩
      have u7 := block_up hB e7
      rw [e7, bind_ok] at hR
      have B7 := B6.gs g7.gs
      have l7 : Ls w w7 V7 3 _ th.length (th.map (Value.int .i64)) := ⟨l7.own, fun g hg => ⟨Nat.le_trans g6.size (l7.nw g hg).1, (l7.nw g hg).2⟩⟩
      have g7 := g6.call g7
      obtain ⟨ta, tc, e, _⟩ := own_read l7.own
      subst e
      (repeat (first | refine k_nil ?_ | refine k_n ?_ | refine k_r ?_ | refine k_x ?_ | refine b_n ?_ | refine b_r ?_ | refine b_y rfl ?_ | refine b_z rfl ?_ | refine l_r ?_ | refine l_x ?_ | refine k_seq ?_ | refine k_blk ?_ | refine k_reg ?_ | refine k_ret ?_ | refine k_exit ?_ | refine k_skip ?_ | refine Zs ?_))
      refine s_st (vs := [.slice ta th.length tc]) rfl rfl rfl rfl rfl B7.blk (Nat.le_of_ble_eq_true rfl) (fun w8 s8 => ?_)
      have l8 : Ls w w8 V7 3 (.slice ta th.length tc) th.length (th.map (Value.int .i64)) := ⟨own_kp l7.own s8.kp fun g hg e => by
        obtain ⟨c, hc⟩ := own_ty l7.own hg
        exact ty_ne hc B7.blk rfl e, l7.nw⟩
      obtain ⟨g8, B8⟩ := g7.put B7 (cs' := stC ({ k := 6, a := a, th := th }, .slice ta th.length tc, nilS)) ⟨s8.kp, s8.sz, s8.blk⟩ rfl
      (repeat (first | refine k_nil ?_ | refine k_n ?_ | refine k_r ?_ | refine k_x ?_ | refine b_n ?_ | refine b_r ?_ | refine b_y rfl ?_ | refine b_z rfl ?_ | refine l_r ?_ | refine l_x ?_ | refine k_seq ?_ | refine k_blk ?_ | refine k_reg ?_ | refine k_ret ?_ | refine k_exit ?_ | refine k_skip ?_ | refine Zs ?_))
      refine s_v (r_ldb (vs := stC ({ k := 6, a := a, th := th }, .slice ta th.length tc, nilS)) rfl rfl rfl B8.blk rfl rfl) ?_
      have g9 := g8.more' l8.rng
      refine s_callP (us := []) (zs := []) (by kernel_rfl) rfl rfl (addF g9.at_ ok (Sy.hr X.E s) { k := 6, a := a, th := th } (.slice ta th.length tc) nilS l8.own LI.nil (fun g hg => .inr hg) Ow.nil (by unfold Up at u7; omega) add_no) (by rw [hR]; exact erP.up0 g9) ?_
      rintro _ w9 ⟨c, s9, V9, e9, rfl, g10⟩
      (repeat (first | refine k_nil ?_ | refine k_n ?_ | refine k_r ?_ | refine k_x ?_ | refine b_n ?_ | refine b_r ?_ | refine b_y rfl ?_ | refine b_z rfl ?_ | refine l_r ?_ | refine l_x ?_ | refine k_seq ?_ | refine k_blk ?_ | refine k_reg ?_ | refine k_ret ?_ | refine k_exit ?_ | refine k_skip ?_ | refine Zs ?_))
      exact retP_1 rfl rfl ⟨c, s9, V9, by rw [← hR, e9], rfl, g9.call g10⟩
    have t3 := (tst (l := wWhile) (lit_iff hb (by kernel_rfl)) (by decide)).2 rfl
    clear hb
    (repeat (first | refine k_nil ?_ | refine k_n ?_ | refine k_r ?_ | refine k_x ?_ | refine b_n ?_ | refine b_r ?_ | refine b_y rfl ?_ | refine b_z rfl ?_ | refine l_r ?_ | refine l_x ?_ | refine k_seq ?_ | refine k_blk ?_ | refine k_reg ?_ | refine k_ret ?_ | refine k_exit ?_ | refine k_skip ?_ | refine Zs ?_))
    refine c_b rfl (fun hb => ?_) (fun hb => ?_)
    · obtain ⟨hq, q1⟩ := (tst (l := wBreak) (lit_iff hb (by kernel_rfl)) (by decide)).1 rfl
      obtain ⟨_, _, g4, B4⟩ := hy hq
      rw [if_neg (t1 hq), if_neg (t2 hq), if_neg (t3 hq), if_pos q1] at hR
      (repeat (first | refine k_nil ?_ | refine k_n ?_ | refine k_r ?_ | refine k_x ?_ | refine b_n ?_ | refine b_r ?_ | refine b_y rfl ?_ | refine b_z rfl ?_ | refine l_r ?_ | refine l_x ?_ | refine k_seq ?_ | refine k_blk ?_ | refine k_reg ?_ | refine k_ret ?_ | refine k_exit ?_ | refine k_skip ?_ | refine Zs ?_))
      refine s_st (vs := [.int .i64 7]) rfl rfl rfl rfl rfl B4.blk (Nat.le_of_ble_eq_true rfl) (fun w6 s6 => ?_)
      obtain ⟨g6, B6⟩ := g4.put B4 (cs' := stC ({ k := 7 }, nilS, nilS)) ⟨s6.kp, s6.sz, s6.blk⟩ rfl
      (repeat (first | refine k_nil ?_ | refine k_n ?_ | refine k_r ?_ | refine k_x ?_ | refine b_n ?_ | refine b_r ?_ | refine b_y rfl ?_ | refine b_z rfl ?_ | refine l_r ?_ | refine l_x ?_ | refine k_seq ?_ | refine k_blk ?_ | refine k_reg ?_ | refine k_ret ?_ | refine k_exit ?_ | refine k_skip ?_ | refine Zs ?_))
      exact l_cut ⟨{ k := 7 }, adv s, V⟩ ⟨rfl, rfl, rfl, trivial⟩ ⟨hR, g6, B6, rfl, rfl⟩
    have t4 := (tst (l := wBreak) (lit_iff hb (by kernel_rfl)) (by decide)).2 rfl
    clear hb
    (repeat (first | refine k_nil ?_ | refine k_n ?_ | refine k_r ?_ | refine k_x ?_ | refine b_n ?_ | refine b_r ?_ | refine b_y rfl ?_ | refine b_z rfl ?_ | refine l_r ?_ | refine l_x ?_ | refine k_seq ?_ | refine k_blk ?_ | refine k_reg ?_ | refine k_ret ?_ | refine k_exit ?_ | refine k_skip ?_ | refine Zs ?_))
    refine c_b rfl (fun hb => ?_) (fun hb => ?_)
    · obtain ⟨hq, q1⟩ := (tst (l := wCont) (lit_iff hb (by kernel_rfl)) (by decide)).1 rfl
      obtain ⟨_, _, g4, B4⟩ := hy hq
      rw [if_neg (t1 hq), if_neg (t2 hq), if_neg (t3 hq), if_neg (t4 hq), if_pos q1] at hR
      (repeat (first | refine k_nil ?_ | refine k_n ?_ | refine k_r ?_ | refine k_x ?_ | refine b_n ?_ | refine b_r ?_ | refine b_y rfl ?_ | refine b_z rfl ?_ | refine l_r ?_ | refine l_x ?_ | refine k_seq ?_ | refine k_blk ?_ | refine k_reg ?_ | refine k_ret ?_ | refine k_exit ?_ | refine k_skip ?_ | refine Zs ?_))
      refine s_st (vs := [.int .i64 8]) rfl rfl rfl rfl rfl B4.blk (Nat.le_of_ble_eq_true rfl) (fun w6 s6 => ?_)
      obtain ⟨g6, B6⟩ := g4.put B4 (cs' := stC ({ k := 8 }, nilS, nilS)) ⟨s6.kp, s6.sz, s6.blk⟩ rfl
      (repeat (first | refine k_nil ?_ | refine k_n ?_ | refine k_r ?_ | refine k_x ?_ | refine b_n ?_ | refine b_r ?_ | refine b_y rfl ?_ | refine b_z rfl ?_ | refine l_r ?_ | refine l_x ?_ | refine k_seq ?_ | refine k_blk ?_ | refine k_reg ?_ | refine k_ret ?_ | refine k_exit ?_ | refine k_skip ?_ | refine Zs ?_))
      exact l_cut ⟨{ k := 8 }, adv s, V⟩ ⟨rfl, rfl, rfl, trivial⟩ ⟨hR, g6, B6, rfl, rfl⟩
    have t5 := (tst (l := wCont) (lit_iff hb (by kernel_rfl)) (by decide)).2 rfl
    clear hb
    (repeat (first | refine k_nil ?_ | refine k_n ?_ | refine k_r ?_ | refine k_x ?_ | refine b_n ?_ | refine b_r ?_ | refine b_y rfl ?_ | refine b_z rfl ?_ | refine l_r ?_ | refine l_x ?_ | refine k_seq ?_ | refine k_blk ?_ | refine k_reg ?_ | refine k_ret ?_ | refine k_exit ?_ | refine k_skip ?_ | refine Zs ?_))
    refine c_b rfl (fun hb => ?_) (fun hb => ?_)
    · obtain ⟨hq, q1⟩ := (tst (l := wReturn) (lit_iff hb (by kernel_rfl)) (by decide)).1 rfl
      obtain ⟨_, _, g4, B4⟩ := hy hq
      rw [if_neg (t1 hq), if_neg (t2 hq), if_neg (t3 hq), if_neg (t4 hq), if_neg (t5 hq), if_pos q1] at hR
      (repeat (first | refine k_nil ?_ | refine k_n ?_ | refine k_r ?_ | refine k_x ?_ | refine b_n ?_ | refine b_r ?_ | refine b_y rfl ?_ | refine b_z rfl ?_ | refine l_r ?_ | refine l_x ?_ | refine k_seq ?_ | refine k_blk ?_ | refine k_reg ?_ | refine k_ret ?_ | refine k_exit ?_ | refine k_skip ?_ | refine Zs ?_))
      refine s_st (vs := stC ({ k := 9, a := -1 }, nilS, nilS)) rfl rfl rfl rfl rfl B4.blk (Nat.le_of_ble_eq_true rfl) (fun w6 s6 => ?_)
      obtain ⟨g6, B6⟩ := g4.put B4 (cs' := stC ({ k := 9, a := -1 }, nilS, nilS)) ⟨s6.kp, s6.sz, s6.blk⟩ rfl
      (repeat (first | refine k_nil ?_ | refine k_n ?_ | refine k_r ?_ | refine k_x ?_ | refine b_n ?_ | refine b_r ?_ | refine b_y rfl ?_ | refine b_z rfl ?_ | refine l_r ?_ | refine l_x ?_ | refine k_seq ?_ | refine k_blk ?_ | refine k_reg ?_ | refine k_ret ?_ | refine k_exit ?_ | refine k_skip ?_ | refine Zs ?_))
      refine s_bs (cs := [.string (Tk.strOf wSemi)]) (e := 9) rfl (fun b7 w7 n7 => ?_)
      have g7 := g6.no n7.kp
      have B7 := B6.no n7.kp
      refine s_call (us := []) (zs := []) (by kernel_rfl) rfl rfl (is1 g7.at_ ok (Tk.strOf wSemi) (by rw [es]; decide) n7.blk) ?_
      rw [es]
      rintro _ w8 ⟨rfl, k8⟩
      have g8 := g7.no k8
      have B8 := B7.no k8
      (repeat (first | refine k_nil ?_ | refine k_n ?_ | refine k_r ?_ | refine k_x ?_ | refine b_n ?_ | refine b_r ?_ | refine b_y rfl ?_ | refine b_z rfl ?_ | refine l_r ?_ | refine l_x ?_ | refine k_seq ?_ | refine k_blk ?_ | refine k_reg ?_ | refine k_ret ?_ | refine k_exit ?_ | refine k_skip ?_ | refine Zs ?_))
      refine c_b rfl (fun hb => ?_) (fun hb => ?_)
      · have hb : (!decide (Sy.wd X.E (adv s) = wSemi)) = true := hb
        rw [if_neg (by simpa using hb)] at hR
        (repeat (first | refine k_nil ?_ | refine k_n ?_ | refine k_r ?_ | refine k_x ?_ | refine b_n ?_ | refine b_r ?_ | refine b_y rfl ?_ | refine b_z rfl ?_ | refine l_r ?_ | refine l_x ?_ | refine k_seq ?_ | refine k_blk ?_ | refine k_reg ?_ | refine k_ret ?_ | refine k_exit ?_ | refine k_skip ?_ | refine Zs ?_))
        refine s_callP (us := []) (zs := []) (by kernel_rfl) rfl rfl (hL.expr d _ V w8 (by omega) g8.at_ (bind_ne (show _ ≠ _ by rw [hR]; exact hr))) (erP.up g8 hR.symm) ?_
        rintro _ w9 ⟨a, s9, V9, e9, rfl, g9⟩
        rw [e9, bind_ok] at hR
        have B9 := B8.gs g9.gs
        have g9 := g8.call g9
        (repeat (first | refine k_nil ?_ | refine k_n ?_ | refine k_r ?_ | refine k_x ?_ | refine b_n ?_ | refine b_r ?_ | refine b_y rfl ?_ | refine b_z rfl ?_ | refine l_r ?_ | refine l_x ?_ | refine k_seq ?_ | refine k_blk ?_ | refine k_reg ?_ | refine k_ret ?_ | refine k_exit ?_ | refine k_skip ?_ | refine Zs ?_))
        refine s_st (vs := [.int .i64 a]) rfl rfl rfl rfl rfl B9.blk (Nat.le_of_ble_eq_true rfl) (fun w10 s10 => ?_)
        obtain ⟨g10, B10⟩ := g9.put B9 (cs' := stC ({ k := 9, a := a }, nilS, nilS)) ⟨s10.kp, s10.sz, s10.blk⟩ rfl
        (repeat (first | refine k_nil ?_ | refine k_n ?_ | refine k_r ?_ | refine k_x ?_ | refine b_n ?_ | refine b_r ?_ | refine b_y rfl ?_ | refine b_z rfl ?_ | refine l_r ?_ | refine l_x ?_ | refine k_seq ?_ | refine k_blk ?_ | refine k_reg ?_ | refine k_ret ?_ | refine k_exit ?_ | refine k_skip ?_ | refine Zs ?_))
        exact l_cut ⟨{ k := 9, a := a }, s9, V9⟩ ⟨rfl, rfl, rfl, trivial⟩ ⟨hR, g10, B10, rfl, rfl⟩
      · have hb : (!decide (Sy.wd X.E (adv s) = wSemi)) = false := hb
        rw [if_pos (by simpa using hb)] at hR
        (repeat (first | refine k_nil ?_ | refine k_n ?_ | refine k_r ?_ | refine k_x ?_ | refine b_n ?_ | refine b_r ?_ | refine b_y rfl ?_ | refine b_z rfl ?_ | refine l_r ?_ | refine l_x ?_ | refine k_seq ?_ | refine k_blk ?_ | refine k_reg ?_ | refine k_ret ?_ | refine k_exit ?_ | refine k_skip ?_ | refine Zs ?_))
        exact l_cut ⟨{ k := 9, a := -1 }, adv s, V⟩ ⟨rfl, rfl, rfl, trivial⟩ ⟨hR, g8, B8, rfl, rfl⟩
    have t6 := (tst (l := wReturn) (lit_iff hb (by kernel_rfl)) (by decide)).2 rfl
    clear hb
    (repeat (first | refine k_nil ?_ | refine k_n ?_ | refine k_r ?_ | refine k_x ?_ | refine b_n ?_ | refine b_r ?_ | refine b_y rfl ?_ | refine b_z rfl ?_ | refine l_r ?_ | refine l_x ?_ | refine k_seq ?_ | refine k_blk ?_ | refine k_reg ?_ | refine k_ret ?_ | refine k_exit ?_ | refine k_skip ?_ | refine Zs ?_))
    refine c_b rfl (fun hb => ?_) (fun hb => ?_)
    · obtain ⟨hq, q1⟩ := (tst (l := wPrint) (lit_iff hb (by kernel_rfl)) (by decide)).1 rfl
      obtain ⟨_, _, g4, B4⟩ := hy hq
      rw [if_neg (t1 hq), if_neg (t2 hq), if_neg (t3 hq), if_neg (t4 hq), if_neg (t5 hq), if_neg (t6 hq), if_pos q1] at hR
      (repeat (first | refine k_nil ?_ | refine k_n ?_ | refine k_r ?_ | refine k_x ?_ | refine b_n ?_ | refine b_r ?_ | refine b_y rfl ?_ | refine b_z rfl ?_ | refine l_r ?_ | refine l_x ?_ | refine k_seq ?_ | refine k_blk ?_ | refine k_reg ?_ | refine k_ret ?_ | refine k_exit ?_ | refine k_skip ?_ | refine Zs ?_))
      refine s_callP (us := []) (zs := []) (by kernel_rfl) rfl rfl (hL.expr d _ V w4 (by omega) g4.at_ (bind_ne (show _ ≠ _ by rw [hR]; exact hr))) (erP.up g4 hR.symm) ?_
      rintro _ w5 ⟨a, s5, V5, e5, rfl, g5⟩
      rw [e5, bind_ok] at hR
      have B5 := B4.gs g5.gs
      have g5 := g4.call g5
      (repeat (first | refine k_nil ?_ | refine k_n ?_ | refine k_r ?_ | refine k_x ?_ | refine b_n ?_ | refine b_r ?_ | refine b_y rfl ?_ | refine b_z rfl ?_ | refine l_r ?_ | refine l_x ?_ | refine k_seq ?_ | refine k_blk ?_ | refine k_reg ?_ | refine k_ret ?_ | refine k_exit ?_ | refine k_skip ?_ | refine Zs ?_))
      refine s_st (vs := stC ({ k := 10, a := a }, nilS, nilS)) rfl rfl rfl rfl rfl B5.blk (Nat.le_of_ble_eq_true rfl) (fun w6 s6 => ?_)
      obtain ⟨g6, B6⟩ := g5.put B5 (cs' := stC ({ k := 10, a := a }, nilS, nilS)) ⟨s6.kp, s6.sz, s6.blk⟩ rfl
      (repeat (first | refine k_nil ?_ | refine k_n ?_ | refine k_r ?_ | refine k_x ?_ | refine b_n ?_ | refine b_r ?_ | refine b_y rfl ?_ | refine b_z rfl ?_ | refine l_r ?_ | refine l_x ?_ | refine k_seq ?_ | refine k_blk ?_ | refine k_reg ?_ | refine k_ret ?_ | refine k_exit ?_ | refine k_skip ?_ | refine Zs ?_))
      exact l_cut ⟨{ k := 10, a := a }, s5, V5⟩ ⟨rfl, rfl, rfl, trivial⟩ ⟨hR, g6, B6, rfl, rfl⟩
    have t7 := (tst (l := wPrint) (lit_iff hb (by kernel_rfl)) (by decide)).2 rfl
    clear hb
    have hq : q = false := by
      cases q with
      | false => rfl
      | true =>
        have hm := (hy rfl).1
        simp only [w7, List.mem_cons, List.not_mem_nil, or_false] at hm
        rcases hm with e | e | e | e | e | e | e
        · exact (t1 rfl e).elim
        · exact (t2 rfl e).elim
        · exact (t3 rfl e).elim
        · exact (t4 rfl e).elim
        · exact (t5 rfl e).elim
        · exact (t6 rfl e).elim
        · exact (t7 rfl e).elim
    obtain ⟨hm, _, g4, B4⟩ := hn hq
    simp only [w7, List.mem_cons, List.not_mem_nil, or_false, not_or] at hm
    obtain ⟨m1, m2, m3, m4, m5, m6, m7⟩ := hm
    rw [if_neg m1, if_neg m2, if_neg m3, if_neg m4, if_neg m5, if_neg m6, if_neg m7] at hR
    (repeat (first | refine k_nil ?_ | refine k_n ?_ | refine k_r ?_ | refine k_x ?_ | refine b_n ?_ | refine b_r ?_ | refine b_y rfl ?_ | refine b_z rfl ?_ | refine l_r ?_ | refine l_x ?_ | refine k_seq ?_ | refine k_blk ?_ | refine k_reg ?_ | refine k_ret ?_ | refine k_exit ?_ | refine k_skip ?_ | refine Zs ?_))
    refine s_callP (us := []) (zs := []) (by kernel_rfl) rfl rfl (namedF ok hL hC d s V w4 hd g4.at_ (bind_ne (show _ ≠ _ by rw [hR]; exact hr))) (erP.up g4 hR.symm) ?_
    rintro _ w5 ⟨y, s5, V5, e5, ⟨rfl, hth, hel⟩, g5⟩
    rw [e5, bind_ok] at hR
    have B5 := B4.gs g5.gs
    have g5 := g4.call g5
    refine s_st (vs := stC (y, nilS, nilS)) rfl rfl rfl rfl rfl B5.blk (Nat.le_of_ble_eq_true rfl) (fun w6 s6 => ?_)
    obtain ⟨g6, B6⟩ := g5.put B5 (cs' := stC (y, nilS, nilS)) ⟨s6.kp, s6.sz, s6.blk⟩ rfl
    (repeat (first | refine k_nil ?_ | refine k_n ?_ | refine k_r ?_ | refine k_x ?_ | refine b_n ?_ | refine b_r ?_ | refine b_y rfl ?_ | refine b_z rfl ?_ | refine l_r ?_ | refine l_x ?_ | refine k_seq ?_ | refine k_blk ?_ | refine k_reg ?_ | refine k_ret ?_ | refine k_exit ?_ | refine k_skip ?_ | refine Zs ?_))
    exact l_cut ⟨y, s5, V5⟩ ⟨rfl, rfl, rfl, trivial⟩ ⟨hR, g6, B6, hth, hel⟩
  · rintro ⟨y, s8, V8⟩ lr8 w8 ⟨hR8, g8, B8, hth, hel⟩
    simp only at hR8 g8 B8 hth hel
    clear hR hy hn
    unfold endS at hR8
    (repeat (first | refine k_nil ?_ | refine k_n ?_ | refine k_r ?_ | refine k_x ?_ | refine b_n ?_ | refine b_r ?_ | refine b_y rfl ?_ | refine b_z rfl ?_ | refine l_r ?_ | refine l_x ?_ | refine k_seq ?_ | refine k_blk ?_ | refine k_reg ?_ | refine k_ret ?_ | refine k_exit ?_ | refine k_skip ?_ | refine Zs ?_))
    refine s_callP (us := []) (zs := []) (by kernel_rfl) rfl rfl (wantF g8.at_ ok (Tk.strOf wSemi) (by rw [es]; decide) (by rw [es]; exact want_no)) (by rw [es]; exact erP.up g8 hR8.symm) ?_
    rw [es]
    rintro _ w9 ⟨_, s9, V9, e9, rfl, g9⟩
    have u9 := want_up e9
    have B9 := B8.gs g9.gs
    have g9 := g8.call g9
    rw [e9, bind_ok] at hR8
    (repeat (first | refine k_nil ?_ | refine k_n ?_ | refine k_r ?_ | refine k_x ?_ | refine b_n ?_ | refine b_r ?_ | refine b_y rfl ?_ | refine b_z rfl ?_ | refine l_r ?_ | refine l_x ?_ | refine k_seq ?_ | refine k_blk ?_ | refine k_reg ?_ | refine k_ret ?_ | refine k_exit ?_ | refine k_skip ?_ | refine Zs ?_))
    refine s_v (r_ldb (vs := stC (y, nilS, nilS)) rfl rfl rfl B9.blk rfl rfl) ?_
    refine s_callP (us := []) (zs := []) (by kernel_rfl) rfl rfl (addX g9 ok (Sy.hr X.E s) y hth hel (by unfold Up at u9; omega)) (by rw [hR8]; exact erP.up0 g9) ?_
    rintro _ w10 ⟨c, s10, V10, e10, rfl, g10⟩
    (repeat (first | refine k_nil ?_ | refine k_n ?_ | refine k_r ?_ | refine k_x ?_ | refine b_n ?_ | refine b_r ?_ | refine b_y rfl ?_ | refine b_z rfl ?_ | refine l_r ?_ | refine l_x ?_ | refine k_seq ?_ | refine k_blk ?_ | refine k_reg ?_ | refine k_ret ?_ | refine k_exit ?_ | refine k_skip ?_ | refine Zs ?_))
    exact retP_1 rfl rfl ⟨c, s10, V10, by rw [← hR8, e10], rfl, g9.call g10⟩
end
/-- Each part does as it says, at any fuel. -/
theorem wk_lv {X : Cx} (ok : Ok X) : ∀ n, Wk X (lv X.E n) := by
  intro n
  induction n using Nat.strongRecOn with
  | _ n ih =>
    cases n with
    | zero => exact ⟨fun _ _ _ _ _ _ _ _ _ _ h => (h rfl).elim, fun _ _ _ _ _ _ h => (h rfl).elim, fun _ _ _ _ _ _ h => (h rfl).elim, fun _ _ _ _ _ _ h => (h rfl).elim, fun _ _ _ _ _ _ h => (h rfl).elim, fun _ _ _ _ _ _ _ h => (h rfl).elim⟩
    | succ n =>
      have hW : ∀ m, m ≤ n → Wk X (lv X.E m) := fun m hm => ih m (by omega)
      have hL := hW n (Nat.le_refl _)
      have hC := callF ok hW
      have hK := blockF ok hW
      have hB := bd_lv (E := X.E) n
      exact ⟨fun v d s V w g hv hd h hg => rowF ok hW v d s V w g hv hd h hg, fun d s V w hd h => exprF ok hL d s V w hd h, fun d s V w hd h => unaryF ok hB hL d s V w hd h, fun d s V w hd h => primF ok hB hL hC d s V w hd h,
        fun d s V w hd h => stmtF ok hB hL hK hC d s V w hd h, fun fr d s V w hd h => branchF ok hB hL hK fr d s V w hd h⟩
end Go.Proofs.YtgnkdeapifbgeaaDoor.Sy
