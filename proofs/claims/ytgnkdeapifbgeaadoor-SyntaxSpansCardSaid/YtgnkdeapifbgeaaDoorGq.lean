/- The parser's statements: branch, stmt; all parts together. -/
import Derived.Test.YtgnkdeapifbgeaaDoorGp
namespace Go.Proofs.YtgnkdeapifbgeaaDoor.Sy
open Go Go.RowKit Fw
set_option linter.unusedVariables false
set_option maxRecDepth 20000
/-- A statement that is being made: its lists. -/
structure BrS where
  el : List Int
  mv : Value
  s : PS
  V : VS
section
variable {X : Cx} {L : Lv}
theorem branchF (ok : Ok X) (hB : Bd L) (hL : Wk X L) (hK : BlockD X L) (fr d : Int) (s : PS) (V : VS) (w : World) (hd : 0 ≤ d ∧ d ≤ 64) (h : At X w s V) : Does X 55 [ptr X, .int .i64 fr, .int .i64 d] w V (sBranch X.E L fr d s) intV := by
  intro hr
  have ee : B (Tk.strOf wElse) = wElse := B_of (by decide)
  have ei : B (Tk.strOf wIf) = wIf := B_of (by decide)
  obtain ⟨R, hR⟩ : ∃ R, sBranch X.E L fr d s = R := ⟨_, rfl⟩
  rw [hR] at hr ⊢
  unfold sBranch at hR
  refine retP_enter Tryd.func55 rfl Tryd.ntmps55 rfl ?_
  (repeat (first | refine k_nil ?_ | refine k_n ?_ | refine k_r ?_ | refine k_x ?_ | refine b_n ?_ | refine b_r ?_ | refine b_y rfl ?_ | refine b_z rfl ?_ | refine l_r ?_ | refine l_x ?_ | refine k_seq ?_ | refine k_blk ?_ | refine k_reg ?_ | refine k_ret ?_ | refine k_exit ?_ | refine k_skip ?_ | refine Zs ?_))
  refine s_callP (us := []) (zs := []) (by kernel_rfl) rfl rfl (hL.expr d s V w (by omega) h (bind_ne (show _ ≠ _ by rw [hR]; exact hr))) (erP.up (Sg.start h) hR.symm) ?_
  rintro _ w1 ⟨a, s1, V1, e1, rfl, g1⟩
  have u1 := hB.expr _ _ _ _ e1
  rw [e1, bind_ok] at hR
  (repeat (first | refine k_nil ?_ | refine k_n ?_ | refine k_r ?_ | refine k_x ?_ | refine b_n ?_ | refine b_r ?_ | refine b_y rfl ?_ | refine b_z rfl ?_ | refine l_r ?_ | refine l_x ?_ | refine k_seq ?_ | refine k_blk ?_ | refine k_reg ?_ | refine k_ret ?_ | refine k_exit ?_ | refine k_skip ?_ | refine Zs ?_))
  refine s_al rfl (fun b w2 n2 => ?_)
  have B2 := Bx.new (w0 := w) g1.at_ g1.size n2
  have g2 := g1.no n2.kp
  refine s_st (vs := stC ({ k := 5, a := a }, nilS, nilS)) rfl rfl rfl rfl rfl B2.blk (Nat.le_of_ble_eq_true rfl) (fun w3 s3 => ?_)
  obtain ⟨g3, B3⟩ := g2.put B2 (cs' := stC ({ k := 5, a := a }, nilS, nilS)) ⟨s3.kp, s3.sz, s3.blk⟩ rfl
  (repeat (first | refine k_nil ?_ | refine k_n ?_ | refine k_r ?_ | refine k_x ?_ | refine b_n ?_ | refine b_r ?_ | refine b_y rfl ?_ | refine b_z rfl ?_ | refine l_r ?_ | refine l_x ?_ | refine k_seq ?_ | refine k_blk ?_ | refine k_reg ?_ | refine k_ret ?_ | refine k_exit ?_ | refine k_skip ?_ | refine Zs ?_))
  refine s_callP (us := []) (zs := []) (by kernel_rfl) rfl rfl (hK (d + 1) s1 V1 w3 (by omega) g3.at_ (bind_ne (show _ ≠ _ by rw [hR]; exact hr))) (erP.up g3 hR.symm) ?_
  rintro _ w4 ⟨th, s4, V4, e4, g4, l4⟩
  have u4 := block_up hB e4
  rw [e4, bind_ok] at hR
  have B4 := B3.gs g4.gs
  have l4 : Ls w w4 V4 3 _ th.length (th.map (Value.int .i64)) := ⟨l4.own, fun g hg => ⟨Nat.le_trans g3.size (l4.nw g hg).1, (l4.nw g hg).2⟩⟩
  have g4 := g3.call g4
  obtain ⟨ta, tc, e, _⟩ := own_read l4.own
  subst e
  (repeat (first | refine k_nil ?_ | refine k_n ?_ | refine k_r ?_ | refine k_x ?_ | refine b_n ?_ | refine b_r ?_ | refine b_y rfl ?_ | refine b_z rfl ?_ | refine l_r ?_ | refine l_x ?_ | refine k_seq ?_ | refine k_blk ?_ | refine k_reg ?_ | refine k_ret ?_ | refine k_exit ?_ | refine k_skip ?_ | refine Zs ?_))
  refine s_st (vs := [.slice ta th.length tc]) rfl rfl rfl rfl rfl B4.blk (Nat.le_of_ble_eq_true rfl) (fun w5 s5 => ?_)
  have l5 : Ls w w5 V4 3 (.slice ta th.length tc) th.length (th.map (Value.int .i64)) := ⟨own_kp l4.own s5.kp fun g hg e => by
    obtain ⟨c, hc⟩ := own_ty l4.own hg
    exact ty_ne hc B4.blk rfl e, l4.nw⟩
  obtain ⟨g5, B5⟩ := g4.put B4 (cs' := stC ({ k := 5, a := a, th := th }, .slice ta th.length tc, nilS)) ⟨s5.kp, s5.sz, s5.blk⟩ rfl
  clear g4 l4 B4 g3 B3 g2 B2 n2 s3
  have hi4 : 1 ≤ s4.i := by unfold Up at u4; omega
  (repeat (first | refine k_nil ?_ | refine k_n ?_ | refine k_r ?_ | refine k_x ?_ | refine b_n ?_ | refine b_r ?_ | refine b_y rfl ?_ | refine b_z rfl ?_ | refine l_r ?_ | refine l_x ?_ | refine k_seq ?_ | refine k_blk ?_ | refine k_reg ?_ | refine k_ret ?_ | refine k_exit ?_ | refine k_skip ?_ | refine Zs ?_))
  refine s_bs (cs := [.string (Tk.strOf wElse)]) (e := 9) rfl (fun b6 w6 n6 => ?_)
  have g6 := g5.no n6.kp
  have B6 := B5.no n6.kp
  have l6 := l5.no n6.kp
  refine s_call (us := []) (zs := []) (by kernel_rfl) rfl rfl (take1 g6.at_ ok (Tk.strOf wElse) (by rw [ee]; decide) n6.blk) ?_
  rw [ee]
  refine fun v w7 hv => ?_
  have hcut : ∃ q : Bool, ∃ x : ByteArray, v = .string x ∧ (x.toList == (⟨#[]⟩ : ByteArray).toList) = !q ∧ (q = true → Sy.wd X.E s4 = wElse ∧ Sg X w V w7 (adv s4) V4 ∧ Bx X w w7 V4 b (stC ({ k := 5, a := a, th := th }, .slice ta th.length tc, nilS)) 39 ∧ Ls w w7 V4 3 (.slice ta th.length tc) th.length (th.map (Value.int .i64))) ∧
      (q = false → Sy.wd X.E s4 ≠ wElse ∧ Sg X w V w7 s4 V4 ∧ Bx X w w7 V4 b (stC ({ k := 5, a := a, th := th }, .slice ta th.length tc, nilS)) 39 ∧ Ls w w7 V4 3 (.slice ta th.length tc) th.length (th.map (Value.int .i64))) := by
    rcases hv with ⟨y, ⟨rfl, q7, hz, g7⟩ | ⟨rfl, q7, hz, k7⟩⟩
    · exact ⟨true, y, rfl, hz, fun _ => ⟨q7, g6.call g7, B6.gs g7.gs, l6.gs g6.at_ g7.gs rfl⟩, (fun e => by cases e)⟩
    · exact ⟨false, y, rfl, hz, (fun e => by cases e), fun _ => ⟨q7, g6.no k7, B6.no k7, l6.no k7⟩⟩
  clear hv
  obtain ⟨q, y, rfl, hz, hy, hn⟩ := hcut
  clear g6 B6 l6 n6 g5 B5 l5 s5
  (repeat (first | refine k_nil ?_ | refine k_n ?_ | refine k_r ?_ | refine k_x ?_ | refine b_n ?_ | refine b_r ?_ | refine b_y rfl ?_ | refine b_z rfl ?_ | refine l_r ?_ | refine l_x ?_ | refine k_seq ?_ | refine k_blk ?_ | refine k_reg ?_ | refine k_ret ?_ | refine k_exit ?_ | refine k_skip ?_ | refine Zs ?_))
  refine k_cutc (σ := BrS) (fun x => [(0, ptr X), (1, .int .i64 fr), (7, .pointer (some ⟨b, 0, none⟩))])
    (fun x w' => add X.E fr { k := 5, a := a, th := th, el := x.el } x.s = R ∧ Sg X w V w' x.s x.V ∧ Bx X w w' x.V b (stC ({ k := 5, a := a, th := th, el := x.el }, .slice ta th.length tc, x.mv)) 39 ∧ Ls w w' x.V 3 (.slice ta th.length tc) th.length (th.map (Value.int .i64)) ∧ LI w' x.mv x.el ∧
      (∀ g, x.mv.ownBlock = some g → w.heap.size ≤ g ∧ g < w'.heap.size) ∧ 1 ≤ x.s.i) ?_ ?_
  · refine c_b rfl (fun hb => ?_) (fun hb => ?_)
    · have hq : q = true := by
        have hb : (!(y.toList == (⟨#[]⟩ : ByteArray).toList)) = true := hb
        rw [hz] at hb; simpa using hb
      obtain ⟨q7, g7, B7, l7⟩ := hy hq
      rw [if_pos q7] at hR
      clear hn hy
      (repeat (first | refine k_nil ?_ | refine k_n ?_ | refine k_r ?_ | refine k_x ?_ | refine b_n ?_ | refine b_r ?_ | refine b_y rfl ?_ | refine b_z rfl ?_ | refine l_r ?_ | refine l_x ?_ | refine k_seq ?_ | refine k_blk ?_ | refine k_reg ?_ | refine k_ret ?_ | refine k_exit ?_ | refine k_skip ?_ | refine Zs ?_))
      refine s_bs (cs := [.string (Tk.strOf wIf)]) (e := 9) rfl (fun b8 w8 n8 => ?_)
      have g8 := g7.no n8.kp
      have B8 := B7.no n8.kp
      have l8 := l7.no n8.kp
      refine s_call (us := []) (zs := []) (by kernel_rfl) rfl rfl (is1 g8.at_ ok (Tk.strOf wIf) (by rw [ei]; decide) n8.blk) ?_
      rw [ei]
      rintro _ w9 ⟨rfl, k9⟩
      have g9 := g8.no k9
      have B9 := B8.no k9
      have l9 := l8.no k9
      clear g8 B8 l8 n8 k9
      (repeat (first | refine k_nil ?_ | refine k_n ?_ | refine k_r ?_ | refine k_x ?_ | refine b_n ?_ | refine b_r ?_ | refine b_y rfl ?_ | refine b_z rfl ?_ | refine l_r ?_ | refine l_x ?_ | refine k_seq ?_ | refine k_blk ?_ | refine k_reg ?_ | refine k_ret ?_ | refine k_exit ?_ | refine k_skip ?_ | refine Zs ?_))
      refine c_dec rfl (fun q9 => ?_) (fun q9 => ?_)
      · rw [if_pos q9] at hR
        (repeat (first | refine k_nil ?_ | refine k_n ?_ | refine k_r ?_ | refine k_x ?_ | refine b_n ?_ | refine b_r ?_ | refine b_y rfl ?_ | refine b_z rfl ?_ | refine l_r ?_ | refine l_x ?_ | refine k_seq ?_ | refine k_blk ?_ | refine k_reg ?_ | refine k_ret ?_ | refine k_exit ?_ | refine k_skip ?_ | refine Zs ?_))
        refine s_callP (us := []) (zs := []) (by kernel_rfl) rfl rfl (deepF g9.at_ ok (d + 1) (bind_ne (show _ ≠ _ by rw [hR]; exact hr))) (erP.up g9 hR.symm) ?_
        rintro _ w10 ⟨_, s10, V10, e10, rfl, g10⟩
        have hd' := deep_le e10
        have e10' := deep_up e10
        subst e10'
        rw [e10, bind_ok] at hR
        have B10 := B9.gs g10.gs
        have l10 := l9.gs g9.at_ g10.gs rfl
        have g10 := g9.call g10
        (repeat (first | refine k_nil ?_ | refine k_n ?_ | refine k_r ?_ | refine k_x ?_ | refine b_n ?_ | refine b_r ?_ | refine b_y rfl ?_ | refine b_z rfl ?_ | refine l_r ?_ | refine l_x ?_ | refine k_seq ?_ | refine k_blk ?_ | refine k_reg ?_ | refine k_ret ?_ | refine k_exit ?_ | refine k_skip ?_ | refine Zs ?_))
        refine s_call (us := []) (zs := []) (by kernel_rfl) rfl rfl (hereF g10.at_ ok) ?_
        rintro _ w11 ⟨rfl, k11⟩
        have g11 := g10.no k11
        have B11 := B10.no k11
        have l11 := l10.no k11
        (repeat (first | refine k_nil ?_ | refine k_n ?_ | refine k_r ?_ | refine k_x ?_ | refine b_n ?_ | refine b_r ?_ | refine b_y rfl ?_ | refine b_z rfl ?_ | refine l_r ?_ | refine l_x ?_ | refine k_seq ?_ | refine k_blk ?_ | refine k_reg ?_ | refine k_ret ?_ | refine k_exit ?_ | refine k_skip ?_ | refine Zs ?_))
        refine s_callP (us := []) (zs := []) (by kernel_rfl) rfl rfl (wantF g11.at_ ok (Tk.strOf wIf) (by rw [ei]; decide) (by rw [ei]; exact want_no)) ?_ ?_
        · rw [ei]
          rintro c w12 ⟨k, p, e, _⟩
          unfold want at e
          rw [if_pos q9] at e
          cases e
        rw [ei]
        rintro _ w12 ⟨_, s12, V12, e12, rfl, g12⟩
        have e12' : s12 = adv (adv s4) := by
          unfold want at e12
          rw [if_pos q9] at e12
          cases e12; rfl
        subst e12'
        have B12 := B11.gs g12.gs
        have l12 := l11.gs g11.at_ g12.gs rfl
        have g12 := g11.call g12
        clear e12 g11 B11 l11 g10 B10 l10 g9 B9 l9 g7 B7 l7
        (repeat (first | refine k_nil ?_ | refine k_n ?_ | refine k_r ?_ | refine k_x ?_ | refine b_n ?_ | refine b_r ?_ | refine b_y rfl ?_ | refine b_z rfl ?_ | refine l_r ?_ | refine l_x ?_ | refine k_seq ?_ | refine k_blk ?_ | refine k_reg ?_ | refine k_ret ?_ | refine k_exit ?_ | refine k_skip ?_ | refine Zs ?_))
        refine s_callP (us := []) (zs := []) (by kernel_rfl) rfl rfl (hL.branch (Sy.hr X.E (adv s4)) (d + 1) _ V12 w12 (by omega) g12.at_ (bind_ne (show _ ≠ _ by rw [hR]; exact hr))) (erP.up g12 hR.symm) ?_
        rintro _ w13 ⟨x, s13, V13, e13, rfl, g13⟩
        have u13 := hB.branch _ _ _ _ _ e13
        rw [e13, bind_ok] at hR
        have B13 := B12.gs g13.gs
        have l13 := l12.gs g12.at_ g13.gs rfl
        have g13 := g12.call g13
        refine s_bs (cs := [.int .i64 x]) (e := 3) rfl (fun b14 w14 n14 => ?_)
        have g14 := g13.no n14.kp
        have B14 := B13.no n14.kp
        have l14 := l13.no n14.kp
        have o14 : LI w14 (.slice (some ⟨b14, 0, none⟩) 1 1) [x] := own_new n14 (show 1 ≤ maxLen by decide)
        (repeat (first | refine k_nil ?_ | refine k_n ?_ | refine k_r ?_ | refine k_x ?_ | refine b_n ?_ | refine b_r ?_ | refine b_y rfl ?_ | refine b_z rfl ?_ | refine l_r ?_ | refine l_x ?_ | refine k_seq ?_ | refine k_blk ?_ | refine k_reg ?_ | refine k_ret ?_ | refine k_exit ?_ | refine k_skip ?_ | refine Zs ?_))
        refine s_st (vs := [.slice (some ⟨b14, 0, none⟩) 1 1]) rfl rfl rfl rfl rfl B14.blk (Nat.le_of_ble_eq_true rfl) (fun w15 s15 => ?_)
        have hk : ∀ {v : Value} {n : Nat} {cs : List Value}, w14.ownsRow 0 3 1 v n cs → w15.ownsRow 0 3 1 v n cs := fun ho => own_kp ho s15.kp fun g hg e => by
          obtain ⟨c, hc⟩ := own_ty ho hg
          exact ty_ne hc B14.blk rfl e
        obtain ⟨g15, B15⟩ := g14.put B14 (cs' := stC ({ k := 5, a := a, th := th, el := [x] }, .slice ta th.length tc, .slice (some ⟨b14, 0, none⟩) 1 1)) ⟨s15.kp, s15.sz, s15.blk⟩ rfl
        (repeat (first | refine k_nil ?_ | refine k_n ?_ | refine k_r ?_ | refine k_x ?_ | refine b_n ?_ | refine b_r ?_ | refine b_y rfl ?_ | refine b_z rfl ?_ | refine l_r ?_ | refine l_x ?_ | refine k_seq ?_ | refine k_blk ?_ | refine k_reg ?_ | refine k_ret ?_ | refine k_exit ?_ | refine k_skip ?_ | refine Zs ?_))
        refine l_cut ⟨[x], .slice (some ⟨b14, 0, none⟩) 1 1, s13, V13⟩ ⟨rfl, rfl, rfl, trivial⟩ ⟨hR, g15, B15, ⟨hk l14.own, l14.nw⟩, hk o14, fun g hg => ?_, by unfold Up at u13; simp only; omega⟩
        have hg : some b14 = some g := hg
        cases hg
        have := n14.ge; have := n14.lt; have := s15.sz; have := g13.size
        exact ⟨by omega, by omega⟩
      · rw [if_neg q9] at hR
        (repeat (first | refine k_nil ?_ | refine k_n ?_ | refine k_r ?_ | refine k_x ?_ | refine b_n ?_ | refine b_r ?_ | refine b_y rfl ?_ | refine b_z rfl ?_ | refine l_r ?_ | refine l_x ?_ | refine k_seq ?_ | refine k_blk ?_ | refine k_reg ?_ | refine k_ret ?_ | refine k_exit ?_ | refine k_skip ?_ | refine Zs ?_))
        refine s_callP (us := []) (zs := []) (by kernel_rfl) rfl rfl (hK (d + 1) _ V4 w9 (by omega) g9.at_ (bind_ne (show _ ≠ _ by rw [hR]; exact hr))) (erP.up g9 hR.symm) ?_
        rintro _ w10 ⟨el, s10, V10, e10, g10, m10⟩
        have u10 := block_up hB e10
        rw [e10, bind_ok] at hR
        have B10 := B9.gs g10.gs
        have l10 := l9.gs g9.at_ g10.gs rfl
        have hw9 := g9.size
        have g10 := g9.call g10
        obtain ⟨ma, mc, e, _⟩ := own_read m10.own
        subst e
        (repeat (first | refine k_nil ?_ | refine k_n ?_ | refine k_r ?_ | refine k_x ?_ | refine b_n ?_ | refine b_r ?_ | refine b_y rfl ?_ | refine b_z rfl ?_ | refine l_r ?_ | refine l_x ?_ | refine k_seq ?_ | refine k_blk ?_ | refine k_reg ?_ | refine k_ret ?_ | refine k_exit ?_ | refine k_skip ?_ | refine Zs ?_))
        refine s_st (vs := [.slice ma el.length mc]) rfl rfl rfl rfl rfl B10.blk (Nat.le_of_ble_eq_true rfl) (fun w15 s15 => ?_)
        have hk : ∀ {v : Value} {n : Nat} {cs : List Value}, w10.ownsRow 0 3 1 v n cs → w15.ownsRow 0 3 1 v n cs := fun ho => own_kp ho s15.kp fun g hg e => by
          obtain ⟨c, hc⟩ := own_ty ho hg
          exact ty_ne hc B10.blk rfl e
        obtain ⟨g15, B15⟩ := g10.put B10 (cs' := stC ({ k := 5, a := a, th := th, el := el }, .slice ta th.length tc, .slice ma el.length mc)) ⟨s15.kp, s15.sz, s15.blk⟩ rfl
        (repeat (first | refine k_nil ?_ | refine k_n ?_ | refine k_r ?_ | refine k_x ?_ | refine b_n ?_ | refine b_r ?_ | refine b_y rfl ?_ | refine b_z rfl ?_ | refine l_r ?_ | refine l_x ?_ | refine k_seq ?_ | refine k_blk ?_ | refine k_reg ?_ | refine k_ret ?_ | refine k_exit ?_ | refine k_skip ?_ | refine Zs ?_))
        refine l_cut ⟨el, .slice ma el.length mc, s10, V10⟩ ⟨rfl, rfl, rfl, trivial⟩ ⟨hR, g15, B15, ⟨hk l10.own, l10.nw⟩, hk m10.own, fun g hg => ?_, by unfold Up at u10; simp only; omega⟩
        have := m10.rng g hg; have := s15.sz
        exact ⟨by omega, by omega⟩
    · have hq : q = false := by
        have hb : (!(y.toList == (⟨#[]⟩ : ByteArray).toList)) = false := hb
        rw [hz] at hb; simpa using hb
      obtain ⟨q7, g7, B7, l7⟩ := hn hq
      rw [if_neg q7] at hR
      (repeat (first | refine k_nil ?_ | refine k_n ?_ | refine k_r ?_ | refine k_x ?_ | refine b_n ?_ | refine b_r ?_ | refine b_y rfl ?_ | refine b_z rfl ?_ | refine l_r ?_ | refine l_x ?_ | refine k_seq ?_ | refine k_blk ?_ | refine k_reg ?_ | refine k_ret ?_ | refine k_exit ?_ | refine k_skip ?_ | refine Zs ?_))
      exact l_cut ⟨[], nilS, s4, V4⟩ ⟨rfl, rfl, rfl, trivial⟩ ⟨hR, g7, B7, l7, LI.nil, fun g hg => (by cases hg), hi4⟩
  · rintro ⟨el, mv, s8, V8⟩ lr8 w8 ⟨hR8, g8, B8, l8, m8, hm8, hi8⟩
    simp only at hR8 g8 B8 l8 m8 hm8 hi8
    clear hR hy hn
    obtain ⟨ma, mc, rfl⟩ := m8.val
    (repeat (first | refine k_nil ?_ | refine k_n ?_ | refine k_r ?_ | refine k_x ?_ | refine b_n ?_ | refine b_r ?_ | refine b_y rfl ?_ | refine b_z rfl ?_ | refine l_r ?_ | refine l_x ?_ | refine k_seq ?_ | refine k_blk ?_ | refine k_reg ?_ | refine k_ret ?_ | refine k_exit ?_ | refine k_skip ?_ | refine Zs ?_))
    refine s_v (r_ldb (vs := stC ({ k := 5, a := a, th := th, el := el }, .slice ta th.length tc, .slice ma el.length mc)) rfl rfl rfl B8.blk rfl rfl) ?_
    have g9 := (g8.more' l8.rng).more' hm8
    refine s_callP (us := []) (zs := []) (by kernel_rfl) rfl rfl (addF g9.at_ ok fr { k := 5, a := a, th := th, el := el } (.slice ta th.length tc) (.slice ma el.length mc) l8.own m8 (fun g hg => .inl (.inr hg)) (fun g hg => .inr hg) hi8 add_no) (by rw [← hR8]; exact erP.up0 g9) ?_
    rintro _ w9 ⟨c, s9, V9, e9, rfl, g10⟩
    (repeat (first | refine k_nil ?_ | refine k_n ?_ | refine k_r ?_ | refine k_x ?_ | refine b_n ?_ | refine b_r ?_ | refine b_y rfl ?_ | refine b_z rfl ?_ | refine l_r ?_ | refine l_x ?_ | refine k_seq ?_ | refine k_blk ?_ | refine k_reg ?_ | refine k_ret ?_ | refine k_exit ?_ | refine k_skip ?_ | refine Zs ?_))
    exact retP_1 rfl rfl ⟨c, s9, V9, by rw [← hR8, e9], rfl, g9.call g10⟩
end
end Go.Proofs.YtgnkdeapifbgeaaDoor.Sy
