/- The parser takes a function. -/
import Derived.Test.YtgnkdeapifbgeaaDoorGr
namespace Go.Proofs.YtgnkdeapifbgeaaDoor.Sy
open Go Go.RowKit Fw
set_option linter.unusedVariables false
set_option maxRecDepth 20000
/-- Parameters that were taken. -/
structure PrmS where
  m : Nat
  l : List (List Int)
  lv : Value
  s : PS
  V : VS
theorem snoc_sv {l : List (List Int)} {a : List Int} : l.map sv ++ [sv a] = (l ++ [a]).map sv := by simp
section
variable {X : Cx} {n : Nat}
def FctD (X : Cx) (n : Nat) : Prop := ∀ s V w, At X w s V → fct X.E n s ≠ .out →
  RetP Tryd.prog 19 [ptr X] w (fun v w' => ∃ s' V', fct X.E n s = .ok () s' ∧ Sg X w V w' s' V') (erP X w V (fct X.E n s))
set_option maxHeartbeats 1000000 in
theorem functionF (ok : Ok X) : FctD X n := by
  intro s V w h hr
  have hW : ∀ m, m ≤ n → Wk X (lv X.E m) := fun m _ => wk_lv ok m
  have hK := blockF ok hW
  have ef : B (Tk.strOf wFunc) = wFunc := B_of (by decide)
  have el : B (Tk.strOf wLpar) = wLpar := B_of (by decide)
  have er : B (Tk.strOf wRpar) = wRpar := B_of (by decide)
  have ec : B (Tk.strOf wComma) = wComma := B_of (by decide)
  have ei : B (Tk.strOf wInt) = wInt := B_of (by decide)
  have hbig := ok.big
  obtain ⟨R, hR⟩ : ∃ R, fct X.E n s = R := ⟨_, rfl⟩
  rw [hR] at hr ⊢
  unfold fct at hR
  refine retP_enter Tryd.func19 rfl Tryd.ntmps19 rfl ?_
  (repeat (first | refine k_nil ?_ | refine k_n ?_ | refine k_r ?_ | refine k_x ?_ | refine b_n ?_ | refine b_r ?_ | refine b_y rfl ?_ | refine b_z rfl ?_ | refine l_r ?_ | refine l_x ?_ | refine k_seq ?_ | refine k_blk ?_ | refine k_reg ?_ | refine k_ret ?_ | refine k_exit ?_ | refine k_skip ?_ | refine Zs ?_))
  refine s_call (us := []) (zs := []) (by kernel_rfl) rfl rfl (hereF h ok) ?_
  rintro _ w1 ⟨rfl, k1⟩
  have g1 := (Sg.start h).no k1
  (repeat (first | refine k_nil ?_ | refine k_n ?_ | refine k_r ?_ | refine k_x ?_ | refine b_n ?_ | refine b_r ?_ | refine b_y rfl ?_ | refine b_z rfl ?_ | refine l_r ?_ | refine l_x ?_ | refine k_seq ?_ | refine k_blk ?_ | refine k_reg ?_ | refine k_ret ?_ | refine k_exit ?_ | refine k_skip ?_ | refine Zs ?_))
  refine s_bs (cs := [.string (Tk.strOf wFunc)]) (e := 9) rfl (fun b2 w2 n2 => ?_)
  have g2 := g1.no n2.kp
  refine s_call (us := []) (zs := []) (by kernel_rfl) rfl rfl (is1 g2.at_ ok (Tk.strOf wFunc) (by rw [ef]; decide) n2.blk) ?_
  rw [ef]
  rintro _ w3 ⟨rfl, k3⟩
  have g3 := g2.no k3
  have hfl := h.fl
  rcases (Decidable.em (Sy.wd X.E s = wFunc)).symm with q | q
  · refine s_set 8 false rfl (decide_eq_false q) ?_
    (repeat (first | refine k_nil ?_ | refine k_n ?_ | refine k_r ?_ | refine k_x ?_ | refine b_n ?_ | refine b_r ?_ | refine b_y rfl ?_ | refine b_z rfl ?_ | refine l_r ?_ | refine l_x ?_ | refine k_seq ?_ | refine k_blk ?_ | refine k_reg ?_ | refine k_ret ?_ | refine k_exit ?_ | refine k_skip ?_ | refine Zs ?_ | refine Zn ?_ | refine Zu ?_ | refine Zg ?_))
    refine c_f rfl ?_
    (repeat (first | refine k_nil ?_ | refine k_n ?_ | refine k_r ?_ | refine k_x ?_ | refine b_n ?_ | refine b_r ?_ | refine b_y rfl ?_ | refine b_z rfl ?_ | refine l_r ?_ | refine l_x ?_ | refine k_seq ?_ | refine k_blk ?_ | refine k_reg ?_ | refine k_ret ?_ | refine k_exit ?_ | refine k_skip ?_ | refine Zs ?_))
    rw [if_neg (fun e => q e.1), bind_ok] at hR
    refine s_callP (us := []) (zs := []) (by kernel_rfl) rfl rfl (wantF g3.at_ ok (Tk.strOf wFunc) (by rw [ef]; decide) (by rw [ef]; exact want_no)) (by rw [ef]; exact erP.up g3 hR.symm) ?_
    rw [ef]
    rintro _ w4 ⟨_, s4, V4, e4, _, _⟩
    unfold want at e4
    rw [if_neg q] at e4
    cases e4
  refine s_set 8 true rfl (decide_eq_true q) ?_
  (repeat (first | refine k_nil ?_ | refine k_n ?_ | refine k_r ?_ | refine k_x ?_ | refine b_n ?_ | refine b_r ?_ | refine b_y rfl ?_ | refine b_z rfl ?_ | refine l_r ?_ | refine l_x ?_ | refine k_seq ?_ | refine k_blk ?_ | refine k_reg ?_ | refine k_ret ?_ | refine k_exit ?_ | refine k_skip ?_ | refine Zs ?_ | refine Zn ?_ | refine Zu ?_ | refine Zg ?_))
  refine s_gcall (us := []) (zs := []) rfl (by kernel_rfl) rfl rfl (lenF g3.at_) ?_
  rintro _ w3' ⟨rfl, rfl⟩
  (repeat (first | refine k_nil ?_ | refine k_n ?_ | refine k_r ?_ | refine k_x ?_ | refine b_n ?_ | refine b_r ?_ | refine b_y rfl ?_ | refine b_z rfl ?_ | refine l_r ?_ | refine l_x ?_ | refine k_seq ?_ | refine k_blk ?_ | refine k_reg ?_ | refine k_ret ?_ | refine k_exit ?_ | refine k_skip ?_ | refine Zs ?_ | refine Zn ?_ | refine Zu ?_ | refine Zg ?_))
  refine c_dec rfl (fun q3 => ?_) (fun q3 => ?_)
  · rw [if_pos ⟨q, by omega⟩] at hR
    (repeat (first | refine k_nil ?_ | refine k_n ?_ | refine k_r ?_ | refine k_x ?_ | refine b_n ?_ | refine b_r ?_ | refine b_y rfl ?_ | refine b_z rfl ?_ | refine l_r ?_ | refine l_x ?_ | refine k_seq ?_ | refine k_blk ?_ | refine k_reg ?_ | refine k_ret ?_ | refine k_exit ?_ | refine k_skip ?_ | refine Zs ?_))
    refine s_callX (us := []) (zs := []) (by kernel_rfl) rfl rfl (failF g3.at_ ok 5) ?_
    rintro c w4 ⟨rfl, k4⟩
    exact ⟨5, Sy.hr X.E s, hR.symm, rfl, g3.gs.kp.no k4⟩
  have hl32 : s.fn.length < 32 := by omega
  rw [if_neg (fun e => by omega), bind_ok] at hR
  (repeat (first | refine k_nil ?_ | refine k_n ?_ | refine k_r ?_ | refine k_x ?_ | refine b_n ?_ | refine b_r ?_ | refine b_y rfl ?_ | refine b_z rfl ?_ | refine l_r ?_ | refine l_x ?_ | refine k_seq ?_ | refine k_blk ?_ | refine k_reg ?_ | refine k_ret ?_ | refine k_exit ?_ | refine k_skip ?_ | refine Zs ?_))
  refine s_callP (us := []) (zs := []) (by kernel_rfl) rfl rfl (wantF g3.at_ ok (Tk.strOf wFunc) (by rw [ef]; decide) (by rw [ef]; exact want_no)) (by rw [ef]; exact erP.up g3 hR.symm) ?_
  rw [ef]
  rintro _ w4 ⟨_, s4, V4, e4, rfl, g4⟩
  have e4' : s4 = Sy.adv s := by
    unfold want at e4
    rw [if_pos q] at e4
    cases e4; rfl
  subst e4'
  rw [e4, bind_ok] at hR
  have g4 := g3.call g4
  clear g3 g2 g1 n2 k3 k1 e4
  (repeat (first | refine k_nil ?_ | refine k_n ?_ | refine k_r ?_ | refine k_x ?_ | refine b_n ?_ | refine b_r ?_ | refine b_y rfl ?_ | refine b_z rfl ?_ | refine l_r ?_ | refine l_x ?_ | refine k_seq ?_ | refine k_blk ?_ | refine k_reg ?_ | refine k_ret ?_ | refine k_exit ?_ | refine k_skip ?_ | refine Zs ?_))
  refine s_callP (us := []) (zs := []) (by kernel_rfl) rfl rfl (kindF g4.at_ ok 1 (by decide) (bind_ne (show _ ≠ _ by rw [hR]; exact hr))) (erP.up g4 hR.symm) ?_
  rintro _ w5 ⟨nm, s5, V5, e5, rfl, g5⟩
  rw [e5, bind_ok] at hR
  have g5 := g4.call g5
  (repeat (first | refine k_nil ?_ | refine k_n ?_ | refine k_r ?_ | refine k_x ?_ | refine b_n ?_ | refine b_r ?_ | refine b_y rfl ?_ | refine b_z rfl ?_ | refine l_r ?_ | refine l_x ?_ | refine k_seq ?_ | refine k_blk ?_ | refine k_reg ?_ | refine k_ret ?_ | refine k_exit ?_ | refine k_skip ?_ | refine Zs ?_))
  refine s_al rfl (fun b w6 n6 => ?_)
  have B6 := Bx.new (w0 := w) g5.at_ g5.size n6
  have g6 := g5.no n6.kp
  refine s_st (vs := fnC ({ nm := nm }, nilS, nilS)) rfl rfl rfl rfl rfl B6.blk (Nat.le_of_ble_eq_true rfl) (fun w7 s7 => ?_)
  obtain ⟨g7, B7⟩ := g6.put B6 (cs' := fnC ({ nm := nm }, nilS, nilS)) ⟨s7.kp, s7.sz, s7.blk⟩ rfl
  (repeat (first | refine k_nil ?_ | refine k_n ?_ | refine k_r ?_ | refine k_x ?_ | refine b_n ?_ | refine b_r ?_ | refine b_y rfl ?_ | refine b_z rfl ?_ | refine l_r ?_ | refine l_x ?_ | refine k_seq ?_ | refine k_blk ?_ | refine k_reg ?_ | refine k_ret ?_ | refine k_exit ?_ | refine k_skip ?_ | refine Zs ?_))
  refine s_callP (us := []) (zs := []) (by kernel_rfl) rfl rfl (wantF g7.at_ ok (Tk.strOf wLpar) (by rw [el]; decide) (by rw [el]; exact want_no)) (by rw [el]; exact erP.up g7 hR.symm) ?_
  rw [el]
  rintro _ w8 ⟨_, s8, V8, e8, rfl, g8⟩
  rw [e8, bind_ok] at hR
  have B8 := B7.gs g8.gs
  have g8 := g7.call g8
  clear g7 B7 g6 B6 n6 s7 g5 g4
  refine k_nil ?_
  refine k_n ?_
  refine k_seq ?_
  refine k_blk ?_
  have fu5 := (knd_up e5).trans (want_up e8)
  have hfn8 : s8.fn.length = s.fn.length := congrArg List.length fu5.2.2.1
  refine k_loop (σ := PrmS) (fun x => [(0, ptr X), (2, .int .i64 (Sy.hr X.E s)), (3, .pointer (some ⟨b, 0, none⟩))])
    (fun x w' => (∃ G, (prms X.E x.m x.l x.s).bind G = R ∧ G = (fun ps s4 => (if Sy.wd X.E s4 = wInt then Rs.ok (1 : Int) (Sy.adv s4) else .ok 4 s4).bind fun ty s5 => (block X.E (lv X.E n) 1 s5).bind fun bd s6 =>
      .ok () { s6 with fn := s6.fn ++ [{ nm := nm, f := Sy.hr X.E s, e := pe X.E s6, ps := ps, ty := ty, bd := bd }] })) ∧ Sg X w V w' x.s x.V ∧ Bx X w w' x.V b (fnC ({ nm := nm }, x.lv, nilS)) 43 ∧ Ls w w' x.V 9 x.lv x.l.length (x.l.map sv) ∧ x.l.length ≤ x.s.i ∧ x.s.fn.length = s.fn.length) (fun x => x.m) ⟨n, [], nilS, s8, V8⟩ ⟨rfl, rfl, rfl, trivial⟩ ⟨⟨_, hR, rfl⟩, g8, B8, Ls.nil, Nat.zero_le _, hfn8⟩ ?_
  rintro ⟨m, l, lv', s9, V9⟩ lr9 w9 ⟨⟨G, hR9, hG⟩, g9, B9, l9, hl9, hn9⟩
  simp only at hR9 g9 B9 l9 hl9 hn9
  clear hR g8 B8 e8 hfn8 fu5
  cases m with
  | zero => exact (hr (by rw [← hR9]; rfl)).elim
  | succ m =>
  unfold prms at hR9
  obtain ⟨la, lc, e, _⟩ := own_read l9.own
  subst e
  (repeat (first | refine k_nil ?_ | refine k_n ?_ | refine k_r ?_ | refine k_x ?_ | refine b_n ?_ | refine b_r ?_ | refine b_y rfl ?_ | refine b_z rfl ?_ | refine l_r ?_ | refine l_x ?_ | refine k_seq ?_ | refine k_blk ?_ | refine k_reg ?_ | refine k_ret ?_ | refine k_exit ?_ | refine k_skip ?_ | refine Zs ?_))
  refine s_bs (cs := [.string (Tk.strOf wRpar)]) (e := 9) rfl (fun b10 w10 n10 => ?_)
  have g10 := g9.no n10.kp
  have B10 := B9.no n10.kp
  have l10 := l9.no n10.kp
  refine s_call (us := []) (zs := []) (by kernel_rfl) rfl rfl (take1 g10.at_ ok (Tk.strOf wRpar) (by rw [er]; decide) n10.blk) ?_
  rw [er]
  rintro _ w11 ⟨y, ⟨rfl, q11, hz, g11⟩ | ⟨rfl, q11, hz, k11⟩⟩
  · rw [if_pos q11, bind_ok] at hR9
    have B11 := B10.gs g11.gs
    have l11 := l10.gs g10.at_ g11.gs rfl
    have g11 := g10.call g11
    clear g10 B10 l10 n10 g9 B9 l9
    subst hG
    simp only at hR9
    (repeat (first | refine k_nil ?_ | refine k_n ?_ | refine k_r ?_ | refine k_x ?_ | refine b_n ?_ | refine b_r ?_ | refine b_y rfl ?_ | refine b_z rfl ?_ | refine l_r ?_ | refine l_x ?_ | refine k_seq ?_ | refine k_blk ?_ | refine k_reg ?_ | refine k_ret ?_ | refine k_exit ?_ | refine k_skip ?_ | refine Zs ?_))
    refine c_b rfl (fun hb => (by rw [show _ = _ from hz] at hb; cases hb)) (fun hb => ?_)
    (repeat (first | refine k_nil ?_ | refine k_n ?_ | refine k_r ?_ | refine k_x ?_ | refine b_n ?_ | refine b_r ?_ | refine b_y rfl ?_ | refine b_z rfl ?_ | refine l_r ?_ | refine l_x ?_ | refine k_seq ?_ | refine k_blk ?_ | refine k_reg ?_ | refine k_ret ?_ | refine k_exit ?_ | refine k_skip ?_ | refine Zs ?_))
    refine s_bs (cs := [.string (Tk.strOf wInt)]) (e := 9) rfl (fun b12 w12 n12 => ?_)
    have g12 := g11.no n12.kp
    have B12 := B11.no n12.kp
    have l12 := l11.no n12.kp
    refine s_call (us := []) (zs := []) (by kernel_rfl) rfl rfl (take1 g12.at_ ok (Tk.strOf wInt) (by rw [ei]; decide) n12.blk) ?_
    rw [ei]
    refine fun v w13 hv => ?_
    have hcut : ∃ (z : ByteArray) (ty : Int) (s13 : PS), v = .string z ∧ (z.toList == (⟨#[]⟩ : ByteArray).toList) = (ty == 4) ∧ (ty = 1 ∨ ty = 4) ∧ (if Sy.wd X.E (Sy.adv s9) = wInt then Rs.ok (1 : Int) (Sy.adv (Sy.adv s9)) else .ok 4 (Sy.adv s9)) = .ok ty s13 ∧ (1 ≤ s13.i ∧ s13.fn = s9.fn) ∧ Sg X w V w13 s13 V9 ∧ Bx X w w13 V9 b (fnC ({ nm := nm }, .slice la l.length lc, nilS)) 43 ∧ Ls w w13 V9 9 (.slice la l.length lc) l.length (l.map sv) := by
      rcases hv with ⟨y, ⟨rfl, q7, hz, g7⟩ | ⟨rfl, q7, hz, k7⟩⟩
      · exact ⟨y, 1, Sy.adv (Sy.adv s9), rfl, hz, .inl rfl, by rw [if_pos q7], ⟨by show 1 ≤ s9.i + 1 + 1; omega, rfl⟩, g12.call g7, B12.gs g7.gs, l12.gs g12.at_ g7.gs rfl⟩
      · exact ⟨y, 4, Sy.adv s9, rfl, hz, .inr rfl, by rw [if_neg q7], ⟨by show 1 ≤ s9.i + 1; omega, rfl⟩, g12.no k7, B12.no k7, l12.no k7⟩
    clear hv g12 B12 l12 n12 g11 B11 l11
    obtain ⟨z, ty, s13, rfl, hz13, hty, e13, ⟨hi13, hn13⟩, g13, B13, l13⟩ := hcut
    rw [e13, bind_ok] at hR9
    (repeat (first | refine k_nil ?_ | refine k_n ?_ | refine k_r ?_ | refine k_x ?_ | refine b_n ?_ | refine b_r ?_ | refine b_y rfl ?_ | refine b_z rfl ?_ | refine l_r ?_ | refine l_x ?_ | refine k_seq ?_ | refine k_blk ?_ | refine k_reg ?_ | refine k_ret ?_ | refine k_exit ?_ | refine k_skip ?_ | refine Zs ?_))
    refine k_cutc (σ := Unit) (fun _ => [(0, ptr X), (2, .int .i64 (Sy.hr X.E s)), (3, .pointer (some ⟨b, 0, none⟩))])
      (fun _ w' => Sg X w V w' s13 V9 ∧ Bx X w w' V9 b (fnC ({ nm := nm, ty := ty }, .slice la l.length lc, nilS)) 43 ∧ Ls w w' V9 9 (.slice la l.length lc) l.length (l.map sv)) ?_ ?_
    · refine c_b rfl (fun hb => ?_) (fun hb => ?_)
      · have hb : (!(z.toList == (⟨#[]⟩ : ByteArray).toList)) = true := hb
        have ht : ty = 1 := by
          rcases hty with e | e
          · exact e
          · subst e; rw [hz13] at hb; cases hb
        subst ht
        (repeat (first | refine k_nil ?_ | refine k_n ?_ | refine k_r ?_ | refine k_x ?_ | refine b_n ?_ | refine b_r ?_ | refine b_y rfl ?_ | refine b_z rfl ?_ | refine l_r ?_ | refine l_x ?_ | refine k_seq ?_ | refine k_blk ?_ | refine k_reg ?_ | refine k_ret ?_ | refine k_exit ?_ | refine k_skip ?_ | refine Zs ?_))
        refine s_st (vs := [.int .i64 1]) rfl rfl rfl rfl rfl B13.blk (Nat.le_of_ble_eq_true rfl) (fun w14 s14 => ?_)
        have l14 : Ls w w14 V9 9 (.slice la l.length lc) l.length (l.map sv) := ⟨own_kp l13.own s14.kp fun g hg e => by
          obtain ⟨c, hc⟩ := own_ty l13.own hg
          exact ty_ne hc B13.blk rfl e, l13.nw⟩
        obtain ⟨g14, B14⟩ := g13.put B13 (cs' := fnC ({ nm := nm, ty := 1 }, .slice la l.length lc, nilS)) ⟨s14.kp, s14.sz, s14.blk⟩ rfl
        (repeat (first | refine k_nil ?_ | refine k_n ?_ | refine k_r ?_ | refine k_x ?_ | refine b_n ?_ | refine b_r ?_ | refine b_y rfl ?_ | refine b_z rfl ?_ | refine l_r ?_ | refine l_x ?_ | refine k_seq ?_ | refine k_blk ?_ | refine k_reg ?_ | refine k_ret ?_ | refine k_exit ?_ | refine k_skip ?_ | refine Zs ?_))
        exact l_cut () ⟨rfl, rfl, rfl, trivial⟩ ⟨g14, B14, l14⟩
      · have hb : (!(z.toList == (⟨#[]⟩ : ByteArray).toList)) = false := hb
        have ht : ty = 4 := by
          rcases hty with e | e
          · subst e; rw [hz13] at hb; cases hb
          · exact e
        subst ht
        (repeat (first | refine k_nil ?_ | refine k_n ?_ | refine k_r ?_ | refine k_x ?_ | refine b_n ?_ | refine b_r ?_ | refine b_y rfl ?_ | refine b_z rfl ?_ | refine l_r ?_ | refine l_x ?_ | refine k_seq ?_ | refine k_blk ?_ | refine k_reg ?_ | refine k_ret ?_ | refine k_exit ?_ | refine k_skip ?_ | refine Zs ?_))
        exact l_cut () ⟨rfl, rfl, rfl, trivial⟩ ⟨g13, B13, l13⟩
    rintro _ lr14 w14 ⟨g14, B14, l14⟩
    clear g13 B13 l13
    (repeat (first | refine k_nil ?_ | refine k_n ?_ | refine k_r ?_ | refine k_x ?_ | refine b_n ?_ | refine b_r ?_ | refine b_y rfl ?_ | refine b_z rfl ?_ | refine l_r ?_ | refine l_x ?_ | refine k_seq ?_ | refine k_blk ?_ | refine k_reg ?_ | refine k_ret ?_ | refine k_exit ?_ | refine k_skip ?_ | refine Zs ?_))
    refine s_callP (us := []) (zs := []) (by kernel_rfl) rfl rfl (hK 1 s13 V9 w14 (by omega) g14.at_ (bind_ne (show _ ≠ _ by rw [hR9]; exact hr))) (erP.up g14 hR9.symm) ?_
    rintro _ w15 ⟨bd, s15, V15, e15, g15, m15⟩
    have u15 := block_up (bd_lv n) e15
    rw [e15, bind_ok] at hR9
    have B15 := B14.gs g15.gs
    have l15 := l14.gs g14.at_ g15.gs rfl
    have m15 : Ls w w15 V15 3 _ bd.length (bd.map (Value.int .i64)) := ⟨m15.own, fun g hg => ⟨Nat.le_trans g14.size (m15.nw g hg).1, (m15.nw g hg).2⟩⟩
    have g15 := g14.call g15
    obtain ⟨ma, mc, e, _⟩ := own_read m15.own
    subst e
    (repeat (first | refine k_nil ?_ | refine k_n ?_ | refine k_r ?_ | refine k_x ?_ | refine b_n ?_ | refine b_r ?_ | refine b_y rfl ?_ | refine b_z rfl ?_ | refine l_r ?_ | refine l_x ?_ | refine k_seq ?_ | refine k_blk ?_ | refine k_reg ?_ | refine k_ret ?_ | refine k_exit ?_ | refine k_skip ?_ | refine Zs ?_))
    refine s_st (vs := [.slice ma bd.length mc]) rfl rfl rfl rfl rfl B15.blk (Nat.le_of_ble_eq_true rfl) (fun w16 s16 => ?_)
    have l16 : Ls w w16 V15 9 (.slice la l.length lc) l.length (l.map sv) := ⟨own_kp l15.own s16.kp fun g hg e => by
      obtain ⟨c, hc⟩ := own_ty l15.own hg
      exact ty_ne hc B15.blk rfl e, l15.nw⟩
    have m16 : Ls w w16 V15 3 (.slice ma bd.length mc) bd.length (bd.map (Value.int .i64)) := ⟨own_kp m15.own s16.kp fun g hg e => by
      obtain ⟨c, hc⟩ := own_ty m15.own hg
      exact ty_ne hc B15.blk rfl e, m15.nw⟩
    obtain ⟨g16, B16⟩ := g15.put B15 (cs' := fnC ({ nm := nm, ty := ty, ps := l, bd := bd }, .slice la l.length lc, .slice ma bd.length mc)) ⟨s16.kp, s16.sz, s16.blk⟩ rfl
    clear g15 B15 l15 m15 g14 B14 l14
    (repeat (first | refine k_nil ?_ | refine k_n ?_ | refine k_r ?_ | refine k_x ?_ | refine b_n ?_ | refine b_r ?_ | refine b_y rfl ?_ | refine b_z rfl ?_ | refine l_r ?_ | refine l_x ?_ | refine k_seq ?_ | refine k_blk ?_ | refine k_reg ?_ | refine k_ret ?_ | refine k_exit ?_ | refine k_skip ?_ | refine Zs ?_))
    refine s_call (us := []) (zs := []) (by kernel_rfl) rfl rfl (spanF g16.at_ ok (by unfold Up at u15; omega) (Sy.hr X.E s)) ?_
    rintro _ w17 ⟨rfl, k17⟩
    have g17 := g16.no k17
    have B17 := B16.no k17
    have l17 := l16.no k17
    have m17 := m16.no k17
    (repeat (first | refine k_nil ?_ | refine k_n ?_ | refine k_r ?_ | refine k_x ?_ | refine b_n ?_ | refine b_r ?_ | refine b_y rfl ?_ | refine b_z rfl ?_ | refine l_r ?_ | refine l_x ?_ | refine k_seq ?_ | refine k_blk ?_ | refine k_reg ?_ | refine k_ret ?_ | refine k_exit ?_ | refine k_skip ?_ | refine Zs ?_))
    refine s_st (vs := [.int .i64 (Sy.hr X.E s), .int .i64 (pe X.E s15)]) rfl rfl rfl rfl rfl B17.blk (Nat.le_of_ble_eq_true rfl) (fun w18 s18 => ?_)
    have l18 : Ls w w18 V15 9 (.slice la l.length lc) l.length (l.map sv) := ⟨own_kp l17.own s18.kp fun g hg e => by
      obtain ⟨c, hc⟩ := own_ty l17.own hg
      exact ty_ne hc B17.blk rfl e, l17.nw⟩
    have m18 : Ls w w18 V15 3 (.slice ma bd.length mc) bd.length (bd.map (Value.int .i64)) := ⟨own_kp m17.own s18.kp fun g hg e => by
      obtain ⟨c, hc⟩ := own_ty m17.own hg
      exact ty_ne hc B17.blk rfl e, m17.nw⟩
    obtain ⟨f, hf⟩ : ∃ f : Fn, f = { nm := nm, f := Sy.hr X.E s, e := pe X.E s15, ps := l, ty := ty, bd := bd } := ⟨_, rfl⟩
    obtain ⟨g18, B18⟩ := g17.put B17 (cs' := fnC (f, .slice la l.length lc, .slice ma bd.length mc)) ⟨s18.kp, s18.sz, by rw [hf]; exact s18.blk⟩ rfl
    clear g17 B17 l17 m17 g16 B16 l16 m16
    have g19 := (g18.more' l18.rng).more' m18.rng
    obtain ⟨V', hV'⟩ : ∃ V', V' = (V15.add (Value.slice la l.length lc).ownBlock).add (Value.slice ma bd.length mc).ownBlock := ⟨_, rfl⟩
    rw [← hV'] at g19
    have ow1 : Ow V' (.slice la l.length lc) := by rw [hV']; exact fun g hg => .inl (.inr hg)
    have ow2 : Ow V' (.slice ma bd.length mc) := by rw [hV']; exact fun g hg => .inr hg
    have B19 : Bx X w w18 V' b (fnC (f, .slice la l.length lc, .slice ma bd.length mc)) 43 := ⟨B18.ge, B18.blk, fun hs => B18.ns (by rw [hV'] at hs; exact hs)⟩
    have h3 := g19.at_
    obtain ⟨rx, a1, o1, l1⟩ := h3.fs
    have hb3 := h3.blk
    have hfl15 : s15.fn.length ≤ 32 := h3.fl
    clear B18 g18
    (repeat (first | refine k_nil ?_ | refine k_n ?_ | refine k_r ?_ | refine k_x ?_ | refine b_n ?_ | refine b_r ?_ | refine b_y rfl ?_ | refine b_z rfl ?_ | refine l_r ?_ | refine l_x ?_ | refine k_seq ?_ | refine k_blk ?_ | refine k_reg ?_ | refine k_ret ?_ | refine k_exit ?_ | refine k_skip ?_ | refine Zs ?_))
    refine k_h (fun w' => Kp (Sx X V') w18 w') [(0, false), (1, false), (2, false), (3, false), (4, true)] 5 (by kernel_rfl) (waits_none) (by kernel_rfl) (by kernel_rfl) (by kernel_rfl) rfl (fun w4 k4 q4 => ?_)
    have k4' : Kp (Sx X V') w18 w4 := k4.mono fun _ _ h => h.elim
    refine h_v k4' (fun w' hw => r_mv rfl) ?_
    refine h_v k4' (fun w' hw => r_nc rfl) ?_
    refine h_v k4' (fun w' hw => r_fa rfl rfl) ?_
    refine h_v k4' (fun w' hw => r_ldb (vs := fnC (f, .slice la l.length lc, .slice ma bd.length mc)) rfl rfl rfl (hw.get B19.blk B19.ns) rfl rfl) ?_
    have h4 := h3.no k4
    have o4 := own_kp o1 k4 fun _ _ h => h
    refine h_call (us := []) (zs := []) (by kernel_rfl) rfl rfl (arF X.p 5 [X.tv, X.wv, .int .i64 (s15.i : Int), V'.x, V'.s, V'.f] 64 V'.f s15.fn.length (rx.flatMap fnC) f la ma l.length lc bd.length mc w4 h4.blk rfl o4 (by omega) rfl) ?_
    rintro _ w5 ⟨rfl, v1, hb5, o5, k5, row5⟩
    have k5' : Kp (Sx X V') w4 w5 := k5.mono fun i _ e => e.elim .inl fun e => .inr (.inr (.inr e))
    have kk : Kp (Sx X V') w18 w5 := k4'.trans k5' fun _ _ h => h
    refine ⟨fun _ => kk, ?_⟩
    refine h_nil ?_
    have P : ∀ {base : Nat} {e : TypeId} {size : Nat} {v : Value} {n : Nat} {cs : List Value}, w4.ownsRow base e size v n cs → Nat.beq e 64 = false → Nat.beq e 43 = false → w5.ownsRow base e size v n cs := fun ho he he0 => own_put2 h4 o4 k5 ho he he0
    obtain ⟨rx', a1', o1', l1'⟩ := h4.xs
    obtain ⟨ry, a2, o2, l2⟩ := h4.ss
    have l1'' : ∀ r ∈ rx, (LS w5 r.2.1 r.1.ps ∧ Ow V' r.2.1) ∧ LI w5 r.2.2 r.1.bd ∧ Ow V' r.2.2 := fun r hr => ⟨⟨P (own_kp (l1 r hr).1.1 k4 fun _ _ h => h) rfl rfl, (l1 r hr).1.2⟩, P (own_kp (l1 r hr).2.1 k4 fun _ _ h => h) rfl rfl, (l1 r hr).2.2⟩
    have p1 : LS w5 (.slice la l.length lc) f.ps := by rw [hf]; exact P (own_kp l18.own k4 fun _ _ h => h) rfl rfl
    have p2 : LI w5 (.slice ma bd.length mc) f.bd := by rw [hf]; exact P (own_kp m18.own k4 fun _ _ h => h) rfl rfl
    have hlt := h4.lt
    (repeat (first | refine k_nil ?_ | refine k_n ?_ | refine k_r ?_ | refine k_x ?_ | refine b_n ?_ | refine b_r ?_ | refine b_y rfl ?_ | refine b_z rfl ?_ | refine l_r ?_ | refine l_x ?_ | refine k_seq ?_ | refine k_blk ?_ | refine k_reg ?_ | refine k_ret ?_ | refine k_exit ?_ | refine k_skip ?_ | refine Zs ?_))
    refine endP_0 rfl ⟨{ s15 with fn := s15.fn ++ [f] }, { V' with f := v1 }, by rw [hf]; exact hR9.symm, ⟨hb5, P h4.tk rfl rfl, P h4.wd rfl rfl,
      ⟨rx', a1', P o1' rfl rfl, fun r hr => ⟨P (l1' r hr).1 rfl rfl, (l1' r hr).2⟩⟩, ⟨ry, a2, P o2 rfl rfl, fun r hr => ⟨⟨P (l2 r hr).1.1 rfl rfl, (l2 r hr).1.2⟩, P (l2 r hr).2.1 rfl rfl, (l2 r hr).2.2⟩⟩,
      ⟨rx ++ [(f, .slice la l.length lc, .slice ma bd.length mc)], by simp [a1], ?_, ?_⟩, hlt, h4.xl, h4.sl, ?_, fun b hb => Nat.lt_of_lt_of_le (h4.ob b hb) k5.size⟩, ?_⟩
    · rw [List.flatMap_append]
      simpa using o5
    · intro r hr
      rcases List.mem_append.1 hr with hr | hr
      · exact l1'' r hr
      · rw [List.mem_singleton] at hr; subst hr; exact ⟨⟨p1, ow1⟩, p2, ow2⟩
    · have e1 := congrArg List.length u15.2.2.1
      rw [hn13] at e1
      rw [List.length_append, List.length_singleton]
      omega
    · refine (g19.gs.no k4).trans ⟨k5', fun b hb hs => ?_, fun b hb hs => hs⟩
      rcases hs with hs | hs | hs | hs
      · exact .inl hs
      · exact .inr (.inl hs)
      · exact .inr (.inr (.inl hs))
      · rcases row5 b hs with h | h
        · exact .inr (.inr (.inr h))
        · omega
  rw [if_neg q11] at hR9
  have B11 := B10.no k11
  have l11 := l10.no k11
  have g11 := g10.no k11
  clear g10 B10 l10 n10 g9 B9 l9
  have b11 : w11.heap[b]? = some (.cells [sv nm, .int .i64 0, .int .i64 0, .slice la l.length lc, .int .i64 4, nilS].toArray 43 (0, 0)) := B11.blk
  (repeat (first | refine k_nil ?_ | refine k_n ?_ | refine k_r ?_ | refine k_x ?_ | refine b_n ?_ | refine b_r ?_ | refine b_y rfl ?_ | refine b_z rfl ?_ | refine l_r ?_ | refine l_x ?_ | refine k_seq ?_ | refine k_blk ?_ | refine k_reg ?_ | refine k_ret ?_ | refine k_exit ?_ | refine k_skip ?_ | refine Zs ?_))
  refine c_b rfl (fun hb => ?_) (fun hb => (by rw [show _ = _ from hz] at hb; cases hb))
  (repeat (first | refine k_nil ?_ | refine k_n ?_ | refine k_r ?_ | refine k_x ?_ | refine b_n ?_ | refine b_r ?_ | refine b_y rfl ?_ | refine b_z rfl ?_ | refine l_r ?_ | refine l_x ?_ | refine k_seq ?_ | refine k_blk ?_ | refine k_reg ?_ | refine k_ret ?_ | refine k_exit ?_ | refine k_skip ?_ | refine Zs ?_))
  refine k_cutc (σ := PS × VS) (fun _ => [(0, ptr X), (2, .int .i64 (Sy.hr X.E s)), (3, .pointer (some ⟨b, 0, none⟩))])
    (fun x w' => (if l = [] then Rs.ok () s9 else want X.E wComma s9) = .ok () x.1 ∧ Sg X w V w' x.1 x.2 ∧ Bx X w w' x.2 b (fnC ({ nm := nm }, .slice la l.length lc, nilS)) 43 ∧ Ls w w' x.2 9 (.slice la l.length lc) l.length (l.map sv) ∧ l.length ≤ x.1.i ∧ x.1.fn.length = s.fn.length) ?_ ?_
  · refine c_dec rfl (fun q => ?_) (fun q => ?_)
    · have q : l ≠ [] := fun e => by rw [e] at q; simp at q
      rw [if_neg q] at hR9
      (repeat (first | refine k_nil ?_ | refine k_n ?_ | refine k_r ?_ | refine k_x ?_ | refine b_n ?_ | refine b_r ?_ | refine b_y rfl ?_ | refine b_z rfl ?_ | refine l_r ?_ | refine l_x ?_ | refine k_seq ?_ | refine k_blk ?_ | refine k_reg ?_ | refine k_ret ?_ | refine k_exit ?_ | refine k_skip ?_ | refine Zs ?_))
      refine s_callP (us := []) (zs := []) (by kernel_rfl) rfl rfl (wantF g11.at_ ok (Tk.strOf wComma) (by rw [ec]; decide) (by rw [ec]; exact want_no)) (by rw [ec]; exact erP.up g11 (r' := R) (by rw [← hR9]; cases want X.E wComma s9 <;> rfl)) ?_
      rw [ec]
      rintro _ w7 ⟨_, s7, V7, e7, rfl, g7⟩
      (repeat (first | refine k_nil ?_ | refine k_n ?_ | refine k_r ?_ | refine k_x ?_ | refine b_n ?_ | refine b_r ?_ | refine b_y rfl ?_ | refine b_z rfl ?_ | refine l_r ?_ | refine l_x ?_ | refine k_seq ?_ | refine k_blk ?_ | refine k_reg ?_ | refine k_ret ?_ | refine k_exit ?_ | refine k_skip ?_ | refine Zs ?_))
      exact l_cut (s7, V7) ⟨rfl, rfl, rfl, trivial⟩ ⟨by rw [if_neg q]; exact e7, g11.call g7, B11.gs g7.gs, l11.gs g11.at_ g7.gs rfl, Nat.le_trans hl9 (Nat.le_of_succ_le (want_up e7).1), by rw [(want_up e7).2.2.1]; exact hn9⟩
    · have q : l = [] := by
        cases l with
        | nil => rfl
        | cons a l => exact (q (by simp)).elim
      (repeat (first | refine k_nil ?_ | refine k_n ?_ | refine k_r ?_ | refine k_x ?_ | refine b_n ?_ | refine b_r ?_ | refine b_y rfl ?_ | refine b_z rfl ?_ | refine l_r ?_ | refine l_x ?_ | refine k_seq ?_ | refine k_blk ?_ | refine k_reg ?_ | refine k_ret ?_ | refine k_exit ?_ | refine k_skip ?_ | refine Zs ?_))
      exact l_cut (s9, V9) ⟨rfl, rfl, rfl, trivial⟩ ⟨by rw [if_pos q], g11, B11, l11, hl9, hn9⟩
  · rintro ⟨s7, V7⟩ lr7 w7 ⟨e7, g7, B7, l7, hl7, hn7⟩
    simp only at e7 g7 B7 l7 hl7 hn7
    rw [e7, bind_ok] at hR9
    clear g11 B11 l11 b11 k11 hz
    refine k_seq ?_
    have b7 : w7.heap[b]? = some (.cells [sv nm, .int .i64 0, .int .i64 0, .slice la l.length lc, .int .i64 4, nilS].toArray 43 (0, 0)) := B7.blk
    refine k_hP (fun w' => w'.heap[b]? = some (.cells [sv nm, .int .i64 0, .int .i64 0, .slice la l.length lc, .int .i64 4, nilS].toArray 43 (0, 0))) [(0, false), (1, false), (2, false), (3, true), (4, true), (5, true), (6, false), (7, true)] 7 (by kernel_rfl) (waits_of_last (by kernel_rfl)) (by kernel_rfl) (by kernel_rfl) (by kernel_rfl) rfl (fun w8 k8 q8 => ?_)
    have g8 := g7.no k8
    have B8 := B7.no k8
    have l8 := l7.no k8
    have b8 := k8.get0 b7
    refine v_v b8 (fun w' hw => r_fa rfl rfl) ?_
    refine v_v b8 (fun w' hw => r_ld rfl rfl (cell_of_blk hw rfl)) ?_
    refine v_v b8 (fun w' hw => r_mv rfl) ?_
    refine v_call (us := []) (zs := []) (by kernel_rfl) rfl rfl (kindF g8.at_ ok 1 (by decide) knd_no) ?_ ?_
    · rintro c w1 ⟨k, p, e, hc, hk⟩
      rw [e] at hR9
      exact ⟨k, p, hR9.symm, hc, g8.gs.kp.trans hk fun i hi hs => g8.gs.fr i hi hs⟩
    rintro _ w9' ⟨a, s9', V9', e9, rfl, g9⟩
    have u9 := knd_up e9
    rw [e9, bind_ok] at hR9
    have B9 := B8.gs g9.gs
    have l9 := l8.gs g8.at_ g9.gs rfl
    have g9 := g8.call g9
    refine ⟨fun _ => B9.blk, ?_⟩
    refine h_bs (cs := [sv a]) (e := 9) rfl (fun b10 w10 n10 => ?_)
    have g10 := g9.no n10.kp
    have B10 := B9.no n10.kp
    have l10 := l9.no n10.kp
    have hi9 := g9.at_.lt
    have hlen : l.length ≤ 20001 := by have := u9.1; omega
    refine ⟨fun _ => B10.blk, ?_⟩
    refine h_app (size := 1) (bytes := 16) (base := 0) (news := [sv a]) rfl rfl rfl rfl rfl rfl rfl rfl l10.own rfl (blk_cells n10.blk) rfl rfl (by omega) (by omega) (Nat.zero_le _) ?_
    intro v11 w11' ap
    obtain ⟨g11, l11⟩ := g10.lst h l10 ap rfl
    have hbl : ¬ some b = (Value.slice la l.length lc).ownBlock := fun e => by
      obtain ⟨c, hc⟩ := own_ty l10.own e.symm
      exact ty_ne hc B10.blk rfl rfl
    have B11 : Bx X w w11' V9' b (fnC ({ nm := nm }, .slice la l.length lc, nilS)) 43 := ⟨B10.ge, ap.kp.get B10.blk hbl, B10.ns⟩
    refine ⟨fun _ => B11.blk, ?_⟩
    refine h_v B11.blk (fun w' hw => r_fa rfl rfl) ?_
    obtain ⟨a1, c1, e1, _⟩ := own_read l11.own
    subst e1
    refine h_st (vs := [.slice a1 (l.length + 1) c1]) rfl rfl rfl rfl rfl B11.blk (Nat.le_of_ble_eq_true rfl) (fun w12 s12 => ⟨fun h => (h rfl).elim, ?_⟩)
    obtain ⟨g12, B12⟩ := g11.put B11 (cs' := fnC ({ nm := nm }, .slice a1 (l.length + 1) c1, nilS)) ⟨s12.kp, s12.sz, s12.blk⟩ rfl
    have l12 : Ls w w12 V9' 9 (.slice a1 (l.length + 1) c1) (l ++ [a]).length ((l ++ [a]).map sv) := by
      have : Ls w w12 V9' 9 (.slice a1 (l.length + 1) c1) (l.length + 1) (l.map sv ++ [sv a]) := ⟨own_kp l11.own s12.kp fun g hg e => by
        obtain ⟨c, hc⟩ := own_ty l11.own hg
        exact ty_ne hc B11.blk rfl e, l11.nw⟩
      rw [snoc_sv] at this
      simpa using this
    refine h_nil ?_
    (repeat (first | refine k_nil ?_ | refine k_n ?_ | refine k_r ?_ | refine k_x ?_ | refine b_n ?_ | refine b_r ?_ | refine b_y rfl ?_ | refine b_z rfl ?_ | refine l_r ?_ | refine l_x ?_ | refine k_seq ?_ | refine k_blk ?_ | refine k_reg ?_ | refine k_ret ?_ | refine k_exit ?_ | refine k_skip ?_ | refine Zs ?_))
    refine s_bs (cs := [.string (Tk.strOf wComma), .string (Tk.strOf wRpar)]) (e := 9) rfl (fun b13 w13 n13 => ?_)
    have g13 := g12.no n13.kp
    refine s_call (us := []) (zs := []) (by kernel_rfl) rfl rfl (is2 g13.at_ ok (Tk.strOf wComma) (Tk.strOf wRpar) (by rw [ec]; decide) (by rw [er]; decide) n13.blk) ?_
    rw [ec, er]
    rintro _ w14 ⟨rfl, k14⟩
    have g14 := g13.no k14
    (repeat (first | refine k_nil ?_ | refine k_n ?_ | refine k_r ?_ | refine k_x ?_ | refine b_n ?_ | refine b_r ?_ | refine b_y rfl ?_ | refine b_z rfl ?_ | refine l_r ?_ | refine l_x ?_ | refine k_seq ?_ | refine k_blk ?_ | refine k_reg ?_ | refine k_ret ?_ | refine k_exit ?_ | refine k_skip ?_ | refine Zs ?_))
    refine c_b rfl (fun hb => ?_) (fun hb => ?_)
    · have hb : (!decide (Sy.wd X.E s9' = wComma ∨ Sy.wd X.E s9' = wRpar)) = true := hb
      rw [if_neg (by simpa using hb)] at hR9
      (repeat (first | refine k_nil ?_ | refine k_n ?_ | refine k_r ?_ | refine k_x ?_ | refine b_n ?_ | refine b_r ?_ | refine b_y rfl ?_ | refine b_z rfl ?_ | refine l_r ?_ | refine l_x ?_ | refine k_seq ?_ | refine k_blk ?_ | refine k_reg ?_ | refine k_ret ?_ | refine k_exit ?_ | refine k_skip ?_ | refine Zs ?_))
      refine s_callX (us := []) (zs := []) (by kernel_rfl) rfl rfl (failF g14.at_ ok 3) ?_
      rintro c w15 ⟨rfl, k15⟩
      exact ⟨3, Sy.hr X.E s9', hR9.symm, rfl, g14.gs.kp.no k15⟩
    · have hb : (!decide (Sy.wd X.E s9' = wComma ∨ Sy.wd X.E s9' = wRpar)) = false := hb
      have hq : Sy.wd X.E s9' = wComma ∨ Sy.wd X.E s9' = wRpar := by
        by_cases q : Sy.wd X.E s9' = wComma ∨ Sy.wd X.E s9' = wRpar
        · exact q
        · rw [decide_eq_false q] at hb; cases hb
      rw [if_pos hq] at hR9
      (repeat (first | refine k_nil ?_ | refine k_n ?_ | refine k_r ?_ | refine k_x ?_ | refine b_n ?_ | refine b_r ?_ | refine b_y rfl ?_ | refine b_z rfl ?_ | refine l_r ?_ | refine l_x ?_ | refine k_seq ?_ | refine k_blk ?_ | refine k_reg ?_ | refine k_ret ?_ | refine k_exit ?_ | refine k_skip ?_ | refine Zs ?_))
      exact l_next ⟨m, l ++ [a], .slice a1 (l.length + 1) c1, s9', V9'⟩ ⟨rfl, rfl, rfl, trivial⟩ ⟨⟨G, hR9, hG⟩, g14, (B12.no n13.kp).no k14, (l12.no n13.kp).no k14, by have := u9.1; simp; omega, by rw [u9.2.2.1]; exact hn7⟩ (by simp)
end
end Go.Proofs.YtgnkdeapifbgeaaDoor.Sy
