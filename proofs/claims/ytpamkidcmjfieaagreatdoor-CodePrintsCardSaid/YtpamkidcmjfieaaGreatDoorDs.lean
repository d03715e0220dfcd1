/- Code: the law CodePrints. -/
import Derived.Test.YtpamkidcmjfieaaGreatDoorDr
import Derived.Test.YtpamkidcmjfieaaGreatDoorDl
import Derived.Test.YtpamkidcmjfieaaGreatDoorDf
namespace Go.Proofs.YtpamkidcmjfieaaGreatDoor
open Go Go.RowKit Fw Nu
set_option linter.unusedVariables false
set_option maxRecDepth 20000
namespace Cd
theorem WN.of {c : Cde} (h1 : ∀ p ∈ c.ps, WP p) (h2 : ∀ i ∈ c.is, WJ i) : WN c := ⟨fun p hp => (h1 p hp).2.2.2, fun i hi => (h2 i hi).2⟩
theorem few_txt {c : Cde} (hf : form c) (hw : WN c) (h : Few c) : (txt c).length ≤ 18200 := by
  obtain ⟨h1, h2, h3⟩ := h
  have := txt_length hf hw (m := 60) (k := 140) h1 (by omega)
  omega
theorem txt_ne {c : Cde} (hg : Gd c) : 0 < (txt c).length := by
  have hl := lns_length hg.1
  have := hg.1.2.2.1
  have hc := count_unl (lns c) (lns_ok hg.1)
  have h2 := List.countP_le_length (p := (· == 10)) (l := unl (lns c))
  show 0 < (unl (lns c)).length
  omega
set_option maxHeartbeats 4000000 in
theorem Prints (c : Cde) (ap al : Option Addr) (cp cl : Nat) (w : World) (hg : Glob w) (hp : RP w ap c.ps) (hi : RI w al c.is) (hcp : c.ps.length ≤ cp) (hcl : c.is.length ≤ cl) (hm : cp ≤ maxLen) (hm2 : cl ≤ maxLen) (hwp : ∀ p ∈ c.ps, WP p) (hwi : ∀ i ∈ c.is, WJ i) :
    Ret Tryz.prog 6 [.agg #[.slice ap c.ps.length cp, .slice al c.is.length cl]] w fun v w1 => v = .bool true ∧ Kp No w w1 := by
  have hbig : c.ps.length ≤ 9223372036854775807 := by unfold maxLen at hm; omega
  have hwn := WN.of hwp hwi
  refine ret_enter Tryz.func6 rfl Tryz.ntmps6 rfl ?_
  (repeat (first | refine k_nil ?_ | refine k_n ?_ | refine k_r ?_ | refine k_x ?_ | refine b_n ?_ | refine b_r ?_ | refine b_y rfl ?_ | refine b_z rfl ?_ | refine l_r ?_ | refine l_x ?_ | refine k_seq ?_ | refine k_blk ?_ | refine k_reg ?_ | refine k_ret ?_ | refine k_exit ?_ | refine k_skip ?_ | refine Zs ?_))
  refine s_box (cs := [.slice ap c.ps.length cp, .slice al c.is.length cl]) rfl rfl (fun b1 w1 n1 => ?_)
  have e1 := n1.blk
  have kw1 := n1.kp
  (repeat (first | refine k_nil ?_ | refine k_n ?_ | refine k_r ?_ | refine k_x ?_ | refine b_n ?_ | refine b_r ?_ | refine b_y rfl ?_ | refine b_z rfl ?_ | refine l_r ?_ | refine l_x ?_ | refine k_seq ?_ | refine k_blk ?_ | refine k_reg ?_ | refine k_ret ?_ | refine k_exit ?_ | refine k_skip ?_ | refine Zs ?_))
  refine s_call (us := []) (zs := []) (by kernel_rfl) rfl rfl (awakeF w1 (hg.kp kw1)) ?_
  rintro _ w2 ⟨rfl, k2⟩
  have e2 := k2.get0 e1
  have kw2 := kw1.no k2
  (repeat (first | refine k_nil ?_ | refine k_n ?_ | refine k_r ?_ | refine k_x ?_ | refine b_n ?_ | refine b_r ?_ | refine b_y rfl ?_ | refine b_z rfl ?_ | refine l_r ?_ | refine l_x ?_ | refine k_seq ?_ | refine k_blk ?_ | refine k_reg ?_ | refine k_ret ?_ | refine k_exit ?_ | refine k_skip ?_ | refine Zs ?_ | refine Zn ?_ | refine Zu ?_ | refine Zg ?_))
  refine s_gv rfl (r_ldb (vs := [.slice ap c.ps.length cp, .slice al c.is.length cl]) rfl rfl rfl e2 rfl rfl) ?_
  refine s_gcall (us := []) (zs := []) rfl (by kernel_rfl) rfl rfl (fewF c ap al cp cl w2 (hp.kp0 kw2) hbig) ?_
  rintro _ w3 ⟨⟨b, rfl, hfew⟩, k3⟩
  have e3 := k3.get0 e2
  have kw3 := kw2.no k3
  cases b with
  | false =>
    (repeat (first | refine k_nil ?_ | refine k_n ?_ | refine k_r ?_ | refine k_x ?_ | refine b_n ?_ | refine b_r ?_ | refine b_y rfl ?_ | refine b_z rfl ?_ | refine l_r ?_ | refine l_x ?_ | refine k_seq ?_ | refine k_blk ?_ | refine k_reg ?_ | refine k_ret ?_ | refine k_exit ?_ | refine k_skip ?_ | refine Zs ?_ | refine Zn ?_ | refine Zu ?_ | refine Zg ?_))
    refine c_t rfl ?_
    (repeat (first | refine k_nil ?_ | refine k_n ?_ | refine k_r ?_ | refine k_x ?_ | refine b_n ?_ | refine b_r ?_ | refine b_y rfl ?_ | refine b_z rfl ?_ | refine l_r ?_ | refine l_x ?_ | refine k_seq ?_ | refine k_blk ?_ | refine k_reg ?_ | refine k_ret ?_ | refine k_exit ?_ | refine k_skip ?_ | refine Zs ?_))
    refine s_call (us := []) (zs := []) (by kernel_rfl) rfl rfl (awakeF w3 (hg.kp kw3)) ?_
    rintro _ w4 ⟨rfl, k4⟩
    (repeat (first | refine k_nil ?_ | refine k_n ?_ | refine k_r ?_ | refine k_x ?_ | refine b_n ?_ | refine b_r ?_ | refine b_y rfl ?_ | refine b_z rfl ?_ | refine l_r ?_ | refine l_x ?_ | refine k_seq ?_ | refine k_blk ?_ | refine k_reg ?_ | refine k_ret ?_ | refine k_exit ?_ | refine k_skip ?_ | refine Zs ?_))
    exact ret_1 rfl rfl ⟨rfl, kw3.no k4⟩
  | true =>
  have hfw := hfew.1 rfl
  obtain ⟨hf1, hf2, hf3⟩ := hfew.1 rfl
  have hnz : ∀ p ∈ c.ps, p.nm.size ≤ 1000000 := fun p hp => by have := hf1 p hp; omega
  (repeat (first | refine k_nil ?_ | refine k_n ?_ | refine k_r ?_ | refine k_x ?_ | refine b_n ?_ | refine b_r ?_ | refine b_y rfl ?_ | refine b_z rfl ?_ | refine l_r ?_ | refine l_x ?_ | refine k_seq ?_ | refine k_blk ?_ | refine k_reg ?_ | refine k_ret ?_ | refine k_exit ?_ | refine k_skip ?_ | refine Zs ?_ | refine Zn ?_ | refine Zu ?_ | refine Zg ?_))
  refine c_f rfl ?_
  (repeat (first | refine k_nil ?_ | refine k_n ?_ | refine k_r ?_ | refine k_x ?_ | refine b_n ?_ | refine b_r ?_ | refine b_y rfl ?_ | refine b_z rfl ?_ | refine l_r ?_ | refine l_x ?_ | refine k_seq ?_ | refine k_blk ?_ | refine k_reg ?_ | refine k_ret ?_ | refine k_exit ?_ | refine k_skip ?_ | refine Zs ?_))
  refine s_v (r_ldb (vs := [.slice ap c.ps.length cp, .slice al c.is.length cl]) rfl rfl rfl e3 rfl rfl) ?_
  refine s_call (us := []) (zs := []) (by kernel_rfl) rfl rfl (PrintF c ap al cp cl w3 (hg.kp kw3).tk (hg.kp kw3).lb (hg.kp kw3).sh (hp.kp0 kw3) (hi.kp0 kw3) (by omega) (by omega) hcp hcl hnz hwn (fun h => by have := few_txt h.1 hwn hfw; omega)) ?_
  rintro _ w4 ⟨k4, s, rfl, hs⟩
  have e4 := k4.get0 e3
  have kw4 := kw3.no k4
  (repeat (first | refine k_nil ?_ | refine k_n ?_ | refine k_r ?_ | refine k_x ?_ | refine b_n ?_ | refine b_r ?_ | refine b_y rfl ?_ | refine b_z rfl ?_ | refine l_r ?_ | refine l_x ?_ | refine k_seq ?_ | refine k_blk ?_ | refine k_reg ?_ | refine k_ret ?_ | refine k_exit ?_ | refine k_skip ?_ | refine Zs ?_))
  refine s_v (r_ldb (vs := [.slice ap c.ps.length cp, .slice al c.is.length cl]) rfl rfl rfl e4 rfl rfl) ?_
  refine s_call (us := []) (zs := []) (by kernel_rfl) rfl rfl (RefF c ap al cp cl w4 (hp.kp0 kw4) (hi.kp0 kw4) (by omega) (by omega)) ?_
  rintro _ w5 ⟨⟨ap', al', cp', cl', rfl, hRP, hRI, _, _⟩, k5⟩
  refine s_call (us := []) (zs := []) (by kernel_rfl) rfl rfl (rHeights c ap' al' cp' cl' w5 hRP hRI (by omega) (by omega) hnz) ?_
  rintro v6 w6 ⟨k6, ⟨rfl, hng⟩ | ⟨g, M, rfl, hh, _, hb⟩⟩
  · have hsz : s.size = 0 := by
      rcases hs with ⟨_, h⟩ | ⟨h, _⟩
      · exact h
      · exact (hng h).elim
    (repeat (first | refine k_nil ?_ | refine k_n ?_ | refine k_r ?_ | refine k_x ?_ | refine b_n ?_ | refine b_r ?_ | refine b_y rfl ?_ | refine b_z rfl ?_ | refine l_r ?_ | refine l_x ?_ | refine k_seq ?_ | refine k_blk ?_ | refine k_reg ?_ | refine k_ret ?_ | refine k_exit ?_ | refine k_skip ?_ | refine Zs ?_))
    refine c_t rfl ?_
    (repeat (first | refine k_nil ?_ | refine k_n ?_ | refine k_r ?_ | refine k_x ?_ | refine b_n ?_ | refine b_r ?_ | refine b_y rfl ?_ | refine b_z rfl ?_ | refine l_r ?_ | refine l_x ?_ | refine k_seq ?_ | refine k_blk ?_ | refine k_reg ?_ | refine k_ret ?_ | refine k_exit ?_ | refine k_skip ?_ | refine Zs ?_))
    refine ret_1 rfl rfl ⟨?_, (kw4.no k5).no k6⟩
    congr 1
    rw [eq_empty]
    exact decide_eq_true hsz
  have hgd := hh.gd
  have hB : B s = txt c := by
    rcases hs with ⟨h, _⟩ | ⟨_, h⟩
    · exact (h hgd).elim
    · exact h
  have hTl := few_txt hgd.1 hwn hfw
  have hssz : s.size ≤ 18200 := by rw [← B_len, hB]; exact hTl
  have kw6 := (kw4.no k5).no k6
  have e6 := (k5.no k6).get0 e4
  (repeat (first | refine k_nil ?_ | refine k_n ?_ | refine k_r ?_ | refine k_x ?_ | refine b_n ?_ | refine b_r ?_ | refine b_y rfl ?_ | refine b_z rfl ?_ | refine l_r ?_ | refine l_x ?_ | refine k_seq ?_ | refine k_blk ?_ | refine k_reg ?_ | refine k_ret ?_ | refine k_exit ?_ | refine k_skip ?_ | refine Zs ?_))
  refine c_f rfl ?_
  (repeat (first | refine k_nil ?_ | refine k_n ?_ | refine k_r ?_ | refine k_x ?_ | refine b_n ?_ | refine b_r ?_ | refine b_y rfl ?_ | refine b_z rfl ?_ | refine l_r ?_ | refine l_x ?_ | refine k_seq ?_ | refine k_blk ?_ | refine k_reg ?_ | refine k_ret ?_ | refine k_exit ?_ | refine k_skip ?_ | refine Zs ?_))
  refine s_call (us := []) (zs := []) (by kernel_rfl) rfl rfl (ParseF s w6 (hg.kp kw6).tk (hg.kp kw6).lb (hg.kp kw6).sh (by omega)) ?_
  rintro _ w7 ⟨k7, d, n, e, bp, bl, dp, dl, rfl, hPR, hRP2, hRI2, _, _, _, _, _⟩
  have hback := back hgd hwn (by omega)
  rw [← hB] at hback
  obtain ⟨rfl, rfl, rfl⟩ := hPR.one hback
  have e7 := k7.get0 e6
  have kw7 := kw6.no k7
  (repeat (first | refine k_nil ?_ | refine k_n ?_ | refine k_r ?_ | refine k_x ?_ | refine b_n ?_ | refine b_r ?_ | refine b_y rfl ?_ | refine b_z rfl ?_ | refine l_r ?_ | refine l_x ?_ | refine k_seq ?_ | refine k_blk ?_ | refine k_reg ?_ | refine k_ret ?_ | refine k_exit ?_ | refine k_skip ?_ | refine Zs ?_))
  refine s_al (cs := [.slice none 0 0, .slice none 0 0]) rfl (fun b8 w8 n8 => ?_)
  have g8 := n8.ge
  refine s_st (vs := [.slice bp d.ps.length dp, .slice bl d.is.length dl]) rfl rfl rfl rfl rfl n8.blk (Nat.le_of_ble_eq_true rfl) (fun w9 s9 => ?_)
  have k79 : Kp No w7 w9 := n8.kp.trans s9.kp (fun q hq e => by have e : q = b8 := e; omega)
  have e89 : w9.heap[b8]? = some (.cells [Value.slice bp d.ps.length dp, .slice bl d.is.length dl].toArray 26 (0, 0)) := s9.blk
  have e9 := k79.get0 e7
  have kw9 := kw7.no k79
  (repeat (first | refine k_nil ?_ | refine k_n ?_ | refine k_r ?_ | refine k_x ?_ | refine b_n ?_ | refine b_r ?_ | refine b_y rfl ?_ | refine b_z rfl ?_ | refine l_r ?_ | refine l_x ?_ | refine k_seq ?_ | refine k_blk ?_ | refine k_reg ?_ | refine k_ret ?_ | refine k_exit ?_ | refine k_skip ?_ | refine Zs ?_))
  refine k_h (fun w' => Kp No w9 w') [(0, false), (1, false), (2, true), (3, true), (4, false), (5, false), (6, false), (7, false), (8, false), (9, false), (10, false), (12, false), (11, true), (13, true), (14, true), (15, false), (16, false)] 17 (by kernel_rfl) (by exact waits_none) (by kernel_rfl) (by kernel_rfl) rfl rfl (fun m1 k1 _ => ?_)
  refine h_v k1 (fun w' hw => r_mv rfl) ?_
  refine h_v k1 (fun w' hw => r_ldb (vs := [.slice ap d.ps.length cp, .slice al d.is.length cl]) rfl rfl rfl (hw.get0 e9) rfl rfl) ?_
  refine h_call (us := []) (zs := []) (by kernel_rfl) rfl rfl (RefF d ap al cp cl m1 (hp.kp0 (kw9.no k1)) (hi.kp0 (kw9.no k1)) (by omega) (by omega)) ?_
  rintro _ m2 ⟨⟨ap2, al2, cp2, cl2, rfl, hRP3, hRI3, _, _⟩, k2'⟩
  have kk := k1.no k2'
  refine ⟨fun _ => kk, ?_⟩
  refine h_call (us := []) (zs := []) (by kernel_rfl) rfl rfl (rPrint d ap2 al2 cp2 cl2 m2 hRP3 hRI3 (by omega) (by omega) hnz hwn hgd.1 (by omega)) ?_
  rintro _ m3 ⟨k3', t, rfl, hBt⟩
  have hst : s = t := B_inj (hB.trans hBt.symm)
  subst hst
  have kk3 := kk.no k3'
  refine ⟨fun _ => kk3, ?_⟩
  refine h_v kk3 (fun w' hw => r_bin rfl) ?_
  refine h_re 39 (v' := .bool true) rfl (by rw [str_eq]; exact congrArg Value.bool (decide_eq_true rfl)) ?_
  refine h_v kk3 (fun w' hw => r_mv rfl) ?_
  refine h_gv rfl kk3 (fun w' hw => r_mv rfl) ?_
  refine h_gv rfl kk3 (fun w' hw => r_bin rfl) ?_
  refine h_v kk3 (fun w' hw => r_pt rfl rfl) ?_
  refine h_v kk3 (fun w' hw => r_mv rfl) ?_
  refine h_gv rfl kk3 (fun w' hw => r_ldb (vs := [.slice bp d.ps.length dp, .slice bl d.is.length dl]) rfl rfl rfl (hw.get0 e89) rfl rfl) ?_
  refine h_gv rfl kk3 (fun w' hw => r_ldb (vs := [.slice ap d.ps.length cp, .slice al d.is.length cl]) rfl rfl rfl (hw.get0 e9) rfl rfl) ?_
  have k7m := k79.no kk3
  refine h_gcall (us := []) (zs := []) rfl (by kernel_rfl) rfl rfl (RefF d bp bl dp dl m3 (hRP2.kp0 k7m) (hRI2.kp0 k7m) (by omega) (by omega)) ?_
  rintro _ m4 ⟨⟨ap4, al4, cp4, cl4, rfl, hRP4, hRI4, _, _⟩, k4'⟩
  have kk4 := kk3.no k4'
  refine ⟨fun _ => kk4, ?_⟩
  refine h_gcall (us := []) (zs := []) rfl (by kernel_rfl) rfl rfl (RefF d ap al cp cl m4 (hp.kp0 (kw9.no kk4)) (hi.kp0 (kw9.no kk4)) (by omega) (by omega)) ?_
  rintro _ m5 ⟨⟨ap5, al5, cp5, cl5, rfl, hRP5, hRI5, _, _⟩, k5'⟩
  have kk5 := kk4.no k5'
  refine ⟨fun _ => kk5, ?_⟩
  refine h_gcall (us := []) (zs := []) rfl (by kernel_rfl) rfl rfl (sameT d ap4 al4 ap5 al5 cp4 cl4 cp5 cl5 m5 (hRP4.kp0 k5') (hRI4.kp0 k5') hRP5 hRI5 (by omega) (by omega)) ?_
  rintro _ m6 ⟨rfl, k6'⟩
  have kk6 := kk5.no k6'
  refine ⟨fun _ => kk6, ?_⟩
  refine h_v kk6 (fun w' hw => r_pt rfl rfl) ?_
  refine h_v kk6 (fun w' hw => r_as rfl) ?_
  refine h_nil ?_
  (repeat (first | refine k_nil ?_ | refine k_n ?_ | refine k_r ?_ | refine k_x ?_ | refine b_n ?_ | refine b_r ?_ | refine b_y rfl ?_ | refine b_z rfl ?_ | refine l_r ?_ | refine l_x ?_ | refine k_seq ?_ | refine k_blk ?_ | refine k_reg ?_ | refine k_ret ?_ | refine k_exit ?_ | refine k_skip ?_ | refine Zs ?_))
  exact ret_1 rfl rfl ⟨rfl, kw9.no kk6⟩
end Cd
end Go.Proofs.YtpamkidcmjfieaaGreatDoor
