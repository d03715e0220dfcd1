/- Code: the law CodeParses. -/
import Derived.Test.YtpamkidcmjfieaaGreatDoorDn
import Derived.Test.YtpamkidcmjfieaaGreatDoorDk
namespace Go.Proofs.YtpamkidcmjfieaaGreatDoor
open Go Go.RowKit Fw Nu
set_option linter.unusedVariables false
set_option maxRecDepth 20000
namespace Cd
set_option maxHeartbeats 4000000 in
theorem Parses (s : ByteArray) (w : World) (hg : Glob w) (hsz : s.size ≤ 9223372036854775807) : Ret Tryz.prog 3 [.string s] w fun v w1 => v = .bool true ∧ Kp No w w1 := by
  refine ret_enter Tryz.func3 rfl Tryz.ntmps3 rfl ?_
  (repeat (first | refine k_nil ?_ | refine k_n ?_ | refine k_r ?_ | refine k_x ?_ | refine b_n ?_ | refine b_r ?_ | refine b_y rfl ?_ | refine b_z rfl ?_ | refine l_r ?_ | refine l_x ?_ | refine k_seq ?_ | refine k_blk ?_ | refine k_reg ?_ | refine k_ret ?_ | refine k_exit ?_ | refine k_skip ?_ | refine Zs ?_))
  refine s_call (us := []) (zs := []) (by kernel_rfl) rfl rfl (awakeF w hg) ?_
  rintro _ w1 ⟨rfl, k1⟩
  (repeat (first | refine k_nil ?_ | refine k_n ?_ | refine k_r ?_ | refine k_x ?_ | refine b_n ?_ | refine b_r ?_ | refine b_y rfl ?_ | refine b_z rfl ?_ | refine l_r ?_ | refine l_x ?_ | refine k_seq ?_ | refine k_blk ?_ | refine k_reg ?_ | refine k_ret ?_ | refine k_exit ?_ | refine k_skip ?_ | refine Zs ?_ | refine Zn ?_ | refine Zu ?_ | refine Zg ?_))
  refine c_dec rfl (fun hbig => ?_) (fun hsm => ?_)
  · (repeat (first | refine k_nil ?_ | refine k_n ?_ | refine k_r ?_ | refine k_x ?_ | refine b_n ?_ | refine b_r ?_ | refine b_y rfl ?_ | refine b_z rfl ?_ | refine l_r ?_ | refine l_x ?_ | refine k_seq ?_ | refine k_blk ?_ | refine k_reg ?_ | refine k_ret ?_ | refine k_exit ?_ | refine k_skip ?_ | refine Zs ?_))
    refine s_call (us := []) (zs := []) (by kernel_rfl) rfl rfl (awakeF w1 (hg.kp k1)) ?_
    rintro _ w2 ⟨rfl, k2⟩
    (repeat (first | refine k_nil ?_ | refine k_n ?_ | refine k_r ?_ | refine k_x ?_ | refine b_n ?_ | refine b_r ?_ | refine b_y rfl ?_ | refine b_z rfl ?_ | refine l_r ?_ | refine l_x ?_ | refine k_seq ?_ | refine k_blk ?_ | refine k_reg ?_ | refine k_ret ?_ | refine k_exit ?_ | refine k_skip ?_ | refine Zs ?_))
    exact ret_1 rfl rfl ⟨rfl, k1.no k2⟩
  (repeat (first | refine k_nil ?_ | refine k_n ?_ | refine k_r ?_ | refine k_x ?_ | refine b_n ?_ | refine b_r ?_ | refine b_y rfl ?_ | refine b_z rfl ?_ | refine l_r ?_ | refine l_x ?_ | refine k_seq ?_ | refine k_blk ?_ | refine k_reg ?_ | refine k_ret ?_ | refine k_exit ?_ | refine k_skip ?_ | refine Zs ?_))
  refine s_call (us := []) (zs := []) (by kernel_rfl) rfl rfl (ParseF s w1 (hg.kp k1).tk (hg.kp k1).lb (hg.kp k1).sh hsz) ?_
  rintro _ w2 ⟨k2, c, n, e, ap, al, cp, cl, rfl, hPR, hRP, hRI, hcp, hcl, hn, hm, hnm⟩
  have kw2 := k1.no k2
  (repeat (first | refine k_nil ?_ | refine k_n ?_ | refine k_r ?_ | refine k_x ?_ | refine b_n ?_ | refine b_r ?_ | refine b_y rfl ?_ | refine b_z rfl ?_ | refine l_r ?_ | refine l_x ?_ | refine k_seq ?_ | refine k_blk ?_ | refine k_reg ?_ | refine k_ret ?_ | refine k_exit ?_ | refine k_skip ?_ | refine Zs ?_))
  refine s_al (cs := [.slice none 0 0, .slice none 0 0]) rfl (fun b3 w3 n3 => ?_)
  have g3 := n3.ge
  refine s_st (vs := [.slice ap c.ps.length cp, .slice al c.is.length cl]) rfl rfl rfl rfl rfl n3.blk (Nat.le_of_ble_eq_true rfl) (fun w4 s4 => ?_)
  have k24 : Kp No w2 w4 := n3.kp.trans s4.kp (fun q hq e => by have e : q = b3 := e; omega)
  have e4 : w4.heap[b3]? = some (.cells [Value.slice ap c.ps.length cp, .slice al c.is.length cl].toArray 26 (0, 0)) := s4.blk
  have kw4 := kw2.no k24
  (repeat (first | refine k_nil ?_ | refine k_n ?_ | refine k_r ?_ | refine k_x ?_ | refine b_n ?_ | refine b_r ?_ | refine b_y rfl ?_ | refine b_z rfl ?_ | refine l_r ?_ | refine l_x ?_ | refine k_seq ?_ | refine k_blk ?_ | refine k_reg ?_ | refine k_ret ?_ | refine k_exit ?_ | refine k_skip ?_ | refine Zs ?_))
  refine s_call (us := []) (zs := []) (by kernel_rfl) rfl rfl (rParse s w4 hsz) ?_
  rintro _ w5 ⟨k5, d, n', e', bp, bl, dp, dl, rfl, hPR2, hRP2, hRI2, _, _, _, _, _⟩
  obtain ⟨rfl, rfl, rfl⟩ := hPR2.one hPR
  have kw5 := kw4.no k5
  (repeat (first | refine k_nil ?_ | refine k_n ?_ | refine k_r ?_ | refine k_x ?_ | refine b_n ?_ | refine b_r ?_ | refine b_y rfl ?_ | refine b_z rfl ?_ | refine l_r ?_ | refine l_x ?_ | refine k_seq ?_ | refine k_blk ?_ | refine k_reg ?_ | refine k_ret ?_ | refine k_exit ?_ | refine k_skip ?_ | refine Zs ?_))
  refine s_al (cs := [.slice none 0 0, .slice none 0 0]) rfl (fun b6 w6 n6 => ?_)
  have g6 := n6.ge
  refine s_st (vs := [.slice bp d.ps.length dp, .slice bl d.is.length dl]) rfl rfl rfl rfl rfl n6.blk (Nat.le_of_ble_eq_true rfl) (fun w7 s7 => ?_)
  have k57 : Kp No w5 w7 := n6.kp.trans s7.kp (fun q hq e => by have e : q = b6 := e; omega)
  have e67 : w7.heap[b6]? = some (.cells [Value.slice bp d.ps.length dp, .slice bl d.is.length dl].toArray 33 (0, 0)) := s7.blk
  have e47 := k57.get0 (k5.get0 e4)
  have kw7 := kw5.no k57
  have k27 := k24.no (k5.no k57)
  (repeat (first | refine k_nil ?_ | refine k_n ?_ | refine k_r ?_ | refine k_x ?_ | refine b_n ?_ | refine b_r ?_ | refine b_y rfl ?_ | refine b_z rfl ?_ | refine l_r ?_ | refine l_x ?_ | refine k_seq ?_ | refine k_blk ?_ | refine k_reg ?_ | refine k_ret ?_ | refine k_exit ?_ | refine k_skip ?_ | refine Zs ?_))
  refine k_h (fun w' => Kp No w7 w') [(0, false), (1, false), (2, false), (3, false), (4, false), (5, false), (6, false), (7, false), (8, false), (9, false), (11, false), (10, true), (12, true), (13, false), (14, false)] 15 (by kernel_rfl) (by exact waits_none) (by kernel_rfl) (by kernel_rfl) rfl rfl (fun m1 k1' _ => ?_)
  refine h_v k1' (fun w' hw => r_mv rfl) ?_
  refine h_v k1' (fun w' hw => r_mv rfl) ?_
  refine h_v k1' (fun w' hw => r_bin rfl) ?_
  refine h_re 31 (v' := .bool false) rfl (congrArg Value.bool (by simp)) ?_
  refine h_v k1' (fun w' hw => r_mv rfl) ?_
  refine h_gv rfl k1' (fun w' hw => r_mv rfl) ?_
  refine h_gv rfl k1' (fun w' hw => r_mv rfl) ?_
  refine h_gv rfl k1' (fun w' hw => r_bin rfl) ?_
  refine h_re 35 (v' := .bool false) rfl (congrArg Value.bool (by simp)) ?_
  refine h_v k1' (fun w' hw => r_pf rfl rfl) ?_
  refine h_v k1' (fun w' hw => r_mv rfl) ?_
  refine h_gv rfl k1' (fun w' hw => r_ldb (vs := [.slice ap d.ps.length cp, .slice al d.is.length cl]) rfl rfl rfl (hw.get0 e47) rfl rfl) ?_
  refine h_gv rfl k1' (fun w' hw => r_ldb (vs := [.slice bp d.ps.length dp, .slice bl d.is.length dl]) rfl rfl rfl (hw.get0 e67) rfl rfl) ?_
  refine h_gcall (us := []) (zs := []) rfl (by kernel_rfl) rfl rfl (RefF d ap al cp cl m1 (hRP.kp0 (k27.no k1')) (hRI.kp0 (k27.no k1')) (by omega) (by omega)) ?_
  rintro _ m2 ⟨⟨ap2, al2, cp2, cl2, rfl, hRP3, hRI3, _, _⟩, k2'⟩
  have kk := k1'.no k2'
  refine ⟨fun _ => kk, ?_⟩
  refine h_gcall (us := []) (zs := []) rfl (by kernel_rfl) rfl rfl (sameT d ap2 al2 bp bl cp2 cl2 dp dl m2 hRP3 hRI3 (hRP2.kp0 (k57.no kk)) (hRI2.kp0 (k57.no kk)) (by omega) (by omega)) ?_
  rintro _ m3 ⟨rfl, k3'⟩
  have kk3 := kk.no k3'
  refine ⟨fun _ => kk3, ?_⟩
  refine h_gv rfl kk3 (fun w' hw => r_not rfl) ?_
  refine h_v kk3 (fun w' hw => r_pf rfl rfl) ?_
  refine h_nil ?_
  have e4m := kk3.get0 e47
  have kwm := kw7.no kk3
  have k2m := k27.no kk3
  (repeat (first | refine k_nil ?_ | refine k_n ?_ | refine k_r ?_ | refine k_x ?_ | refine b_n ?_ | refine b_r ?_ | refine b_y rfl ?_ | refine b_z rfl ?_ | refine l_r ?_ | refine l_x ?_ | refine k_seq ?_ | refine k_blk ?_ | refine k_reg ?_ | refine k_ret ?_ | refine k_exit ?_ | refine k_skip ?_ | refine Zs ?_))
  refine c_f rfl ?_
  (repeat (first | refine k_nil ?_ | refine k_n ?_ | refine k_r ?_ | refine k_x ?_ | refine b_n ?_ | refine b_r ?_ | refine b_y rfl ?_ | refine b_z rfl ?_ | refine l_r ?_ | refine l_x ?_ | refine k_seq ?_ | refine k_blk ?_ | refine k_reg ?_ | refine k_ret ?_ | refine k_exit ?_ | refine k_skip ?_ | refine Zs ?_))
  by_cases he : e' = 0
  case neg =>
    refine s_set 46 true rfl (by simpa using he) ?_
    (repeat (first | refine k_nil ?_ | refine k_n ?_ | refine k_r ?_ | refine k_x ?_ | refine b_n ?_ | refine b_r ?_ | refine b_y rfl ?_ | refine b_z rfl ?_ | refine l_r ?_ | refine l_x ?_ | refine k_seq ?_ | refine k_blk ?_ | refine k_reg ?_ | refine k_ret ?_ | refine k_exit ?_ | refine k_skip ?_ | refine Zs ?_ | refine Zn ?_ | refine Zu ?_ | refine Zg ?_))
    exact ret_1 rfl rfl ⟨rfl, kwm⟩
  subst he
  obtain ⟨hgd, htxt, hwn⟩ := hPR.text (inB_B s)
  refine s_set 46 false rfl rfl ?_
  (repeat (first | refine k_nil ?_ | refine k_n ?_ | refine k_r ?_ | refine k_x ?_ | refine b_n ?_ | refine b_r ?_ | refine b_y rfl ?_ | refine b_z rfl ?_ | refine l_r ?_ | refine l_x ?_ | refine k_seq ?_ | refine k_blk ?_ | refine k_reg ?_ | refine k_ret ?_ | refine k_exit ?_ | refine k_skip ?_ | refine Zs ?_ | refine Zn ?_ | refine Zu ?_ | refine Zg ?_))
  refine s_gv rfl (r_ldb (vs := [.slice ap d.ps.length cp, .slice al d.is.length cl]) rfl rfl rfl e4m rfl rfl) ?_
  refine s_gcall (us := []) (zs := []) rfl (by kernel_rfl) rfl rfl (PrintF d ap al cp cl m3 (hg.kp kwm).tk (hg.kp kwm).lb (hg.kp kwm).sh (hRP.kp0 k2m) (hRI.kp0 k2m) (by omega) (by omega) hcp hcl (fun p hp => by have := hnm p hp; omega) ⟨hwn.1, hwn.2⟩ (fun _ => by rw [htxt, B_len]; omega)) ?_
  rintro _ m4 ⟨k4', t, rfl, hs⟩
  have hB : B t = B s := by
    rcases hs with ⟨h, _⟩ | ⟨_, h⟩
    · exact (h hgd).elim
    · exact h.trans htxt
  have hst := B_inj hB
  subst hst
  (repeat (first | refine k_nil ?_ | refine k_n ?_ | refine k_r ?_ | refine k_x ?_ | refine b_n ?_ | refine b_r ?_ | refine b_y rfl ?_ | refine b_z rfl ?_ | refine l_r ?_ | refine l_x ?_ | refine k_seq ?_ | refine k_blk ?_ | refine k_reg ?_ | refine k_ret ?_ | refine k_exit ?_ | refine k_skip ?_ | refine Zs ?_ | refine Zn ?_ | refine Zu ?_ | refine Zg ?_))
  refine ret_1 rfl rfl ⟨?_, kwm.no k4'⟩
  congr 1
  rw [str_eq]
  exact decide_eq_true rfl
end Cd
end Go.Proofs.YtpamkidcmjfieaaGreatDoor
