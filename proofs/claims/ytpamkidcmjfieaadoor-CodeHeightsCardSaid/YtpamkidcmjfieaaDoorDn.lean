/- Code: the document's example. -/
import Derived.Test.YtpamkidcmjfieaaDoorDw
import Derived.Test.YtpamkidcmjfieaaDoorDg
import Derived.Test.YtpamkidcmjfieaaDoorDp
namespace Go.Proofs.YtpamkidcmjfieaaDoor
open Go Go.RowKit Fw Nu
set_option linter.unusedVariables false
set_option maxRecDepth 20000
namespace Cd
/-- The example. -/
def ex0 : Cde := ⟨[⟨⟨#[109, 97, 105, 110]⟩, 0, 1, 0, 0, 4⟩], [⟨27, 0, 0⟩]⟩
theorem dc1 {n : Nat} (h : n < 10) : dc n = [48 + (n : Int)] := by
  rw [dc_pos (by omega), Int.toNat_natCast, dcu_eq, if_pos h]
theorem ex0_txt : txt ex0 = B ⟨#[112, 114, 111, 99, 32, 109, 97, 105, 110, 32, 48, 32, 48, 32, 52, 10, 114, 101, 116, 117, 114, 110, 32, 48, 10]⟩ := by
  have h0 : dc 0 = [48] := dc1 (n := 0) (by omega)
  have h4 : dc 4 = [52] := dc1 (n := 4) (by omega)
  have e1 : procLn ⟨⟨#[109, 97, 105, 110]⟩, 0, 1, 0, 0, 4⟩ = Sp.jnc 32 [procL, B ⟨#[109, 97, 105, 110]⟩, [48], [48], [52]] := by unfold procLn; rw [h0, h4]
  have e2 : insLn ⟨27, 0, 0⟩ = Sp.jnc 32 [[114, 101, 116, 117, 114, 110], [48]] := by
    have : fld ⟨27, 0, 0⟩ = (sh 27).1 :: ((if (sh 27).2.1 = 0 then [] else [dc 0]) ++ (if (27 : Int) = 7 then [dc 0] else [])) := rfl
    unfold insLn; rw [this, h0]; rfl
  have e3 : lns ex0 = [procLn ⟨⟨#[109, 97, 105, 110]⟩, 0, 1, 0, 0, 4⟩, insLn ⟨27, 0, 0⟩] := rfl
  unfold txt
  rw [e3, e1, e2]
  rfl
theorem ex0_form : form ex0 := by
  refine ⟨fun j p hj => ?_, fun p hp i hi => ?_, by decide, by decide⟩
  · match j, hj with
    | 0, hj =>
      cases hj
      refine ⟨rfl, by decide, by decide, by decide, by decide, .inr rfl, ?_⟩
      show nm (B ⟨#[109, 97, 105, 110]⟩) = true
      decide +kernel
    | j + 1, hj => simp [ex0] at hj
  · simp only [ex0, List.mem_singleton] at hp
    subst hp
    have hi : i ∈ [(⟨27, 0, 0⟩ : Ins)] := hi
    rw [List.mem_singleton] at hi
    subst hi
    decide
theorem ex0_gd : Gd ex0 := by
  refine ⟨ex0_form, fun p hp => ?_⟩
  simp only [ex0, List.mem_singleton] at hp
  subst hp
  refine Lab.bad (L := [0]) ⟨rfl, fun pl h i h0 h1 hl hh hi => ?_⟩ (by decide) (by decide) (by decide)
  have h1 : (pl : Int) < 1 := h1
  have : pl = 0 := by omega
  subst this
  cases hl
  cases hi
  refine ⟨by decide, fun dst x hm => ?_⟩
  have : aft ex0 ⟨27, 0, 0⟩ ((0 : Nat) : Int) 0 = [] := rfl
  rw [this] at hm
  cases hm
theorem ex0_wn : WN ex0 := by
  refine ⟨fun p hp => ?_, fun i hi => ?_⟩
  · simp only [ex0, List.mem_singleton] at hp
    subst hp
    exact ⟨⟨by decide, by decide⟩, ⟨by decide, by decide⟩, ⟨by decide, by decide⟩⟩
  · simp only [ex0, List.mem_singleton] at hi
    subst hi
    exact ⟨⟨by decide, by decide⟩, ⟨by decide, by decide⟩⟩
theorem ex0_PR : PR (B ⟨#[112, 114, 111, 99, 32, 109, 97, 105, 110, 32, 48, 32, 48, 32, 52, 10, 114, 101, 116, 117, 114, 110, 32, 48, 10]⟩) ex0 0 0 := by
  rw [← ex0_txt]
  exact back ex0_gd ex0_wn (by rw [ex0_txt]; decide)
theorem awakeF (w : World) (hg : Glob w) : Ret Tryd.prog 4 [] w fun v w1 => v = .bool true ∧ Kp No w w1 := by
  refine ret_enter Tryd.func4 rfl Tryd.ntmps4 rfl ?_
  (repeat (first | refine k_nil ?_ | refine k_n ?_ | refine k_r ?_ | refine k_x ?_ | refine b_n ?_ | refine b_r ?_ | refine b_y rfl ?_ | refine b_z rfl ?_ | refine l_r ?_ | refine l_x ?_ | refine k_seq ?_ | refine k_blk ?_ | refine k_reg ?_ | refine k_ret ?_ | refine k_exit ?_ | refine k_skip ?_ | refine Zs ?_))
  refine s_call (us := []) (zs := []) (by kernel_rfl) rfl rfl (ParseF ⟨#[112, 114, 111, 99, 32, 109, 97, 105, 110, 32, 48, 32, 48, 32, 52, 10, 114, 101, 116, 117, 114, 110, 32, 48, 10]⟩ w hg.tk hg.lb hg.sh (by decide)) ?_
  rintro _ w1 ⟨k1, c, n, e, ap, al, cp, cl, rfl, hPR, hRP, hRI, hcp, hcl, _, _, _⟩
  obtain ⟨rfl, rfl, rfl⟩ := hPR.one ex0_PR
  have hlp : ex0.ps.length = 1 := rfl
  have hli : ex0.is.length = 1 := rfl
  (repeat (first | refine k_nil ?_ | refine k_n ?_ | refine k_r ?_ | refine k_x ?_ | refine b_n ?_ | refine b_r ?_ | refine b_y rfl ?_ | refine b_z rfl ?_ | refine l_r ?_ | refine l_x ?_ | refine k_seq ?_ | refine k_blk ?_ | refine k_reg ?_ | refine k_ret ?_ | refine k_exit ?_ | refine k_skip ?_ | refine Zs ?_))
  refine s_al (cs := [.slice none 0 0, .slice none 0 0]) rfl (fun b1 w2 n2 => ?_)
  have g2 := n2.ge
  refine s_st (vs := [.slice ap ex0.ps.length cp, .slice al ex0.is.length cl]) rfl rfl rfl rfl rfl n2.blk (Nat.le_of_ble_eq_true rfl) (fun w3 s3 => ?_)
  have k13 : Kp No w1 w3 := n2.kp.trans s3.kp (fun q hq e => by have e : q = b1 := e; omega)
  have e3 : w3.heap[b1]? = some (.cells [Value.slice ap ex0.ps.length cp, .slice al ex0.is.length cl].toArray 25 (0, 0)) := s3.blk
  have kw3 := k1.no k13
  (repeat (first | refine k_nil ?_ | refine k_n ?_ | refine k_r ?_ | refine k_x ?_ | refine b_n ?_ | refine b_r ?_ | refine b_y rfl ?_ | refine b_z rfl ?_ | refine l_r ?_ | refine l_x ?_ | refine k_seq ?_ | refine k_blk ?_ | refine k_reg ?_ | refine k_ret ?_ | refine k_exit ?_ | refine k_skip ?_ | refine Zs ?_))
  refine s_set 11 true rfl rfl ?_
  (repeat (first | refine k_nil ?_ | refine k_n ?_ | refine k_r ?_ | refine k_x ?_ | refine b_n ?_ | refine b_r ?_ | refine b_y rfl ?_ | refine b_z rfl ?_ | refine l_r ?_ | refine l_x ?_ | refine k_seq ?_ | refine k_blk ?_ | refine k_reg ?_ | refine k_ret ?_ | refine k_exit ?_ | refine k_skip ?_ | refine Zs ?_ | refine Zn ?_ | refine Zu ?_ | refine Zg ?_))
  refine s_gv rfl (r_ldb (vs := [.slice ap ex0.ps.length cp, .slice al ex0.is.length cl]) rfl rfl rfl e3 rfl rfl) ?_
  refine s_gcall (us := []) (zs := []) rfl (by kernel_rfl) rfl rfl (GoodF ex0 ap al cp cl w3 (hg.tk.kp kw3) (hg.sh.kp kw3) (hRP.kp0 k13) (hRI.kp0 k13) (by rw [hlp]; decide) (by rw [hli]; decide) hcl (fun p hp => by
    simp only [ex0, List.mem_singleton] at hp
    subst hp
    decide)) ?_
  rintro _ w4 ⟨k4, r, rfl, hr⟩
  obtain rfl : r = true := hr.2 ex0_gd
  have e4 := k4.get0 e3
  obtain ⟨ib, io, rfl, _, hci⟩ := ((hRI.kp0 k13).kp0 k4).at (j := 0) (i := ⟨27, 0, 0⟩) rfl
  have hc0 : w4.cell? ⟨ib, io + (0 : Int).toNat * 3, none⟩ = some (.int .i64 27) := hci 0 (by decide)
  (repeat (first | refine k_nil ?_ | refine k_n ?_ | refine k_r ?_ | refine k_x ?_ | refine b_n ?_ | refine b_r ?_ | refine b_y rfl ?_ | refine b_z rfl ?_ | refine l_r ?_ | refine l_x ?_ | refine k_seq ?_ | refine k_blk ?_ | refine k_reg ?_ | refine k_ret ?_ | refine k_exit ?_ | refine k_skip ?_ | refine Zs ?_ | refine Zn ?_ | refine Zu ?_ | refine Zg ?_))
  refine s_set 21 true rfl rfl ?_
  (repeat (first | refine k_nil ?_ | refine k_n ?_ | refine k_r ?_ | refine k_x ?_ | refine b_n ?_ | refine b_r ?_ | refine b_y rfl ?_ | refine b_z rfl ?_ | refine l_r ?_ | refine l_x ?_ | refine k_seq ?_ | refine k_blk ?_ | refine k_reg ?_ | refine k_ret ?_ | refine k_exit ?_ | refine k_skip ?_ | refine Zs ?_ | refine Zn ?_ | refine Zu ?_ | refine Zg ?_))
  refine s_gv rfl (r_ia (i := 0) rfl rfl rfl rfl (by decide) (by rw [hli]; decide)) ?_
  (repeat (first | refine k_nil ?_ | refine k_n ?_ | refine k_r ?_ | refine k_x ?_ | refine b_n ?_ | refine b_r ?_ | refine b_y rfl ?_ | refine b_z rfl ?_ | refine l_r ?_ | refine l_x ?_ | refine k_seq ?_ | refine k_blk ?_ | refine k_reg ?_ | refine k_ret ?_ | refine k_exit ?_ | refine k_skip ?_ | refine Zs ?_ | refine Zn ?_ | refine Zu ?_ | refine Zg ?_))
  exact ret_1 rfl rfl ⟨rfl, kw3.no k4⟩
end Cd
end Go.Proofs.YtpamkidcmjfieaaDoor
