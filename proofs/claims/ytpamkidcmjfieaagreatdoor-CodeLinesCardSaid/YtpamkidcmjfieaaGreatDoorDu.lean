/- Code: the law CodeLines. -/
import Derived.Test.YtpamkidcmjfieaaGreatDoorDn
import Derived.Test.YtpamkidcmjfieaaGreatDoorCo
namespace Go.Proofs.YtpamkidcmjfieaaGreatDoor
open Go Go.RowKit Fw Nu
set_option linter.unusedVariables false
set_option maxRecDepth 20000
namespace Cd
theorem WN.of {c : Cde} (h1 : ∀ p ∈ c.ps, WP p) (h2 : ∀ i ∈ c.is, WJ i) : WN c := ⟨fun p hp => (h1 p hp).2.2.2, fun i hi => (h2 i hi).2⟩
theorem few_txt {c : Cde} (hf : form c) (hw : WN c) (h : Few c) : (txt c).length ≤ 18200 := by
  obtain ⟨h1, h2, h3⟩ := h
  have := txt_length hf hw (m := 60) (k := 140) h1 (by omega)
  omega
theorem txt_ne {c : Cde} (hg : Gd c) : 0 < (txt c).length := by
  have hl := lns_length hg.1
  have := hg.1.2.2.1
  have hc := count_unl (lns c) (lns_ok hg.1)
  have h2 := List.countP_le_length (p := (· == 10)) (l := unl (lns c))
  show 0 < (unl (lns c)).length
  omega
set_option maxHeartbeats 4000000 in
theorem Lines (c : Cde) (ap al : Option Addr) (cp cl : Nat) (cut : Int) (w : World) (hg : Glob w) (hp : RP w ap c.ps) (hi : RI w al c.is) (hcp : c.ps.length ≤ cp) (hcl : c.is.length ≤ cl) (hm : cp ≤ maxLen) (hm2 : cl ≤ maxLen) (hwp : ∀ p ∈ c.ps, WP p) (hwi : ∀ i ∈ c.is, WJ i) (hcut : 0 ≤ cut ∧ cut < 65536) :
    Ret Tryz.prog 4 [.agg #[.slice ap c.ps.length cp, .slice al c.is.length cl], .int .u16 cut] w fun v w1 => v = .bool true ∧ Kp No w w1 := by
  have hbig : c.ps.length ≤ 9223372036854775807 := by unfold maxLen at hm; omega
  have hwn := WN.of hwp hwi
  refine ret_enter Tryz.func4 rfl Tryz.ntmps4 rfl ?_
  (repeat (first | refine k_nil ?_ | refine k_n ?_ | refine k_r ?_ | refine k_x ?_ | refine b_n ?_ | refine b_r ?_ | refine b_y rfl ?_ | refine b_z rfl ?_ | refine l_r ?_ | refine l_x ?_ | refine k_seq ?_ | refine k_blk ?_ | refine k_reg ?_ | refine k_ret ?_ | refine k_exit ?_ | refine k_skip ?_ | refine Zs ?_))
  refine s_box (cs := [.slice ap c.ps.length cp, .slice al c.is.length cl]) rfl rfl (fun b1 w1 n1 => ?_)
  have e1 := n1.blk
  have kw1 := n1.kp
  (repeat (first | refine k_nil ?_ | refine k_n ?_ | refine k_r ?_ | refine k_x ?_ | refine b_n ?_ | refine b_r ?_ | refine b_y rfl ?_ | refine b_z rfl ?_ | refine l_r ?_ | refine l_x ?_ | refine k_seq ?_ | refine k_blk ?_ | refine k_reg ?_ | refine k_ret ?_ | refine k_exit ?_ | refine k_skip ?_ | refine Zs ?_))
  refine s_call (us := []) (zs := []) (by kernel_rfl) rfl rfl (awakeF w1 (hg.kp kw1)) ?_
  rintro _ w2 ⟨rfl, k2⟩
  have e2 := k2.get0 e1
  have kw2 := kw1.no k2
  (repeat (first | refine k_nil ?_ | refine k_n ?_ | refine k_r ?_ | refine k_x ?_ | refine b_n ?_ | refine b_r ?_ | refine b_y rfl ?_ | refine b_z rfl ?_ | refine l_r ?_ | refine l_x ?_ | refine k_seq ?_ | refine k_blk ?_ | refine k_reg ?_ | refine k_ret ?_ | refine k_exit ?_ | refine k_skip ?_ | refine Zs ?_ | refine Zn ?_ | refine Zu ?_ | refine Zg ?_))
  refine s_gv rfl (r_ldb (vs := [.slice ap c.ps.length cp, .slice al c.is.length cl]) rfl rfl rfl e2 rfl rfl) ?_
  refine s_gcall (us := []) (zs := []) rfl (by kernel_rfl) rfl rfl (fewF c ap al cp cl w2 (hp.kp0 kw2) hbig) ?_
  rintro _ w3 ⟨⟨b, rfl, hfew⟩, k3⟩
  have e3 := k3.get0 e2
  have kw3 := kw2.no k3
  cases b with
  | false =>
    (repeat (first | refine k_nil ?_ | refine k_n ?_ | refine k_r ?_ | refine k_x ?_ | refine b_n ?_ | refine b_r ?_ | refine b_y rfl ?_ | refine b_z rfl ?_ | refine l_r ?_ | refine l_x ?_ | refine k_seq ?_ | refine k_blk ?_ | refine k_reg ?_ | refine k_ret ?_ | refine k_exit ?_ | refine k_skip ?_ | refine Zs ?_ | refine Zn ?_ | refine Zu ?_ | refine Zg ?_))
    refine c_t rfl ?_
    (repeat (first | refine k_nil ?_ | refine k_n ?_ | refine k_r ?_ | refine k_x ?_ | refine b_n ?_ | refine b_r ?_ | refine b_y rfl ?_ | refine b_z rfl ?_ | refine l_r ?_ | refine l_x ?_ | refine k_seq ?_ | refine k_blk ?_ | refine k_reg ?_ | refine k_ret ?_ | refine k_exit ?_ | refine k_skip ?_ | refine Zs ?_))
    refine s_call (us := []) (zs := []) (by kernel_rfl) rfl rfl (awakeF w3 (hg.kp kw3)) ?_
    rintro _ w4 ⟨rfl, k4⟩
    (repeat (first | refine k_nil ?_ | refine k_n ?_ | refine k_r ?_ | refine k_x ?_ | refine b_n ?_ | refine b_r ?_ | refine b_y rfl ?_ | refine b_z rfl ?_ | refine l_r ?_ | refine l_x ?_ | refine k_seq ?_ | refine k_blk ?_ | refine k_reg ?_ | refine k_ret ?_ | refine k_exit ?_ | refine k_skip ?_ | refine Zs ?_))
    exact ret_1 rfl rfl ⟨rfl, kw3.no k4⟩
  | true =>
  have hfw := hfew.1 rfl
  obtain ⟨hf1, hf2, hf3⟩ := hfew.1 rfl
  have hnz : ∀ p ∈ c.ps, p.nm.size ≤ 1000000 := fun p hp => by have := hf1 p hp; omega
  (repeat (first | refine k_nil ?_ | refine k_n ?_ | refine k_r ?_ | refine k_x ?_ | refine b_n ?_ | refine b_r ?_ | refine b_y rfl ?_ | refine b_z rfl ?_ | refine l_r ?_ | refine l_x ?_ | refine k_seq ?_ | refine k_blk ?_ | refine k_reg ?_ | refine k_ret ?_ | refine k_exit ?_ | refine k_skip ?_ | refine Zs ?_ | refine Zn ?_ | refine Zu ?_ | refine Zg ?_))
  refine c_f rfl ?_
  (repeat (first | refine k_nil ?_ | refine k_n ?_ | refine k_r ?_ | refine k_x ?_ | refine b_n ?_ | refine b_r ?_ | refine b_y rfl ?_ | refine b_z rfl ?_ | refine l_r ?_ | refine l_x ?_ | refine k_seq ?_ | refine k_blk ?_ | refine k_reg ?_ | refine k_ret ?_ | refine k_exit ?_ | refine k_skip ?_ | refine Zs ?_))
  refine s_v (r_ldb (vs := [.slice ap c.ps.length cp, .slice al c.is.length cl]) rfl rfl rfl e3 rfl rfl) ?_
  refine s_call (us := []) (zs := []) (by kernel_rfl) rfl rfl (PrintF c ap al cp cl w3 (hg.kp kw3).tk (hg.kp kw3).lb (hg.kp kw3).sh (hp.kp0 kw3) (hi.kp0 kw3) (by omega) (by omega) hcp hcl hnz hwn (fun h => by have := few_txt h.1 hwn hfw; omega)) ?_
  rintro _ w4 ⟨k4, s, rfl, hs⟩
  have e4 := k4.get0 e3
  have kw4 := kw3.no k4
  (repeat (first | refine k_nil ?_ | refine k_n ?_ | refine k_r ?_ | refine k_x ?_ | refine b_n ?_ | refine b_r ?_ | refine b_y rfl ?_ | refine b_z rfl ?_ | refine l_r ?_ | refine l_x ?_ | refine k_seq ?_ | refine k_blk ?_ | refine k_reg ?_ | refine k_ret ?_ | refine k_exit ?_ | refine k_skip ?_ | refine Zs ?_))
  refine c_b rfl (fun hq => ?_) (fun hq => ?_)
  · have hq : (s.toList == (ByteArray.mk #[]).toList) = true := hq
    rw [eq_empty] at hq
    have hsz : s.size = 0 := of_decide_eq_true hq
    have hng : ¬ Gd c := fun h => by
      rcases hs with ⟨h', _⟩ | ⟨_, h'⟩
      · exact h' h
      · have := txt_ne h
        rw [← h', B_len] at this
        omega
    (repeat (first | refine k_nil ?_ | refine k_n ?_ | refine k_r ?_ | refine k_x ?_ | refine b_n ?_ | refine b_r ?_ | refine b_y rfl ?_ | refine b_z rfl ?_ | refine l_r ?_ | refine l_x ?_ | refine k_seq ?_ | refine k_blk ?_ | refine k_reg ?_ | refine k_ret ?_ | refine k_exit ?_ | refine k_skip ?_ | refine Zs ?_))
    refine s_v (r_ldb (vs := [.slice ap c.ps.length cp, .slice al c.is.length cl]) rfl rfl rfl e4 rfl rfl) ?_
    refine s_call (us := []) (zs := []) (by kernel_rfl) rfl rfl (GoodF c ap al cp cl w4 (hg.kp kw4).tk (hg.kp kw4).sh (hp.kp0 kw4) (hi.kp0 kw4) (by omega) (by omega) hcl hnz) ?_
    rintro _ w5 ⟨k5, r, rfl, hr⟩
    have hrf : r = false := by
      cases r with
      | true => exact (hng (hr.1 rfl)).elim
      | false => rfl
    subst hrf
    (repeat (first | refine k_nil ?_ | refine k_n ?_ | refine k_r ?_ | refine k_x ?_ | refine b_n ?_ | refine b_r ?_ | refine b_y rfl ?_ | refine b_z rfl ?_ | refine l_r ?_ | refine l_x ?_ | refine k_seq ?_ | refine k_blk ?_ | refine k_reg ?_ | refine k_ret ?_ | refine k_exit ?_ | refine k_skip ?_ | refine Zs ?_))
    exact ret_1 rfl rfl ⟨rfl, kw4.no k5⟩
  have hq : (s.toList == (ByteArray.mk #[]).toList) = false := hq
  rw [eq_empty] at hq
  have hsz : ¬ s.size = 0 := of_decide_eq_false hq
  obtain ⟨hgd, hB⟩ : Gd c ∧ B s = txt c := by
    rcases hs with ⟨_, h⟩ | h
    · exact (hsz h).elim
    · exact h
  have hTl := few_txt hgd.1 hwn hfw
  have hssz : s.size ≤ 18200 := by rw [← B_len, hB]; exact hTl
  have hcnt : (B s).countP (· == 10) = c.ps.length + c.is.length := by
    rw [hB, ← lns_length hgd.1]
    exact count_unl (lns c) (lns_ok hgd.1)
  (repeat (first | refine k_nil ?_ | refine k_n ?_ | refine k_r ?_ | refine k_x ?_ | refine b_n ?_ | refine b_r ?_ | refine b_y rfl ?_ | refine b_z rfl ?_ | refine l_r ?_ | refine l_x ?_ | refine k_seq ?_ | refine k_blk ?_ | refine k_reg ?_ | refine k_ret ?_ | refine k_exit ?_ | refine k_skip ?_ | refine Zs ?_))
  refine k_loop (σ := Nat) (fun i => [(1, .int .u16 cut), (2, .pointer (some ⟨b1, 0, none⟩)), (5, .string s), (6, .int .i64 (((B s).take i).countP (· == 10))), (28, .int .i64 s.size), (29, .int .i64 i)]) (fun i m => i ≤ s.size ∧ Kp No w4 m) (fun i => s.size - i) 0 ⟨rfl, rfl, rfl, rfl, rfl, rfl, trivial⟩ ⟨Nat.zero_le _, Kp.refl _ _⟩ ?_
  rintro i l m ⟨hi', km⟩
  have hcl' := List.countP_le_length (p := (· == 10)) (l := (B s).take i)
  rw [List.length_take, B_len] at hcl'
  have em := km.get0 e4
  have kwm := kw4.no km
  (repeat (first | refine k_nil ?_ | refine k_n ?_ | refine k_r ?_ | refine k_x ?_ | refine b_n ?_ | refine b_r ?_ | refine b_y rfl ?_ | refine b_z rfl ?_ | refine l_r ?_ | refine l_x ?_ | refine k_seq ?_ | refine k_blk ?_ | refine k_reg ?_ | refine k_ret ?_ | refine k_exit ?_ | refine k_skip ?_ | refine Zs ?_))
  refine c_dec rfl (fun hlt => ?_) (fun hge => ?_)
  · have hbt := B_at s i (by omega)
    have htk : (B s).take (i + 1) = (B s).take i ++ [bt s i] := by rw [List.take_add_one, hbt]; rfl
    (repeat (first | refine k_nil ?_ | refine k_n ?_ | refine k_r ?_ | refine k_x ?_ | refine b_n ?_ | refine b_r ?_ | refine b_y rfl ?_ | refine b_z rfl ?_ | refine l_r ?_ | refine l_x ?_ | refine k_seq ?_ | refine k_blk ?_ | refine k_reg ?_ | refine k_ret ?_ | refine k_exit ?_ | refine k_skip ?_ | refine Zs ?_))
    refine s_v (r_ix rfl rfl rfl (by omega) (by omega)) ?_
    (repeat (first | refine k_nil ?_ | refine k_n ?_ | refine k_r ?_ | refine k_x ?_ | refine b_n ?_ | refine b_r ?_ | refine b_y rfl ?_ | refine b_z rfl ?_ | refine l_r ?_ | refine l_x ?_ | refine k_seq ?_ | refine k_blk ?_ | refine k_reg ?_ | refine k_ret ?_ | refine k_exit ?_ | refine k_skip ?_ | refine Zs ?_))
    refine c_eq rfl (fun h10 => ?_) (fun h10 => ?_)
    · have hc1 : ((B s).take (i + 1)).countP (· == 10) = ((B s).take i).countP (· == 10) + 1 := by rw [htk, List.countP_append, h10]; rfl
      (repeat (first | refine k_nil ?_ | refine k_n ?_ | refine k_r ?_ | refine k_x ?_ | refine b_n ?_ | refine b_r ?_ | refine b_y rfl ?_ | refine b_z rfl ?_ | refine l_r ?_ | refine l_x ?_ | refine k_seq ?_ | refine k_blk ?_ | refine k_reg ?_ | refine k_ret ?_ | refine k_exit ?_ | refine k_skip ?_ | refine Zs ?_))
      exact l_next (i + 1) ⟨rfl, rfl, rfl, (by rw [hc1]; rfl), rfl, rfl, trivial⟩ ⟨by omega, km⟩ (by omega)
    · have hc1 : ((B s).take (i + 1)).countP (· == 10) = ((B s).take i).countP (· == 10) := by
        rw [htk, List.countP_append, List.countP_singleton]
        have : (bt s i == 10) = false := by simpa using h10
        rw [this]; rfl
      (repeat (first | refine k_nil ?_ | refine k_n ?_ | refine k_r ?_ | refine k_x ?_ | refine b_n ?_ | refine b_r ?_ | refine b_y rfl ?_ | refine b_z rfl ?_ | refine l_r ?_ | refine l_x ?_ | refine k_seq ?_ | refine k_blk ?_ | refine k_reg ?_ | refine k_ret ?_ | refine k_exit ?_ | refine k_skip ?_ | refine Zs ?_))
      exact l_next (i + 1) ⟨rfl, rfl, rfl, (by rw [hc1]; rfl), rfl, rfl, trivial⟩ ⟨by omega, km⟩ (by omega)
  obtain rfl : i = s.size := by omega
  rw [List.take_of_length_le (by rw [B_len]; omega), hcnt]
  obtain ⟨k, hk⟩ : ∃ k : Int, k = cut % (s.size : Int) := ⟨_, rfl⟩
  have hk0 : 0 ≤ k := by rw [hk]; exact Int.emod_nonneg _ (by omega)
  have hk1 : k < s.size := by rw [hk]; exact Int.emod_lt_of_pos _ (by omega)
  (repeat (first | refine k_nil ?_ | refine k_n ?_ | refine k_r ?_ | refine k_x ?_ | refine b_n ?_ | refine b_r ?_ | refine b_y rfl ?_ | refine b_z rfl ?_ | refine l_r ?_ | refine l_x ?_ | refine k_seq ?_ | refine k_blk ?_ | refine k_reg ?_ | refine k_ret ?_ | refine k_exit ?_ | refine k_skip ?_ | refine Zs ?_))
  rw [← hk]
  (repeat (first | refine k_nil ?_ | refine k_n ?_ | refine k_r ?_ | refine k_x ?_ | refine b_n ?_ | refine b_r ?_ | refine b_y rfl ?_ | refine b_z rfl ?_ | refine l_r ?_ | refine l_x ?_ | refine k_seq ?_ | refine k_blk ?_ | refine k_reg ?_ | refine k_ret ?_ | refine k_exit ?_ | refine k_skip ?_ | refine Zs ?_))
  refine s_v (r_sh rfl rfl rfl hk0 (by omega)) ?_
  have hBk : B (s.extract 0 k.toNat) = (B s).take k.toNat := by rw [B_extract, List.drop_zero]
  have hkl : (s.extract 0 k.toNat).size ≤ 18200 := by rw [← B_len, hBk, List.length_take, B_len]; omega
  refine s_call (us := []) (zs := []) (by kernel_rfl) rfl rfl (ParseF (s.extract 0 k.toNat) m (hg.kp kwm).tk (hg.kp kwm).lb (hg.kp kwm).sh (by omega)) ?_
  rintro _ w5 ⟨k5, d, n, e, bp, bl, dp, dl, rfl, hPR, _⟩
  rw [hBk] at hPR
  have e5 := k5.get0 em
  have kw5 := kwm.no k5
  (repeat (first | refine k_nil ?_ | refine k_n ?_ | refine k_r ?_ | refine k_x ?_ | refine b_n ?_ | refine b_r ?_ | refine b_y rfl ?_ | refine b_z rfl ?_ | refine l_r ?_ | refine l_x ?_ | refine k_seq ?_ | refine k_blk ?_ | refine k_reg ?_ | refine k_ret ?_ | refine k_exit ?_ | refine k_skip ?_ | refine Zs ?_))
  refine s_al (cs := [.slice none 0 0, .slice none 0 0]) rfl (fun b9 w6 n6 => ?_)
  have g6 := n6.ge
  refine s_st (vs := [.slice bp d.ps.length dp, .slice bl d.is.length dl]) rfl rfl rfl rfl rfl n6.blk (Nat.le_of_ble_eq_true rfl) (fun w7 s7 => ?_)
  have k57 : Kp No w5 w7 := n6.kp.trans s7.kp (fun q hq e => by have e : q = b9 := e; omega)
  have e7 := k57.get0 e5
  have kw7 := kw5.no k57
  (repeat (first | refine k_nil ?_ | refine k_n ?_ | refine k_r ?_ | refine k_x ?_ | refine b_n ?_ | refine b_r ?_ | refine b_y rfl ?_ | refine b_z rfl ?_ | refine l_r ?_ | refine l_x ?_ | refine k_seq ?_ | refine k_blk ?_ | refine k_reg ?_ | refine k_ret ?_ | refine k_exit ?_ | refine k_skip ?_ | refine Zs ?_))
  refine s_set 61 true rfl (by simp) ?_
  (repeat (first | refine k_nil ?_ | refine k_n ?_ | refine k_r ?_ | refine k_x ?_ | refine b_n ?_ | refine b_r ?_ | refine b_y rfl ?_ | refine b_z rfl ?_ | refine l_r ?_ | refine l_x ?_ | refine k_seq ?_ | refine k_blk ?_ | refine k_reg ?_ | refine k_ret ?_ | refine k_exit ?_ | refine k_skip ?_ | refine Zs ?_ | refine Zn ?_ | refine Zu ?_ | refine Zg ?_))
  by_cases hk2 : 0 < k
  · refine s_set 64 true rfl (decide_eq_true hk2) ?_
    (repeat (first | refine k_nil ?_ | refine k_n ?_ | refine k_r ?_ | refine k_x ?_ | refine b_n ?_ | refine b_r ?_ | refine b_y rfl ?_ | refine b_z rfl ?_ | refine l_r ?_ | refine l_x ?_ | refine k_seq ?_ | refine k_blk ?_ | refine k_reg ?_ | refine k_ret ?_ | refine k_exit ?_ | refine k_skip ?_ | refine Zs ?_ | refine Zn ?_ | refine Zu ?_ | refine Zg ?_))
    refine s_gv rfl (r_ix rfl rfl rfl (by omega) (by omega)) ?_
    (repeat (first | refine k_nil ?_ | refine k_n ?_ | refine k_r ?_ | refine k_x ?_ | refine b_n ?_ | refine b_r ?_ | refine b_y rfl ?_ | refine b_z rfl ?_ | refine l_r ?_ | refine l_x ?_ | refine k_seq ?_ | refine k_blk ?_ | refine k_reg ?_ | refine k_ret ?_ | refine k_exit ?_ | refine k_skip ?_ | refine Zs ?_ | refine Zn ?_ | refine Zu ?_ | refine Zg ?_))
    by_cases h10 : bt s (k - 1) = 10
    · refine s_set 71 true rfl (by simp [h10]) ?_
      (repeat (first | refine k_nil ?_ | refine k_n ?_ | refine k_r ?_ | refine k_x ?_ | refine b_n ?_ | refine b_r ?_ | refine b_y rfl ?_ | refine b_z rfl ?_ | refine l_r ?_ | refine l_x ?_ | refine k_seq ?_ | refine k_blk ?_ | refine k_reg ?_ | refine k_ret ?_ | refine k_exit ?_ | refine k_skip ?_ | refine Zs ?_ | refine Zn ?_ | refine Zu ?_ | refine Zg ?_))
      exact ret_1 rfl rfl ⟨rfl, kw7⟩
    · refine s_set 71 false rfl (by simp [h10]) ?_
      have h3 : e = 3 := hPR.cut (by rw [List.length_take, B_len]; omega) (fun x hx => by
        rw [List.getLast?_eq_getElem?, List.length_take, B_len, List.getElem?_take, if_pos (by omega), B_at s _ (by omega)] at hx
        have hx := Option.some.inj hx
        rw [show ((min k.toNat s.size - 1 : Nat) : Int) = k - 1 from by omega] at hx
        rw [← hx]; exact h10)
      (repeat (first | refine k_nil ?_ | refine k_n ?_ | refine k_r ?_ | refine k_x ?_ | refine b_n ?_ | refine b_r ?_ | refine b_y rfl ?_ | refine b_z rfl ?_ | refine l_r ?_ | refine l_x ?_ | refine k_seq ?_ | refine k_blk ?_ | refine k_reg ?_ | refine k_ret ?_ | refine k_exit ?_ | refine k_skip ?_ | refine Zs ?_ | refine Zn ?_ | refine Zu ?_ | refine Zg ?_))
      exact ret_1 rfl rfl ⟨by rw [h3]; rfl, kw7⟩
  · refine s_set 64 false rfl (decide_eq_false hk2) ?_
    have h3 : e = 3 := hPR.cut (by rw [List.length_take, B_len]; omega) (fun x hx => by
      rw [show k.toNat = 0 from by omega] at hx
      simp at hx)
    (repeat (first | refine k_nil ?_ | refine k_n ?_ | refine k_r ?_ | refine k_x ?_ | refine b_n ?_ | refine b_r ?_ | refine b_y rfl ?_ | refine b_z rfl ?_ | refine l_r ?_ | refine l_x ?_ | refine k_seq ?_ | refine k_blk ?_ | refine k_reg ?_ | refine k_ret ?_ | refine k_exit ?_ | refine k_skip ?_ | refine Zs ?_ | refine Zn ?_ | refine Zu ?_ | refine Zg ?_))
    exact ret_1 rfl rfl ⟨by rw [h3]; rfl, kw7⟩
end Cd
end Go.Proofs.YtpamkidcmjfieaaGreatDoor
