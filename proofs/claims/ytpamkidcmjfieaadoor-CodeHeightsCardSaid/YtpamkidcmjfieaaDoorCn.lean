/- Code: is a text a name; a line cut off. -/
import Derived.Test.YtpamkidcmjfieaaDoorLc
import Derived.Test.YtpamkidcmjfieaaDoorTc
import Derived.Test.YtpamkidcmjfieaaDoorCd
namespace Go.Proofs.YtpamkidcmjfieaaDoor
open Go Go.RowKit Fw Nu
set_option linter.unusedVariables false
set_option maxRecDepth 20000
namespace Cd
/-- Is a text a name? -/
def nm (L : List Int) : Bool := (Tk.allT L).2.2 == 0 && ((Tk.allT L).1.length == 2 && (match (Tk.allT L).1[0]? with | some t => t.1 == 1 && (t.2.1 == 0 && t.2.2 == (L.length : Int)) | none => false))
theorem nm_of {L : List Int} {t0 t1 : Tk.T3} (h : (Tk.allT L).2.2 = 0) (h1 : (Tk.allT L).1 = [t0, t1]) : nm L = (t0.1 == 1 && (t0.2.1 == 0 && t0.2.2 == (L.length : Int))) := by
  simp [nm, h, h1]
theorem nm_code {L : List Int} (h : ¬ (Tk.allT L).2.2 = 0) : nm L = false := by simp [nm, h]
theorem nm_len {L : List Int} (h : ¬ (Tk.allT L).1.length = 2) : nm L = false := by simp [nm, h]
theorem name (s : ByteArray) (w : World) (hg : Tk.Glob w) (hs : s.size ≤ 1000000) : Ret Tryd.prog 26 [.string s] w fun v w1 => v = .bool (nm (B s)) ∧ Kp No w w1 := by
  refine ret_enter Tryd.func26 rfl Tryd.ntmps26 rfl ?_
  (repeat (first | refine k_nil ?_ | refine k_n ?_ | refine k_r ?_ | refine k_x ?_ | refine b_n ?_ | refine b_r ?_ | refine b_y rfl ?_ | refine b_z rfl ?_ | refine l_r ?_ | refine l_x ?_ | refine k_seq ?_ | refine k_blk ?_ | refine k_reg ?_ | refine k_ret ?_ | refine k_exit ?_ | refine k_skip ?_ | refine Zs ?_))
  refine s_call (us := []) (zs := []) (by kernel_rfl) rfl rfl (Tk.All s w hg hs) ?_
  rintro _ w1 ⟨u, rfl, own, k1⟩
  have own' := own
  obtain ⟨a, c, rfl, _, _, _⟩ := own_read own
  have hrd := Tk.RdT.of own'
  (repeat (first | refine k_nil ?_ | refine k_n ?_ | refine k_r ?_ | refine k_x ?_ | refine b_n ?_ | refine b_r ?_ | refine b_y rfl ?_ | refine b_z rfl ?_ | refine l_r ?_ | refine l_x ?_ | refine k_seq ?_ | refine k_blk ?_ | refine k_reg ?_ | refine k_ret ?_ | refine k_exit ?_ | refine k_skip ?_ | refine Zs ?_))
  by_cases hc : (Tk.allT (B s)).2.2 = 0
  case neg =>
    refine s_set 14 false rfl (by simp [hc]) ?_
    (repeat (first | refine k_nil ?_ | refine k_n ?_ | refine k_r ?_ | refine k_x ?_ | refine b_n ?_ | refine b_r ?_ | refine b_y rfl ?_ | refine b_z rfl ?_ | refine l_r ?_ | refine l_x ?_ | refine k_seq ?_ | refine k_blk ?_ | refine k_reg ?_ | refine k_ret ?_ | refine k_exit ?_ | refine k_skip ?_ | refine Zs ?_ | refine Zn ?_ | refine Zu ?_ | refine Zg ?_))
    exact ret_1 rfl rfl ⟨by rw [nm_code hc], k1⟩
  refine s_set 14 true rfl (by simp [hc]) ?_
  (repeat (first | refine k_nil ?_ | refine k_n ?_ | refine k_r ?_ | refine k_x ?_ | refine b_n ?_ | refine b_r ?_ | refine b_y rfl ?_ | refine b_z rfl ?_ | refine l_r ?_ | refine l_x ?_ | refine k_seq ?_ | refine k_blk ?_ | refine k_reg ?_ | refine k_ret ?_ | refine k_exit ?_ | refine k_skip ?_ | refine Zs ?_ | refine Zn ?_ | refine Zu ?_ | refine Zg ?_))
  by_cases hl : (Tk.allT (B s)).1.length = 2
  case neg =>
    refine s_set 19 false rfl (by simp; omega) ?_
    (repeat (first | refine k_nil ?_ | refine k_n ?_ | refine k_r ?_ | refine k_x ?_ | refine b_n ?_ | refine b_r ?_ | refine b_y rfl ?_ | refine b_z rfl ?_ | refine l_r ?_ | refine l_x ?_ | refine k_seq ?_ | refine k_blk ?_ | refine k_reg ?_ | refine k_ret ?_ | refine k_exit ?_ | refine k_skip ?_ | refine Zs ?_ | refine Zn ?_ | refine Zu ?_ | refine Zg ?_))
    exact ret_1 rfl rfl ⟨by rw [nm_len hl], k1⟩
  refine s_set 19 true rfl (by simp; omega) ?_
  obtain ⟨t0, t1, hts⟩ : ∃ t0 t1, (Tk.allT (B s)).1 = [t0, t1] := by
    match h : (Tk.allT (B s)).1, hl with
    | [t0, t1], _ => exact ⟨t0, t1, rfl⟩
  obtain ⟨b, o, rfl, hcell⟩ := hrd.at (i := 0) (t := t0) (by rw [hts]; rfl)
  have c0 : w1.cell? ⟨b, o + (0 : Int).toNat * 3, none⟩ = some (.int .i64 t0.1) := hcell w1 (Kp.refl _ _) 0 (by decide)
  have hlen2 : (((Tk.allT (B s)).1.length : Nat) : Int) = 2 := by omega
  (repeat (first | refine k_nil ?_ | refine k_n ?_ | refine k_r ?_ | refine k_x ?_ | refine b_n ?_ | refine b_r ?_ | refine b_y rfl ?_ | refine b_z rfl ?_ | refine l_r ?_ | refine l_x ?_ | refine k_seq ?_ | refine k_blk ?_ | refine k_reg ?_ | refine k_ret ?_ | refine k_exit ?_ | refine k_skip ?_ | refine Zs ?_ | refine Zn ?_ | refine Zu ?_ | refine Zg ?_))
  refine s_gv rfl (r_ia (i := 0) rfl rfl rfl rfl (by decide) (by omega)) ?_
  (repeat (first | refine k_nil ?_ | refine k_n ?_ | refine k_r ?_ | refine k_x ?_ | refine b_n ?_ | refine b_r ?_ | refine b_y rfl ?_ | refine b_z rfl ?_ | refine l_r ?_ | refine l_x ?_ | refine k_seq ?_ | refine k_blk ?_ | refine k_reg ?_ | refine k_ret ?_ | refine k_exit ?_ | refine k_skip ?_ | refine Zs ?_ | refine Zn ?_ | refine Zu ?_ | refine Zg ?_))
  by_cases h1 : t0.1 = 1
  case neg =>
    refine s_set 26 false rfl (by simp [h1]) ?_
    (repeat (first | refine k_nil ?_ | refine k_n ?_ | refine k_r ?_ | refine k_x ?_ | refine b_n ?_ | refine b_r ?_ | refine b_y rfl ?_ | refine b_z rfl ?_ | refine l_r ?_ | refine l_x ?_ | refine k_seq ?_ | refine k_blk ?_ | refine k_reg ?_ | refine k_ret ?_ | refine k_exit ?_ | refine k_skip ?_ | refine Zs ?_ | refine Zn ?_ | refine Zu ?_ | refine Zg ?_))
    exact ret_1 rfl rfl ⟨by rw [nm_of hc hts]; simp [h1], k1⟩
  refine s_set 26 true rfl (by simp [h1]) ?_
  (repeat (first | refine k_nil ?_ | refine k_n ?_ | refine k_r ?_ | refine k_x ?_ | refine b_n ?_ | refine b_r ?_ | refine b_y rfl ?_ | refine b_z rfl ?_ | refine l_r ?_ | refine l_x ?_ | refine k_seq ?_ | refine k_blk ?_ | refine k_reg ?_ | refine k_ret ?_ | refine k_exit ?_ | refine k_skip ?_ | refine Zs ?_ | refine Zn ?_ | refine Zu ?_ | refine Zg ?_))
  refine s_gv rfl (r_ia (i := 0) rfl rfl rfl rfl (by decide) (by omega)) ?_
  (repeat (first | refine k_nil ?_ | refine k_n ?_ | refine k_r ?_ | refine k_x ?_ | refine b_n ?_ | refine b_r ?_ | refine b_y rfl ?_ | refine b_z rfl ?_ | refine l_r ?_ | refine l_x ?_ | refine k_seq ?_ | refine k_blk ?_ | refine k_reg ?_ | refine k_ret ?_ | refine k_exit ?_ | refine k_skip ?_ | refine Zs ?_ | refine Zn ?_ | refine Zu ?_ | refine Zg ?_))
  refine s_gv rfl (r_lda (vs := [.int .i64 t0.2.1, .int .i64 t0.2.2]) rfl rfl rfl rfl (fun j hj => by
    have := hcell w1 (Kp.refl _ _) (j + 1) (by omega)
    rw [← Nat.add_assoc] at this
    match j, hj with
    | 0, _ => exact this
    | 1, _ => exact this)) ?_
  (repeat (first | refine k_nil ?_ | refine k_n ?_ | refine k_r ?_ | refine k_x ?_ | refine b_n ?_ | refine b_r ?_ | refine b_y rfl ?_ | refine b_z rfl ?_ | refine l_r ?_ | refine l_x ?_ | refine k_seq ?_ | refine k_blk ?_ | refine k_reg ?_ | refine k_ret ?_ | refine k_exit ?_ | refine k_skip ?_ | refine Zs ?_ | refine Zn ?_ | refine Zu ?_ | refine Zg ?_))
  refine s_gv rfl (r_eqs [88] (by kernel_rfl) (by kernel_rfl) rfl rfl rfl) ?_
  (repeat (first | refine k_nil ?_ | refine k_n ?_ | refine k_r ?_ | refine k_x ?_ | refine b_n ?_ | refine b_r ?_ | refine b_y rfl ?_ | refine b_z rfl ?_ | refine l_r ?_ | refine l_x ?_ | refine k_seq ?_ | refine k_blk ?_ | refine k_reg ?_ | refine k_ret ?_ | refine k_exit ?_ | refine k_skip ?_ | refine Zs ?_ | refine Zn ?_ | refine Zu ?_ | refine Zg ?_))
  refine ret_1 rfl rfl ⟨?_, k1⟩
  rw [nm_of hc hts, B_len]
  simp [h1]
/-- stringslite.Cut at a line end. -/
theorem cutL (s : ByteArray) (w : World) (hs : s.size ≤ 1000000) : Ret Tryd.prog 23 [.string s, .string ⟨#[10]⟩] w fun v w1 => (∃ a b f, v = .tuple #[.string a, .string b, .bool f] ∧ ((Sp.fst 10 (B s) = none ∧ a = s ∧ f = false) ∨ ∃ i, Sp.fst 10 (B s) = some i ∧ B a = (B s).take i ∧ B b = (B s).drop (i + 1) ∧ f = true)) ∧ Kp No w w1 := by
  refine ret_enter Tryd.func23 rfl Tryd.ntmps23 rfl ?_
  (repeat (first | refine k_nil ?_ | refine k_n ?_ | refine k_r ?_ | refine k_x ?_ | refine b_n ?_ | refine b_r ?_ | refine b_y rfl ?_ | refine b_z rfl ?_ | refine l_r ?_ | refine l_x ?_ | refine k_seq ?_ | refine k_blk ?_ | refine k_reg ?_ | refine k_ret ?_ | refine k_exit ?_ | refine k_skip ?_ | refine Zs ?_))
  have hI : Ret Tryd.prog 35 [.string s, .string ⟨#[10]⟩] w fun v w1 => v = .int .i64 (match Sp.fst 10 (B s) with | some i => (i : Int) | none => -1) ∧ w1 = w := by
    refine Calls.mono (Tryd.stringslite_Index_one s 10 w) ?_
    rintro e w1 ⟨rfl, rfl⟩
    exact ⟨_, rfl, congrArg _ (Sp.index_B s 10 (by decide) (by decide)), rfl⟩
  refine s_call (us := []) (zs := []) (by kernel_rfl) rfl rfl hI ?_
  rintro _ w1 ⟨rfl, rfl⟩
  cases h : Sp.fst 10 (B s) with
  | none =>
    simp only
    (repeat (first | refine k_nil ?_ | refine k_n ?_ | refine k_r ?_ | refine k_x ?_ | refine b_n ?_ | refine b_r ?_ | refine b_y rfl ?_ | refine b_z rfl ?_ | refine l_r ?_ | refine l_x ?_ | refine k_seq ?_ | refine k_blk ?_ | refine k_reg ?_ | refine k_ret ?_ | refine k_exit ?_ | refine k_skip ?_ | refine Zs ?_))
    refine c_dec rfl (fun h0 => (by omega : False).elim) (fun _ => ?_)
    (repeat (first | refine k_nil ?_ | refine k_n ?_ | refine k_r ?_ | refine k_x ?_ | refine b_n ?_ | refine b_r ?_ | refine b_y rfl ?_ | refine b_z rfl ?_ | refine l_r ?_ | refine l_x ?_ | refine k_seq ?_ | refine k_blk ?_ | refine k_reg ?_ | refine k_ret ?_ | refine k_exit ?_ | refine k_skip ?_ | refine Zs ?_))
    exact ret_3 rfl rfl rfl rfl ⟨⟨s, _, false, rfl, .inl ⟨by first | trivial | rfl, rfl, rfl⟩⟩, Kp.refl _ _⟩
  | some i =>
    simp only
    have hi := (Sp.fst_some h).1
    have h10 : (ByteArray.mk #[10]).size = 1 := rfl
    rw [B_len] at hi
    (repeat (first | refine k_nil ?_ | refine k_n ?_ | refine k_r ?_ | refine k_x ?_ | refine b_n ?_ | refine b_r ?_ | refine b_y rfl ?_ | refine b_z rfl ?_ | refine l_r ?_ | refine l_x ?_ | refine k_seq ?_ | refine k_blk ?_ | refine k_reg ?_ | refine k_ret ?_ | refine k_exit ?_ | refine k_skip ?_ | refine Zs ?_))
    refine c_dec rfl (fun _ => ?_) (fun h0 => (by omega : False).elim)
    (repeat (first | refine k_nil ?_ | refine k_n ?_ | refine k_r ?_ | refine k_x ?_ | refine b_n ?_ | refine b_r ?_ | refine b_y rfl ?_ | refine b_z rfl ?_ | refine l_r ?_ | refine l_x ?_ | refine k_seq ?_ | refine k_blk ?_ | refine k_reg ?_ | refine k_ret ?_ | refine k_exit ?_ | refine k_skip ?_ | refine Zs ?_))
    refine k_q (by kernel_rfl) (by kernel_rfl) ?_
    (repeat (first | refine Zq ?_ | refine Zqn ?_ | refine Zqu ?_ | refine Zqg ?_))
    refine q_v (fun w' hw => r_sh rfl rfl rfl (by omega) (by omega)) ?_
    (repeat (first | refine Zq ?_ | refine Zqn ?_ | refine Zqu ?_ | refine Zqg ?_))
    refine q_v (fun w' hw => r_sl rfl rfl rfl (by omega) (by omega)) ?_
    (repeat (first | refine Zq ?_ | refine Zqn ?_ | refine Zqu ?_ | refine Zqg ?_))
    refine q_nil (fun m2 k2 => ?_)
    (repeat (first | refine k_nil ?_ | refine k_n ?_ | refine k_r ?_ | refine k_x ?_ | refine b_n ?_ | refine b_r ?_ | refine b_y rfl ?_ | refine b_z rfl ?_ | refine l_r ?_ | refine l_x ?_ | refine k_seq ?_ | refine k_blk ?_ | refine k_reg ?_ | refine k_ret ?_ | refine k_exit ?_ | refine k_skip ?_ | refine Zs ?_))
    refine ret_3 rfl rfl rfl rfl ⟨⟨_, _, true, rfl, .inr ⟨i, by first | rfl | trivial, ?_, ?_, rfl⟩⟩, k2⟩
    · rw [B_extract, List.drop_zero, Int.toNat_natCast]
    · rw [B_extract, List.take_of_length_le (by rw [B_len]; omega)]
      congr 1
theorem cut' (s : ByteArray) (w : World) (hs : s.size ≤ 1000000) : Ret Tryd.prog 12 [.string s, .string ⟨#[10]⟩] w fun v w1 => (∃ a b f, v = .tuple #[.string a, .string b, .bool f] ∧ ((Sp.fst 10 (B s) = none ∧ a = s ∧ f = false) ∨ ∃ i, Sp.fst 10 (B s) = some i ∧ B a = (B s).take i ∧ B b = (B s).drop (i + 1) ∧ f = true)) ∧ Kp No w w1 := by
  refine ret_enter Tryd.func12 rfl Tryd.ntmps12 rfl ?_
  (repeat (first | refine k_nil ?_ | refine k_n ?_ | refine k_r ?_ | refine k_x ?_ | refine b_n ?_ | refine b_r ?_ | refine b_y rfl ?_ | refine b_z rfl ?_ | refine l_r ?_ | refine l_x ?_ | refine k_seq ?_ | refine k_blk ?_ | refine k_reg ?_ | refine k_ret ?_ | refine k_exit ?_ | refine k_skip ?_ | refine Zs ?_))
  refine s_call (us := []) (zs := []) (by kernel_rfl) rfl rfl (cutL s w hs) ?_
  rintro _ w1 ⟨⟨a, b, f, rfl, h⟩, k1⟩
  (repeat (first | refine k_nil ?_ | refine k_n ?_ | refine k_r ?_ | refine k_x ?_ | refine b_n ?_ | refine b_r ?_ | refine b_y rfl ?_ | refine b_z rfl ?_ | refine l_r ?_ | refine l_x ?_ | refine k_seq ?_ | refine k_blk ?_ | refine k_reg ?_ | refine k_ret ?_ | refine k_exit ?_ | refine k_skip ?_ | refine Zs ?_))
  exact ret_3 rfl rfl rfl rfl ⟨⟨a, b, f, rfl, h⟩, k1⟩
end Cd
end Go.Proofs.YtpamkidcmjfieaaDoor
