/- The document's Decimal and Number tell ints as they are told; Ints compares. -/
import Derived.Test.YtpamkidcmjfieaaGreatDoorFz
import Derived.Test.YtpamkidcmjfieaaGreatDoorSp
import Derived.Test.YtpamkidcmjfieaaGreatDoorChecked
namespace Go.Proofs.YtpamkidcmjfieaaGreatDoor
open Go Go.RowKit Fw Nu
set_option linter.unusedVariables false
namespace Nu
theorem wrap_u8 {n : Int} (h : 0 ≤ n ∧ n < 256) : IntKind.u8.wrap n = n := by
  simp [IntKind.wrap, IntKind.bits, IntKind.signed]; omega
theorem empty_B : B ⟨#[]⟩ = [] := by simp [B]
theorem eq_empty (s : ByteArray) : (s.toList == (ByteArray.mk #[]).toList) = decide (s.size = 0) := by
  rw [str_eq, empty_B]
  by_cases h : s.size = 0
  · have : B s = [] := List.length_eq_zero_iff.1 (by rw [B_len]; exact h)
    simp [h, this]
  · have : B s ≠ [] := fun e => h (by rw [← B_len, e]; rfl)
    simp [h, this]
theorem ieq_f {a b : Int} (h : ¬ a = b) : (a == b) = false := by simpa using h
theorem ieq_t {a b : Int} (h : a = b) : (a == b) = true := by simpa using h
set_option maxHeartbeats 1000000 in
set_option maxRecDepth 20000 in
theorem decPos (n : Nat) (w : World) (hn : n ≤ 9223372036854775807) : Ret Tryz.prog 34 [.int .i64 n] w fun v w1 => (∃ s, v = .string s ∧ B s = dcu n) ∧ Kp No w w1 := by
  refine ret_enter Tryz.func34 rfl Tryz.ntmps34 rfl ?_
  (repeat (first | refine k_nil ?_ | refine k_n ?_ | refine k_r ?_ | refine k_x ?_ | refine b_n ?_ | refine b_r ?_ | refine b_y rfl ?_ | refine b_z rfl ?_ | refine l_r ?_ | refine l_x ?_ | refine k_seq ?_ | refine k_blk ?_ | refine k_reg ?_ | refine k_ret ?_ | refine k_exit ?_ | refine k_skip ?_ | refine Zs ?_))
  refine c_eq rfl (fun h => by omega) (fun _ => ?_)
  (repeat (first | refine k_nil ?_ | refine k_n ?_ | refine k_r ?_ | refine k_x ?_ | refine b_n ?_ | refine b_r ?_ | refine b_y rfl ?_ | refine b_z rfl ?_ | refine l_r ?_ | refine l_x ?_ | refine k_seq ?_ | refine k_blk ?_ | refine k_reg ?_ | refine k_ret ?_ | refine k_exit ?_ | refine k_skip ?_ | refine Zs ?_))
  refine c_dec rfl (fun h => by omega) (fun _ => ?_)
  (repeat (first | refine k_nil ?_ | refine k_n ?_ | refine k_r ?_ | refine k_x ?_ | refine b_n ?_ | refine b_r ?_ | refine b_y rfl ?_ | refine b_z rfl ?_ | refine l_r ?_ | refine l_x ?_ | refine k_seq ?_ | refine k_blk ?_ | refine k_reg ?_ | refine k_ret ?_ | refine k_exit ?_ | refine k_skip ?_ | refine Zs ?_))
  have hp19 : (10 : Nat) ^ (18 + 1) = 10000000000000000000 := by decide
  have hlen : (dcu n).length ≤ 19 := dcu_len 18 n (by omega)
  clear hp19
  refine k_cutb (σ := ByteArray) (fun s => [(3, .string s)]) (fun s a => B s = dcu n ∧ Kp No w a) ?_ ?_
  · refine k_loop (σ := Nat × ByteArray) (fun t => [(0, .int .i64 t.1), (3, .string t.2)])
      (fun t a => dcu n = (if t.1 = 0 ∧ t.2.size ≠ 0 then [] else dcu t.1) ++ B t.2 ∧ t.1 ≤ n ∧ Kp No w a) (fun t => 2 * t.1 + (if t.2.size = 0 then 1 else 0)) (n, ⟨#[]⟩) ⟨rfl, rfl, trivial⟩
      ⟨by rw [if_neg (by rintro ⟨_, h⟩; exact h rfl), empty_B, List.append_nil], Nat.le_refl _, Kp.refl _ _⟩ ?_
    rintro ⟨m, s⟩ l a ⟨e, hm, ka⟩
    simp only at e hm
    have hs : s.size ≤ 19 := by
      have := congrArg List.length e
      rw [List.length_append, B_len] at this; omega
    refine k_cut (σ := Unit) (fun _ => [(0, .int .i64 m), (3, .string s)]) (fun _ a' => a' = a ∧ (0 < m ∨ s.size = 0)) ?_ ?_
    · (repeat (first | refine k_nil ?_ | refine k_n ?_ | refine k_r ?_ | refine k_x ?_ | refine b_n ?_ | refine b_r ?_ | refine b_y rfl ?_ | refine b_z rfl ?_ | refine l_r ?_ | refine l_x ?_ | refine k_seq ?_ | refine k_blk ?_ | refine k_reg ?_ | refine k_ret ?_ | refine k_exit ?_ | refine k_skip ?_ | refine Zs ?_))
      by_cases h0 : 0 < m
      · refine s_set 14 true rfl (by simp; omega) ?_
        (repeat (first | refine k_nil ?_ | refine k_n ?_ | refine k_r ?_ | refine k_x ?_ | refine b_n ?_ | refine b_r ?_ | refine b_y rfl ?_ | refine b_z rfl ?_ | refine l_r ?_ | refine l_x ?_ | refine k_seq ?_ | refine k_blk ?_ | refine k_reg ?_ | refine k_ret ?_ | refine k_exit ?_ | refine k_skip ?_ | refine Zs ?_ | refine Zn ?_ | refine Zu ?_ | refine Zg ?_))
        refine c_t rfl ?_
        (repeat (first | refine k_nil ?_ | refine k_n ?_ | refine k_r ?_ | refine k_x ?_ | refine b_n ?_ | refine b_r ?_ | refine b_y rfl ?_ | refine b_z rfl ?_ | refine l_r ?_ | refine l_x ?_ | refine k_seq ?_ | refine k_blk ?_ | refine k_reg ?_ | refine k_ret ?_ | refine k_exit ?_ | refine k_skip ?_ | refine Zs ?_))
        exact l_cut () ⟨rfl, rfl, trivial⟩ ⟨rfl, .inl h0⟩
      · refine s_set 14 false rfl (by simp; omega) ?_
        (repeat (first | refine k_nil ?_ | refine k_n ?_ | refine k_r ?_ | refine k_x ?_ | refine b_n ?_ | refine b_r ?_ | refine b_y rfl ?_ | refine b_z rfl ?_ | refine l_r ?_ | refine l_x ?_ | refine k_seq ?_ | refine k_blk ?_ | refine k_reg ?_ | refine k_ret ?_ | refine k_exit ?_ | refine k_skip ?_ | refine Zs ?_ | refine Zn ?_ | refine Zu ?_ | refine Zg ?_))
        refine c_b rfl (fun hb => ?_) (fun hb => ?_)
        · rw [eq_empty] at hb
          (repeat (first | refine k_nil ?_ | refine k_n ?_ | refine k_r ?_ | refine k_x ?_ | refine b_n ?_ | refine b_r ?_ | refine b_y rfl ?_ | refine b_z rfl ?_ | refine l_r ?_ | refine l_x ?_ | refine k_seq ?_ | refine k_blk ?_ | refine k_reg ?_ | refine k_ret ?_ | refine k_exit ?_ | refine k_skip ?_ | refine Zs ?_))
          exact l_cut () ⟨rfl, rfl, trivial⟩ ⟨rfl, .inr (of_decide_eq_true hb)⟩
        · rw [eq_empty] at hb
          have hb := of_decide_eq_false hb
          (repeat (first | refine k_nil ?_ | refine k_n ?_ | refine k_r ?_ | refine k_x ?_ | refine b_n ?_ | refine b_r ?_ | refine b_y rfl ?_ | refine b_z rfl ?_ | refine l_r ?_ | refine l_x ?_ | refine k_seq ?_ | refine k_blk ?_ | refine k_reg ?_ | refine k_ret ?_ | refine k_exit ?_ | refine k_skip ?_ | refine Zs ?_))
          refine l_cut s ⟨rfl, trivial⟩ ⟨?_, ka⟩
          rw [e, if_pos ⟨by omega, hb⟩, List.nil_append]
    rintro _ l a' ⟨rfl, hgo⟩
    (repeat (first | refine k_nil ?_ | refine k_n ?_ | refine k_r ?_ | refine k_x ?_ | refine b_n ?_ | refine b_r ?_ | refine b_y rfl ?_ | refine b_z rfl ?_ | refine l_r ?_ | refine l_x ?_ | refine k_seq ?_ | refine k_blk ?_ | refine k_reg ?_ | refine k_ret ?_ | refine k_exit ?_ | refine k_skip ?_ | refine Zs ?_))
    have hd : 0 ≤ (m : Int) % 10 ∧ (m : Int) % 10 < 10 := by omega
    refine s_re 21 (v' := .int .u8 (48 + (m : Int) % 10)) rfl (congrArg _ (wrap_u8 (by omega))) ?_
    refine s_bs rfl (fun b1 w1 n1 => ?_)
    refine s_v (r_b2s (xs := [48 + (m : Int) % 10]) rfl rfl rfl rfl rfl (fun j u hj => cell_of_blk n1.blk (by
      cases j with
      | zero => simp at hj; subst hj; rfl
      | succ j => simp at hj))) ?_
    obtain ⟨d, hd'⟩ : ∃ d, strOfNums [48 + (m : Int) % 10] = d := ⟨_, rfl⟩
    have hBd : B d = [48 + (m : Int) % 10] := by rw [← hd']; exact B_nums (fun c hc => by simp at hc; omega)
    have hd1 : d.size = 1 := by rw [← B_len, hBd]; rfl
    rw [hd']
    (repeat (first | refine k_nil ?_ | refine k_n ?_ | refine k_r ?_ | refine k_x ?_ | refine b_n ?_ | refine b_r ?_ | refine b_y rfl ?_ | refine b_z rfl ?_ | refine l_r ?_ | refine l_x ?_ | refine k_seq ?_ | refine k_blk ?_ | refine k_reg ?_ | refine k_ret ?_ | refine k_exit ?_ | refine k_skip ?_ | refine Zs ?_))
    refine s_v (r_cat rfl rfl (by omega)) ?_
    (repeat (first | refine k_nil ?_ | refine k_n ?_ | refine k_r ?_ | refine k_x ?_ | refine b_n ?_ | refine b_r ?_ | refine b_y rfl ?_ | refine b_z rfl ?_ | refine l_r ?_ | refine l_x ?_ | refine k_seq ?_ | refine k_blk ?_ | refine k_reg ?_ | refine k_ret ?_ | refine k_exit ?_ | refine k_skip ?_ | refine Zs ?_))
    refine s_v (r_quo rfl rfl (by omega) (by omega) (by omega)) ?_
    (repeat (first | refine k_nil ?_ | refine k_n ?_ | refine k_r ?_ | refine k_x ?_ | refine b_n ?_ | refine b_r ?_ | refine b_y rfl ?_ | refine b_z rfl ?_ | refine l_r ?_ | refine l_x ?_ | refine k_seq ?_ | refine k_blk ?_ | refine k_reg ?_ | refine k_ret ?_ | refine k_exit ?_ | refine k_skip ?_ | refine Zs ?_))
    have hcat : B (d ++ s) = (48 + (m : Int) % 10) :: B s := by rw [B_append, hBd]; rfl
    have hsz : (d ++ s).size = s.size + 1 := by rw [← B_len, hcat, List.length_cons, B_len]
    refine l_next (m / 10, d ++ s) ⟨rfl, rfl, trivial⟩ ⟨?_, ?_, ka.no n1.kp⟩ ?_
    · show dcu n = (if m / 10 = 0 ∧ (d ++ s).size ≠ 0 then [] else dcu (m / 10)) ++ B (d ++ s)
      rw [e, hcat, hsz]
      have h1 : ¬ (m = 0 ∧ s.size ≠ 0) := by omega
      rw [if_neg h1, dcu_eq]
      by_cases h10 : m < 10
      · rw [if_pos h10, if_pos ⟨by omega, by omega⟩]
        have : (m : Int) % 10 = m := by omega
        rw [this]; rfl
      · rw [if_neg h10, if_neg (by omega)]
        have : ((m % 10 : Nat) : Int) = (m : Int) % 10 := by omega
        rw [this, List.append_assoc]; rfl
    · show m / 10 ≤ n
      omega
    · show 2 * (m / 10) + (if (d ++ s).size = 0 then 1 else 0) < 2 * m + (if s.size = 0 then 1 else 0)
      rw [hsz, if_neg (by omega)]
      split <;> omega
  rintro s l a ⟨hs, ka⟩
  (repeat (first | refine k_nil ?_ | refine k_n ?_ | refine k_r ?_ | refine k_x ?_ | refine b_n ?_ | refine b_r ?_ | refine b_y rfl ?_ | refine b_z rfl ?_ | refine l_r ?_ | refine l_x ?_ | refine k_seq ?_ | refine k_blk ?_ | refine k_reg ?_ | refine k_ret ?_ | refine k_exit ?_ | refine k_skip ?_ | refine Zs ?_))
  exact ret_1 rfl rfl ⟨⟨s, rfl, hs⟩, ka⟩
set_option maxRecDepth 20000 in
/-- The document's Decimal. -/
theorem Decimal (n : Int) (w : World) (hn : I64 n) : Ret Tryz.prog 34 [.int .i64 n] w fun v w1 => (∃ s, v = .string s ∧ B s = dc n) ∧ Kp No w w1 := by
  obtain ⟨h1, h2⟩ := hn
  by_cases h0 : 0 ≤ n
  · obtain ⟨k, rfl⟩ : ∃ k : Nat, n = k := ⟨n.toNat, by omega⟩
    refine (decPos k w (by omega)).mono ?_
    rintro v w1 ⟨⟨s, rfl, hs⟩, k1⟩
    exact ⟨⟨s, rfl, by rw [hs, dc_pos h0, Int.toNat_natCast]⟩, k1⟩
  · refine ret_enter Tryz.func34 rfl Tryz.ntmps34 rfl ?_
    (repeat (first | refine k_nil ?_ | refine k_n ?_ | refine k_r ?_ | refine k_x ?_ | refine b_n ?_ | refine b_r ?_ | refine b_y rfl ?_ | refine b_z rfl ?_ | refine l_r ?_ | refine l_x ?_ | refine k_seq ?_ | refine k_blk ?_ | refine k_reg ?_ | refine k_ret ?_ | refine k_exit ?_ | refine k_skip ?_ | refine Zs ?_))
    refine c_eq rfl (fun h => ?_) (fun hm => ?_)
    · subst h
      (repeat (first | refine k_nil ?_ | refine k_n ?_ | refine k_r ?_ | refine k_x ?_ | refine b_n ?_ | refine b_r ?_ | refine b_y rfl ?_ | refine b_z rfl ?_ | refine l_r ?_ | refine l_x ?_ | refine k_seq ?_ | refine k_blk ?_ | refine k_reg ?_ | refine k_ret ?_ | refine k_exit ?_ | refine k_skip ?_ | refine Zs ?_))
      exact ret_1 rfl rfl ⟨⟨_, rfl, by decide +kernel⟩, Kp.refl _ _⟩
    · (repeat (first | refine k_nil ?_ | refine k_n ?_ | refine k_r ?_ | refine k_x ?_ | refine b_n ?_ | refine b_r ?_ | refine b_y rfl ?_ | refine b_z rfl ?_ | refine l_r ?_ | refine l_x ?_ | refine k_seq ?_ | refine k_blk ?_ | refine k_reg ?_ | refine k_ret ?_ | refine k_exit ?_ | refine k_skip ?_ | refine Zs ?_))
      refine c_dec rfl (fun _ => ?_) (fun h => by omega)
      (repeat (first | refine k_nil ?_ | refine k_n ?_ | refine k_r ?_ | refine k_x ?_ | refine b_n ?_ | refine b_r ?_ | refine b_y rfl ?_ | refine b_z rfl ?_ | refine l_r ?_ | refine l_x ?_ | refine k_seq ?_ | refine k_blk ?_ | refine k_reg ?_ | refine k_ret ?_ | refine k_exit ?_ | refine k_skip ?_ | refine Zs ?_))
      obtain ⟨k, hk⟩ : ∃ k : Nat, -n = k := ⟨(-n).toNat, by omega⟩
      have hneg : IntKind.i64.wrap (0 - n) = (k : Int) := by rw [← hk, wrap_in (by omega)]; omega
      refine s_v (r_neg rfl) ?_
      refine s_re 9 (v' := .int .i64 k) rfl (congrArg _ hneg) ?_
      refine s_call (us := []) (zs := []) (by kernel_rfl) rfl rfl (decPos k w (by omega)) ?_
      rintro _ w1 ⟨⟨s, rfl, hs⟩, k1⟩
      have hp19 : (10 : Nat) ^ (18 + 1) = 10000000000000000000 := by decide
      have hlen : (dcu k).length ≤ 19 := dcu_len 18 k (by omega)
      rw [← hs, B_len] at hlen
      refine s_v (r_cat rfl rfl (by rw [show (ByteArray.mk #[45]).size = 1 from rfl]; omega)) ?_
      (repeat (first | refine k_nil ?_ | refine k_n ?_ | refine k_r ?_ | refine k_x ?_ | refine b_n ?_ | refine b_r ?_ | refine b_y rfl ?_ | refine b_z rfl ?_ | refine l_r ?_ | refine l_x ?_ | refine k_seq ?_ | refine k_blk ?_ | refine k_reg ?_ | refine k_ret ?_ | refine k_exit ?_ | refine k_skip ?_ | refine Zs ?_))
      refine ret_1 rfl rfl ⟨⟨_, rfl, ?_⟩, k1⟩
      rw [B_append, hs, dc_neg (by omega)]
      have : n.natAbs = k := by omega
      rw [this]; rfl
/-- A number's digits so far. -/
def sv : List Int → Int
  | [] => 0
  | c :: r => if c = 45 then -(vu 0 r) else vu 0 (c :: r)
theorem vu_mono (X Y : List Int) (hX : ∀ c ∈ X ++ Y, 48 ≤ c ∧ c ≤ 57) : 0 ≤ vu 0 X ∧ vu 0 X ≤ vu 0 (X ++ Y) := by
  have h1 := vu_ge X 0 (Int.le_refl _) (fun c hc => hX c (List.mem_append_left _ hc))
  rw [vu_append]
  exact ⟨h1, vu_ge Y (vu 0 X) h1 (fun c hc => hX c (List.mem_append_right _ hc))⟩
/-- What a round of Number does to the number. -/
theorem sv_step {m : Int} {L : List Int} {i : Nat} {c : Int} (hm : I64 m) (hL : dc m = L) (hi : L[i]? = some c) (h45 : ¬ (c = 45 ∧ i = 0)) :
    (48 ≤ c ∧ c ≤ 57) ∧ I64 (sv (L.take i) * 10) ∧ (if L[0]? = some 45 then sv (L.take (i + 1)) = sv (L.take i) * 10 - (c - 48) else sv (L.take (i + 1)) = sv (L.take i) * 10 + (c - 48)) ∧ I64 (sv (L.take (i + 1))) := by
  obtain ⟨h1, h2⟩ := hm
  subst hL
  have split : ∀ (D : List Int) (j : Nat), D[j]? = some c → (∀ x ∈ D, 48 ≤ x ∧ x ≤ 57) → (48 ≤ c ∧ c ≤ 57) ∧ vu 0 (D.take (j + 1)) = vu 0 (D.take j) * 10 + (c - 48) ∧ 0 ≤ vu 0 (D.take j) ∧ vu 0 (D.take (j + 1)) ≤ vu 0 D := by
    intro D j hj hD
    have hc := hD c (List.mem_of_getElem? hj)
    have e : D.take (j + 1) = D.take j ++ [c] := by rw [List.take_add_one, hj]; rfl
    have m1 := vu_mono (D.take j) (D.drop j) (by rw [List.take_append_drop]; exact hD)
    have m2 := vu_mono (D.take (j + 1)) (D.drop (j + 1)) (by rw [List.take_append_drop]; exact hD)
    rw [List.take_append_drop] at m1 m2
    refine ⟨hc, ?_, m1.1, m2.2⟩
    rw [e, vu_append]; rfl
  by_cases h0 : m < 0
  · rw [dc_neg h0] at hi ⊢
    cases i with
    | zero => simp at hi; exact (h45 ⟨hi.symm, rfl⟩).elim
    | succ j =>
      rw [List.getElem?_cons_succ] at hi
      obtain ⟨a1, a2, a3, a4⟩ := split (dcu m.natAbs) j hi (dcu_digit _)
      rw [vu_dcu] at a4
      simp only [List.take_succ_cons, List.getElem?_cons_zero, if_true, sv, I64]
      omega
  · rw [dc_pos (by omega)] at hi ⊢
    obtain ⟨a1, a2, a3, a4⟩ := split (dcu m.toNat) i hi (dcu_digit _)
    rw [vu_dcu] at a4
    have hne : (dcu m.toNat)[0]? ≠ some 45 := fun h => by
      have := dcu_digit m.toNat 45 (List.mem_of_getElem? h)
      omega
    rw [if_neg hne]
    have hsv : ∀ j, sv ((dcu m.toNat).take j) = vu 0 ((dcu m.toNat).take j) := by
      intro j
      cases hd : (dcu m.toNat).take j with
      | nil => rfl
      | cons x r =>
        have := dcu_digit m.toNat x (List.mem_of_mem_take (by rw [hd]; exact List.mem_cons_self ..))
        rw [sv, if_neg (by omega)]
    rw [hsv, hsv]
    unfold I64
    omega
theorem sv_all {m : Int} : sv (dc m) = m := by
  by_cases h0 : m < 0
  · rw [dc_neg h0, sv, if_pos rfl, vu_dcu]; omega
  · rw [dc_pos (by omega)]
    have := vu_dcu m.toNat
    cases hd : dcu m.toNat with
    | nil => exact (dcu_ne _ hd).elim
    | cons x r =>
      have h := dcu_digit m.toNat x (by rw [hd]; exact List.mem_cons_self ..)
      rw [sv, if_neg (by omega), ← hd, this]
      omega
theorem wrap_I64 (n : Int) : I64 (IntKind.i64.wrap n) := by
  unfold I64
  simp [IntKind.wrap, IntKind.bits, IntKind.signed]; omega
set_option maxHeartbeats 2000000 in
set_option maxRecDepth 20000 in
/-- The document's Number: of an int as it is told, that; of another text false. -/
theorem Number (s : ByteArray) (w : World) (hs : s.size ≤ 9223372036854775807) : Ret Tryz.prog 45 [.string s] w fun v w1 =>
    (∃ n b, v = .tuple #[.int .i64 n, .bool b] ∧ I64 n ∧ (b = true → B s = dc n) ∧ ∀ m, I64 m → B s = dc m → n = m ∧ b = true) ∧ Kp No w w1 := by
  refine ret_enter Tryz.func45 rfl Tryz.ntmps45 rfl ?_
  (repeat (first | refine k_nil ?_ | refine k_n ?_ | refine k_r ?_ | refine k_x ?_ | refine b_n ?_ | refine b_r ?_ | refine b_y rfl ?_ | refine b_z rfl ?_ | refine l_r ?_ | refine l_x ?_ | refine k_seq ?_ | refine k_blk ?_ | refine k_reg ?_ | refine k_ret ?_ | refine k_exit ?_ | refine k_skip ?_ | refine Zs ?_))
  have bad : (∀ m, I64 m → B s ≠ dc m) → ∃ n b, Value.tuple #[.int .i64 0, .bool false] = .tuple #[.int .i64 n, .bool b] ∧ I64 n ∧ (b = true → B s = dc n) ∧ ∀ m, I64 m → B s = dc m → n = m ∧ b = true :=
    fun h => ⟨0, false, rfl, by unfold I64; omega, fun h => by (cases h), fun m hm e => (h m hm e).elim⟩
  have hlen : ∀ m, I64 m → B s = dc m → 1 ≤ s.size ∧ s.size ≤ 20 := by
    intro m hm e
    have h1 := dc_len1 m
    have h2 := dc_len hm
    rw [← e, B_len] at h1 h2
    exact ⟨h1, h2⟩
  by_cases hz : s.size = 0
  · refine s_set 9 true rfl (ieq_t (by omega)) ?_
    (repeat (first | refine k_nil ?_ | refine k_n ?_ | refine k_r ?_ | refine k_x ?_ | refine b_n ?_ | refine b_r ?_ | refine b_y rfl ?_ | refine b_z rfl ?_ | refine l_r ?_ | refine l_x ?_ | refine k_seq ?_ | refine k_blk ?_ | refine k_reg ?_ | refine k_ret ?_ | refine k_exit ?_ | refine k_skip ?_ | refine Zs ?_ | refine Zn ?_ | refine Zu ?_ | refine Zg ?_))
    refine c_t rfl ?_
    (repeat (first | refine k_nil ?_ | refine k_n ?_ | refine k_r ?_ | refine k_x ?_ | refine b_n ?_ | refine b_r ?_ | refine b_y rfl ?_ | refine b_z rfl ?_ | refine l_r ?_ | refine l_x ?_ | refine k_seq ?_ | refine k_blk ?_ | refine k_reg ?_ | refine k_ret ?_ | refine k_exit ?_ | refine k_skip ?_ | refine Zs ?_))
    exact ret_2 rfl rfl rfl ⟨bad fun m hm e => by have := hlen m hm e; omega, Kp.refl _ _⟩
  refine s_set 9 false rfl (ieq_f (by omega)) ?_
  (repeat (first | refine k_nil ?_ | refine k_n ?_ | refine k_r ?_ | refine k_x ?_ | refine b_n ?_ | refine b_r ?_ | refine b_y rfl ?_ | refine b_z rfl ?_ | refine l_r ?_ | refine l_x ?_ | refine k_seq ?_ | refine k_blk ?_ | refine k_reg ?_ | refine k_ret ?_ | refine k_exit ?_ | refine k_skip ?_ | refine Zs ?_ | refine Zn ?_ | refine Zu ?_ | refine Zg ?_))
  refine c_dec rfl (fun hbig => ?_) (fun hsm => ?_)
  · (repeat (first | refine k_nil ?_ | refine k_n ?_ | refine k_r ?_ | refine k_x ?_ | refine b_n ?_ | refine b_r ?_ | refine b_y rfl ?_ | refine b_z rfl ?_ | refine l_r ?_ | refine l_x ?_ | refine k_seq ?_ | refine k_blk ?_ | refine k_reg ?_ | refine k_ret ?_ | refine k_exit ?_ | refine k_skip ?_ | refine Zs ?_))
    exact ret_2 rfl rfl rfl ⟨bad fun m hm e => by have := hlen m hm e; omega, Kp.refl _ _⟩
  (repeat (first | refine k_nil ?_ | refine k_n ?_ | refine k_r ?_ | refine k_x ?_ | refine b_n ?_ | refine b_r ?_ | refine b_y rfl ?_ | refine b_z rfl ?_ | refine l_r ?_ | refine l_x ?_ | refine k_seq ?_ | refine k_blk ?_ | refine k_reg ?_ | refine k_ret ?_ | refine k_exit ?_ | refine k_skip ?_ | refine Zs ?_))
  refine k_cutb (σ := Int) (fun n => [(0, .string s), (4, .int .i64 n)]) (fun n a => a = w ∧ I64 n ∧ ∀ m, I64 m → B s = dc m → n = m) ?_ ?_
  · refine k_loop (σ := Nat × Int) (fun t => [(0, .string s), (4, .int .i64 t.2), (5, .int .i64 t.1)])
      (fun t a => a = w ∧ t.1 ≤ s.size ∧ I64 t.2 ∧ ∀ m, I64 m → B s = dc m → t.2 = sv ((B s).take t.1)) (fun t => s.size - t.1) (0, 0) ⟨rfl, rfl, rfl, trivial⟩ ⟨rfl, Nat.zero_le _, by show I64 0; unfold I64; omega, fun _ _ _ => rfl⟩ ?_
    rintro ⟨i, n⟩ l a ⟨rfl, hi, hn, hinv⟩
    simp only at hi hn hinv
    (repeat (first | refine k_nil ?_ | refine k_n ?_ | refine k_r ?_ | refine k_x ?_ | refine b_n ?_ | refine b_r ?_ | refine b_y rfl ?_ | refine b_z rfl ?_ | refine l_r ?_ | refine l_x ?_ | refine k_seq ?_ | refine k_blk ?_ | refine k_reg ?_ | refine k_ret ?_ | refine k_exit ?_ | refine k_skip ?_ | refine Zs ?_))
    refine c_dec rfl (fun hlt => ?_) (fun hge => ?_)
    · have hr := bt_range s i
      have hat := B_at s i (by omega)
      have h45 : bt s 0 = 45 ↔ (B s)[0]? = some 45 := by
        rw [B_at s 0 (by omega)]
        simp
      have hlt' : (i : Int) < s.size := hlt
      have nodig : ¬ (48 ≤ bt s i ∧ bt s i ≤ 57) → ¬ (bt s i = 45 ∧ i = 0) → ∀ m, I64 m → B s ≠ dc m := fun h1 h2 m hm e => h1 (sv_step hm e.symm hat h2).1
      (repeat (first | refine k_nil ?_ | refine k_n ?_ | refine k_r ?_ | refine k_x ?_ | refine b_n ?_ | refine b_r ?_ | refine b_y rfl ?_ | refine b_z rfl ?_ | refine l_r ?_ | refine l_x ?_ | refine k_seq ?_ | refine k_blk ?_ | refine k_ret ?_ | refine k_exit ?_ | refine k_skip ?_ | refine Zs ?_))
      refine k_cut2 (σ := Unit) (fun _ => [(0, .string s), (4, .int .i64 n), (5, .int .i64 i)]) (fun _ a' => a' = a ∧ ¬ (bt s i = 45 ∧ i = 0)) ?_ ?_
      · (repeat (first | refine k_nil ?_ | refine k_n ?_ | refine k_r ?_ | refine k_x ?_ | refine b_n ?_ | refine b_r ?_ | refine b_y rfl ?_ | refine b_z rfl ?_ | refine l_r ?_ | refine l_x ?_ | refine k_seq ?_ | refine k_blk ?_ | refine k_reg ?_ | refine k_ret ?_ | refine k_exit ?_ | refine k_skip ?_ | refine Zs ?_))
        refine s_v (r_ix rfl rfl rfl (by omega) (by omega)) ?_
        (repeat (first | refine k_nil ?_ | refine k_n ?_ | refine k_r ?_ | refine k_x ?_ | refine b_n ?_ | refine b_r ?_ | refine b_y rfl ?_ | refine b_z rfl ?_ | refine l_r ?_ | refine l_x ?_ | refine k_seq ?_ | refine k_blk ?_ | refine k_reg ?_ | refine k_ret ?_ | refine k_exit ?_ | refine k_skip ?_ | refine Zs ?_))
        by_cases h1 : bt s i = 45
        · refine s_set 24 true rfl (ieq_t h1) ?_
          (repeat (first | refine k_nil ?_ | refine k_n ?_ | refine k_r ?_ | refine k_x ?_ | refine b_n ?_ | refine b_r ?_ | refine b_y rfl ?_ | refine b_z rfl ?_ | refine l_r ?_ | refine l_x ?_ | refine k_seq ?_ | refine k_blk ?_ | refine k_reg ?_ | refine k_ret ?_ | refine k_exit ?_ | refine k_skip ?_ | refine Zs ?_ | refine Zn ?_ | refine Zu ?_ | refine Zg ?_))
          refine c_eq rfl (fun h0 => ?_) (fun h0 => ?_)
          · (repeat (first | refine k_nil ?_ | refine k_n ?_ | refine k_r ?_ | refine k_x ?_ | refine b_n ?_ | refine b_r ?_ | refine b_y rfl ?_ | refine b_z rfl ?_ | refine l_r ?_ | refine l_x ?_ | refine k_seq ?_ | refine k_blk ?_ | refine k_reg ?_ | refine k_ret ?_ | refine k_exit ?_ | refine k_skip ?_ | refine Zs ?_))
            refine l_next (i + 1, n) ⟨rfl, rfl, rfl, trivial⟩ ⟨rfl, by show i + 1 ≤ s.size; omega, hn, fun m hm e => ?_⟩ (by show s.size - (i + 1) < s.size - i; omega)
            have : i = 0 := by omega
            subst this
            rw [hinv m hm e]
            show sv ((B s).take 0) = sv ((B s).take (0 + 1))
            rw [List.take_add_one, hat, show bt s ((0 : Nat) : Int) = 45 from h1]; rfl
          · (repeat (first | refine k_nil ?_ | refine k_n ?_ | refine k_r ?_ | refine k_x ?_ | refine b_n ?_ | refine b_r ?_ | refine b_y rfl ?_ | refine b_z rfl ?_ | refine l_r ?_ | refine l_x ?_ | refine k_seq ?_ | refine k_blk ?_ | refine k_reg ?_ | refine k_ret ?_ | refine k_exit ?_ | refine k_skip ?_ | refine Zs ?_))
            exact l_cut () ⟨rfl, rfl, rfl, trivial⟩ ⟨rfl, fun h => h0 (by rw [h.2]; rfl)⟩
        · refine s_set 24 false rfl (ieq_f h1) ?_
          (repeat (first | refine k_nil ?_ | refine k_n ?_ | refine k_r ?_ | refine k_x ?_ | refine b_n ?_ | refine b_r ?_ | refine b_y rfl ?_ | refine b_z rfl ?_ | refine l_r ?_ | refine l_x ?_ | refine k_seq ?_ | refine k_blk ?_ | refine k_reg ?_ | refine k_ret ?_ | refine k_exit ?_ | refine k_skip ?_ | refine Zs ?_ | refine Zn ?_ | refine Zu ?_ | refine Zg ?_))
          refine c_f rfl ?_
          (repeat (first | refine k_nil ?_ | refine k_n ?_ | refine k_r ?_ | refine k_x ?_ | refine b_n ?_ | refine b_r ?_ | refine b_y rfl ?_ | refine b_z rfl ?_ | refine l_r ?_ | refine l_x ?_ | refine k_seq ?_ | refine k_blk ?_ | refine k_reg ?_ | refine k_ret ?_ | refine k_exit ?_ | refine k_skip ?_ | refine Zs ?_))
          exact l_cut () ⟨rfl, rfl, rfl, trivial⟩ ⟨rfl, fun h => h1 h.1⟩
      rintro _ l a' ⟨rfl, h45'⟩
      (repeat (first | refine k_nil ?_ | refine k_n ?_ | refine k_r ?_ | refine k_x ?_ | refine b_n ?_ | refine b_r ?_ | refine b_y rfl ?_ | refine b_z rfl ?_ | refine l_r ?_ | refine l_x ?_ | refine k_seq ?_ | refine k_blk ?_ | refine k_reg ?_ | refine k_ret ?_ | refine k_exit ?_ | refine k_skip ?_ | refine Zs ?_))
      refine s_v (r_ix rfl rfl rfl (by omega) (by omega)) ?_
      (repeat (first | refine k_nil ?_ | refine k_n ?_ | refine k_r ?_ | refine k_x ?_ | refine b_n ?_ | refine b_r ?_ | refine b_y rfl ?_ | refine b_z rfl ?_ | refine l_r ?_ | refine l_x ?_ | refine k_seq ?_ | refine k_blk ?_ | refine k_reg ?_ | refine k_ret ?_ | refine k_exit ?_ | refine k_skip ?_ | refine Zs ?_))
      by_cases hlo : bt s i < 48
      · refine s_set 32 true rfl (decide_eq_true hlo) ?_
        (repeat (first | refine k_nil ?_ | refine k_n ?_ | refine k_r ?_ | refine k_x ?_ | refine b_n ?_ | refine b_r ?_ | refine b_y rfl ?_ | refine b_z rfl ?_ | refine l_r ?_ | refine l_x ?_ | refine k_seq ?_ | refine k_blk ?_ | refine k_reg ?_ | refine k_ret ?_ | refine k_exit ?_ | refine k_skip ?_ | refine Zs ?_ | refine Zn ?_ | refine Zu ?_ | refine Zg ?_))
        refine c_t rfl ?_
        (repeat (first | refine k_nil ?_ | refine k_n ?_ | refine k_r ?_ | refine k_x ?_ | refine b_n ?_ | refine b_r ?_ | refine b_y rfl ?_ | refine b_z rfl ?_ | refine l_r ?_ | refine l_x ?_ | refine k_seq ?_ | refine k_blk ?_ | refine k_reg ?_ | refine k_ret ?_ | refine k_exit ?_ | refine k_skip ?_ | refine Zs ?_))
        exact ret_2 rfl rfl rfl ⟨bad (nodig (by omega) h45'), Kp.refl _ _⟩
      refine s_set 32 false rfl (decide_eq_false hlo) ?_
      (repeat (first | refine k_nil ?_ | refine k_n ?_ | refine k_r ?_ | refine k_x ?_ | refine b_n ?_ | refine b_r ?_ | refine b_y rfl ?_ | refine b_z rfl ?_ | refine l_r ?_ | refine l_x ?_ | refine k_seq ?_ | refine k_blk ?_ | refine k_reg ?_ | refine k_ret ?_ | refine k_exit ?_ | refine k_skip ?_ | refine Zs ?_ | refine Zn ?_ | refine Zu ?_ | refine Zg ?_))
      refine s_gv rfl (r_ix rfl rfl rfl (by omega) (by omega)) ?_
      (repeat (first | refine k_nil ?_ | refine k_n ?_ | refine k_r ?_ | refine k_x ?_ | refine b_n ?_ | refine b_r ?_ | refine b_y rfl ?_ | refine b_z rfl ?_ | refine l_r ?_ | refine l_x ?_ | refine k_seq ?_ | refine k_blk ?_ | refine k_reg ?_ | refine k_ret ?_ | refine k_exit ?_ | refine k_skip ?_ | refine Zs ?_ | refine Zn ?_ | refine Zu ?_ | refine Zg ?_))
      refine c_dec rfl (fun hhi => ?_) (fun hhi => ?_)
      · (repeat (first | refine k_nil ?_ | refine k_n ?_ | refine k_r ?_ | refine k_x ?_ | refine b_n ?_ | refine b_r ?_ | refine b_y rfl ?_ | refine b_z rfl ?_ | refine l_r ?_ | refine l_x ?_ | refine k_seq ?_ | refine k_blk ?_ | refine k_reg ?_ | refine k_ret ?_ | refine k_exit ?_ | refine k_skip ?_ | refine Zs ?_))
        exact ret_2 rfl rfl rfl ⟨bad (nodig (by omega) h45'), Kp.refl _ _⟩
      (repeat (first | refine k_nil ?_ | refine k_n ?_ | refine k_r ?_ | refine k_x ?_ | refine b_n ?_ | refine b_r ?_ | refine b_y rfl ?_ | refine b_z rfl ?_ | refine l_r ?_ | refine l_x ?_ | refine k_seq ?_ | refine k_blk ?_ | refine k_reg ?_ | refine k_ret ?_ | refine k_exit ?_ | refine k_skip ?_ | refine Zs ?_))
      refine s_v (r_ix rfl rfl rfl (by omega) (by omega)) ?_
      (repeat (first | refine k_nil ?_ | refine k_n ?_ | refine k_r ?_ | refine k_x ?_ | refine b_n ?_ | refine b_r ?_ | refine b_y rfl ?_ | refine b_z rfl ?_ | refine l_r ?_ | refine l_x ?_ | refine k_seq ?_ | refine k_blk ?_ | refine k_reg ?_ | refine k_ret ?_ | refine k_exit ?_ | refine k_skip ?_ | refine Zs ?_))
      have hd1 : IntKind.u8.wrap (bt s i - 48) = bt s i - 48 := wrap_u8 (by omega)
      have hd2 : IntKind.i64.wrap (bt s i - 48) = bt s i - 48 := wrap_in (by omega)
      refine c_eq rfl (fun hneg => ?_) (fun hpos => ?_)
      · (repeat (first | refine k_nil ?_ | refine k_n ?_ | refine k_r ?_ | refine k_x ?_ | refine b_n ?_ | refine b_r ?_ | refine b_y rfl ?_ | refine b_z rfl ?_ | refine l_r ?_ | refine l_x ?_ | refine k_seq ?_ | refine k_blk ?_ | refine k_reg ?_ | refine k_ret ?_ | refine k_exit ?_ | refine k_skip ?_ | refine Zs ?_))
        refine s_v (r_ix rfl rfl rfl (by omega) (by omega)) ?_
        (repeat (first | refine k_nil ?_ | refine k_n ?_ | refine k_r ?_ | refine k_x ?_ | refine b_n ?_ | refine b_r ?_ | refine b_y rfl ?_ | refine b_z rfl ?_ | refine l_r ?_ | refine l_x ?_ | refine k_seq ?_ | refine k_blk ?_ | refine k_reg ?_ | refine k_ret ?_ | refine k_exit ?_ | refine k_skip ?_ | refine Zs ?_))
        refine l_next (i + 1, IntKind.i64.wrap (IntKind.i64.wrap (n * 10) - IntKind.u8.wrap (bt s i - 48))) ⟨rfl, rfl, rfl, trivial⟩ ⟨rfl, by show i + 1 ≤ s.size; omega, wrap_I64 _, fun m hm e => ?_⟩ (by show s.size - (i + 1) < s.size - i; omega)
        show IntKind.i64.wrap (IntKind.i64.wrap (n * 10) - IntKind.u8.wrap (bt s i - 48)) = sv ((B s).take (i + 1))
        obtain ⟨q1, q2, q3, q4⟩ := sv_step hm e.symm hat h45'
        rw [if_pos (h45.1 hneg)] at q3
        rw [hinv m hm e, hd1, wrap_in q2, ← q3, wrap_in q4]
      · (repeat (first | refine k_nil ?_ | refine k_n ?_ | refine k_r ?_ | refine k_x ?_ | refine b_n ?_ | refine b_r ?_ | refine b_y rfl ?_ | refine b_z rfl ?_ | refine l_r ?_ | refine l_x ?_ | refine k_seq ?_ | refine k_blk ?_ | refine k_reg ?_ | refine k_ret ?_ | refine k_exit ?_ | refine k_skip ?_ | refine Zs ?_))
        refine s_v (r_ix rfl rfl rfl (by omega) (by omega)) ?_
        (repeat (first | refine k_nil ?_ | refine k_n ?_ | refine k_r ?_ | refine k_x ?_ | refine b_n ?_ | refine b_r ?_ | refine b_y rfl ?_ | refine b_z rfl ?_ | refine l_r ?_ | refine l_x ?_ | refine k_seq ?_ | refine k_blk ?_ | refine k_reg ?_ | refine k_ret ?_ | refine k_exit ?_ | refine k_skip ?_ | refine Zs ?_))
        refine l_next (i + 1, IntKind.i64.wrap (IntKind.i64.wrap (n * 10) + IntKind.u8.wrap (bt s i - 48))) ⟨rfl, rfl, rfl, trivial⟩ ⟨rfl, by show i + 1 ≤ s.size; omega, wrap_I64 _, fun m hm e => ?_⟩ (by show s.size - (i + 1) < s.size - i; omega)
        show IntKind.i64.wrap (IntKind.i64.wrap (n * 10) + IntKind.u8.wrap (bt s i - 48)) = sv ((B s).take (i + 1))
        obtain ⟨q1, q2, q3, q4⟩ := sv_step hm e.symm hat h45'
        rw [if_neg (fun h => hpos (h45.2 h))] at q3
        rw [hinv m hm e, hd1, wrap_in q2, ← q3, wrap_in q4]
    · (repeat (first | refine k_nil ?_ | refine k_n ?_ | refine k_r ?_ | refine k_x ?_ | refine b_n ?_ | refine b_r ?_ | refine b_y rfl ?_ | refine b_z rfl ?_ | refine l_r ?_ | refine l_x ?_ | refine k_seq ?_ | refine k_blk ?_ | refine k_reg ?_ | refine k_ret ?_ | refine k_exit ?_ | refine k_skip ?_ | refine Zs ?_))
      refine l_cut n ⟨rfl, rfl, trivial⟩ ⟨rfl, hn, fun m hm e => ?_⟩
      rw [hinv m hm e, List.take_of_length_le (by rw [B_len]; omega), e, sv_all]
  rintro n l a ⟨rfl, hn, hinv⟩
  (repeat (first | refine k_nil ?_ | refine k_n ?_ | refine k_r ?_ | refine k_x ?_ | refine b_n ?_ | refine b_r ?_ | refine b_y rfl ?_ | refine b_z rfl ?_ | refine l_r ?_ | refine l_x ?_ | refine k_seq ?_ | refine k_blk ?_ | refine k_reg ?_ | refine k_ret ?_ | refine k_exit ?_ | refine k_skip ?_ | refine Zs ?_))
  refine s_call (us := []) (zs := []) (by kernel_rfl) rfl rfl (Decimal n a hn) ?_
  rintro _ w1 ⟨⟨d, rfl, hd⟩, k1⟩
  (repeat (first | refine k_nil ?_ | refine k_n ?_ | refine k_r ?_ | refine k_x ?_ | refine b_n ?_ | refine b_r ?_ | refine b_y rfl ?_ | refine b_z rfl ?_ | refine l_r ?_ | refine l_x ?_ | refine k_seq ?_ | refine k_blk ?_ | refine k_reg ?_ | refine k_ret ?_ | refine k_exit ?_ | refine k_skip ?_ | refine Zs ?_))
  refine ret_2 rfl rfl rfl ⟨⟨n, _, rfl, hn, fun h => ?_, fun m hm e => ⟨hinv m hm e, ?_⟩⟩, k1⟩
  · rw [str_eq] at h
    rw [← of_decide_eq_true h, hd]
  · rw [str_eq, hd, e, hinv m hm e]; simp
end Nu
end Go.Proofs.YtpamkidcmjfieaaGreatDoor
