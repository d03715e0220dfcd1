/- Orders: plain laws of the words' places. -/
import Derived.Test.YtlkipdfipaipbaaDoorOe
namespace Go.Proofs.YtlkipdfipaipbaaDoor
open Go Go.RowKit Fw Nu
set_option linter.unusedVariables false
namespace Od
theorem fst_at {L : List Int} {c : Int} {i : Nat} (h : L[i]? = some c) (hn : ∀ (j : Nat) x, j < i → L[j]? = some x → x ≠ c) : Sp.fst c L = some i := by
  cases hf : Sp.fst c L with
  | none => exact (Sp.fst_none hf c (List.mem_of_getElem? h) rfl).elim
  | some k =>
    obtain ⟨h1, h2, h3⟩ := Sp.fst_some hf
    have hk : L[k]? = some c := by
      rw [h2, List.getElem?_append_right (by rw [List.length_take]; omega), List.length_take, show k - min k L.length = 0 from by omega]; rfl
    rcases Nat.lt_trichotomy k i with hlt | rfl | hgt
    · exact (hn k c hlt hk rfl).elim
    · rfl
    · have : L[i]? = some c := h
      exact (h3 c (List.mem_of_getElem? (i := i) (by rw [List.getElem?_take, if_pos hgt]; exact this)) rfl).elim
theorem fst_no {L : List Int} {c : Int} (hn : ∀ (j : Nat) x, L[j]? = some x → x ≠ c) : Sp.fst c L = none := by
  cases hf : Sp.fst c L with
  | none => rfl
  | some k =>
    obtain ⟨h1, h2, h3⟩ := Sp.fst_some hf
    have hk : L[k]? = some c := by
      rw [h2, List.getElem?_append_right (by rw [List.length_take]; omega), List.length_take, show k - min k L.length = 0 from by omega]; rfl
    exact (hn k c hk rfl).elim
theorem ix_wd0 : ∀ i : Nat, i < 20 → ix (wd ((i : Int) + 1)) = i := by decide +kernel
theorem ix_wd {k : Int} (hk : 1 ≤ k ∧ k ≤ 20) : ix (wd k) = k - 1 := by
  have := ix_wd0 (k - 1).toNat (by omega)
  rw [show (((k - 1).toNat : Nat) : Int) = k - 1 from by omega, Int.sub_add_cancel] at this
  exact this
theorem wd_ix {L : List Int} (h : 0 ≤ ix L) : wd (ix L + 1) = L := by
  unfold ix at h ⊢
  cases hf : owL.findIdx? (· == L) with
  | none => rw [hf] at h; simp at h
  | some i =>
    obtain ⟨hi, he, _⟩ := List.findIdx?_eq_some_iff_getElem.1 hf
    simp only
    unfold wd
    rw [Int.add_sub_cancel, Int.toNat_natCast, List.getElem?_eq_getElem hi]
    simpa using he
theorem eq_wd {L : List Int} {k : Int} (hk : 1 ≤ k ∧ k ≤ 20) : L = wd k ↔ ix L + 1 = k := by
  constructor
  · rintro rfl; rw [ix_wd hk]; omega
  · intro h; rw [← h, wd_ix (by omega)]
end Od
end Go.Proofs.YtlkipdfipaipbaaDoor
