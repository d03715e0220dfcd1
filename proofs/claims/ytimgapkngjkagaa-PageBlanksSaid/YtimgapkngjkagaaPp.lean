/- Pages: lines and columns over plain lists. -/
import Derived.Test.YtimgapkngjkagaaFi
import Derived.Test.YtimgapkngjkagaaSp
import Derived.Test.YtimgapkngjkagaaFc
import Derived.Test.YtimgapkngjkagaaChecked
namespace Go.Proofs.Ytimgapkngjkagaa
open Go Fw Sp
set_option linter.unusedVariables false
namespace Pp
def pstep (p : Int × Int) (x : Int) : Int × Int := if x = 10 then (p.1 + 1, 1) else (p.1, p.2 + 1)
/-- Line and column behind a text's head. -/
def pos (L : List Int) : Int × Int := L.foldl pstep (1, 1)
theorem pos_snoc (L : List Int) (x : Int) : pos (L ++ [x]) = pstep (pos L) x := by simp [pos]
theorem pos_free : ∀ (C L : List Int), (∀ x ∈ C, x ≠ 10) → pos (L ++ C) = ((pos L).1, (pos L).2 + C.length) := by
  intro C
  induction C with
  | nil => intro L _; simp
  | cons c C ih =>
    intro L h
    have e : L ++ c :: C = (L ++ [c]) ++ C := by simp
    rw [e, ih _ fun x hx => h x (List.mem_cons_of_mem _ hx), pos_snoc, pstep, if_neg (h c List.mem_cons_self)]
    simp only [List.length_cons]
    ext <;> simp only <;> omega
theorem posf_1 : ∀ (L : List Int) (p : Int × Int), (L.foldl pstep p).1 = p.1 + L.count 10 := by
  intro L
  induction L with
  | nil => intro p; simp
  | cons x L ih =>
    intro p
    rw [List.foldl_cons, ih, List.count_cons, pstep]
    by_cases h : x = 10
    · subst h; simp; omega
    · rw [if_neg h]; simp [h]
theorem pos_1 (L : List Int) : (pos L).1 = 1 + L.count 10 := posf_1 L _
theorem posf_2 : ∀ (L : List Int) (p : Int × Int), 1 ≤ p.2 → 1 ≤ (L.foldl pstep p).2 ∧ (L.foldl pstep p).2 ≤ p.2 + L.length := by
  intro L
  induction L with
  | nil => intro p h; simp; exact h
  | cons x L ih =>
    intro p h
    rw [List.foldl_cons, List.length_cons]
    by_cases hx : x = 10
    · have := ih (pstep p x) (by rw [pstep, if_pos hx]; exact Int.le_refl _)
      rw [show (pstep p x).2 = 1 from by rw [pstep, if_pos hx]] at this
      omega
    · have := ih (pstep p x) (by rw [pstep, if_neg hx]; show 1 ≤ p.2 + 1; omega)
      rw [show (pstep p x).2 = p.2 + 1 from by rw [pstep, if_neg hx]] at this
      omega
theorem pos_2 (L : List Int) : 1 ≤ (pos L).2 ∧ (pos L).2 ≤ 1 + L.length := posf_2 L _ (Int.le_refl _)
theorem pos_last {L : List Int} {i : Nat} (h : L[i]? = some 10) (hf : ∀ (j : Nat) x, i < j → L[j]? = some x → x ≠ 10) : (pos L).2 = L.length - i := by
  have hi := (List.getElem?_eq_some_iff.1 h).1
  have e : L = (L.take i ++ [10]) ++ L.drop (i + 1) := by
    conv => lhs; rw [← List.take_append_drop i L, List.drop_eq_getElem_cons hi, (List.getElem?_eq_some_iff.1 h).2]
    simp
  rw [e, pos_free _ _ (by
    intro x hx
    obtain ⟨j, hj⟩ := List.mem_iff_getElem?.1 hx
    rw [List.getElem?_drop] at hj
    exact hf _ x (by omega) hj), pos_snoc]
  have h1 := congrArg List.length e
  simp only [List.length_append, List.length_take, List.length_drop, List.length_cons, List.length_nil] at h1 ⊢
  simp only [pstep, if_true]
  omega
theorem pos_none {L : List Int} (hf : ∀ (j : Nat) x, L[j]? = some x → x ≠ 10) : (pos L).2 = L.length + 1 := by
  have := pos_free L [] (by
    intro x hx
    obtain ⟨j, hj⟩ := List.mem_iff_getElem?.1 hx
    exact hf j x hj)
  rw [List.nil_append] at this
  rw [this]
  show (1 : Int) + L.length = _
  omega
theorem count_B (s : ByteArray) : ((Lib.countByte s.data.toList 10 : Nat) : Int) = ((B s).count 10 : Nat) := by
  rw [Lib.countByte, B]
  generalize s.data.toList = l
  congr 1
  induction l with
  | nil => rfl
  | cons b l ih =>
    rw [List.map_cons, List.count_cons, List.count_cons, ih]
    congr 1
    by_cases h : b = 10
    · subst h; rfl
    · have : ¬ ((b.toNat : Int) = 10) := fun e => h (UInt8.toNat_inj.1 (by show b.toNat = 10; omega))
      rw [if_neg (by simpa using h), if_neg (by simpa using this)]
theorem take_snoc {L : List Int} {i : Nat} {x : Int} (h : L[i]? = some x) : L.take (i + 1) = L.take i ++ [x] := by
  rw [List.take_add_one, h]; rfl
end Pp
end Go.Proofs.Ytimgapkngjkagaa
