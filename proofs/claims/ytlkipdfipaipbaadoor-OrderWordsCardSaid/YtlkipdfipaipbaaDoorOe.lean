/- Orders, by definition: no program. -/
import Derived.Test.YtlkipdfipaipbaaDoorOg
namespace Go.Proofs.YtlkipdfipaipbaaDoor
open Go Go.RowKit Fw Nu
set_option linter.unusedVariables false
namespace Od
/-- Is a text a name? -/
def nm (L : List Int) : Bool := (Tk.allT L).2.2 == 0 && ((Tk.allT L).1.length == 2 && (match (Tk.allT L).1[0]? with | some t => t.1 == 1 && (t.2.1 == 0 && t.2.2 == (L.length : Int)) | none => false))
def nb (L : List Int) : Option Int := match num L with | some n => if 0 ≤ n ∧ n ≤ 999999 then some n else none | none => none
def plc (L : List Int) : Option (List Int × Int) := match Sp.fst 91 L with
  | none => if nm L then some (L, -1) else none
  | some i => if (L.drop (i + 1)).getLast? = some 93 then match nb (L.drop (i + 1)).dropLast with
    | some n => if nm (L.take i) then some (L.take i, n) else none
    | none => none
    else none
def ix (w : List Int) : Int := match owL.findIdx? (· == w) with | some i => i | none => -1
abbrev Or := Int × List Int × Int × Int
/-- Behind a line's first word. -/
def op2 (k : Int) (l : List (List Int)) : Or :=
  if 9 ≤ k ∧ k ≤ 15 then match l with
    | [x] => if k < 12 then match nb x with | some n => (k, [], n, 0) | none => (0, [], 0, 3)
      else match plc x with | some (a, n) => (k, a, n, 0) | none => (0, [], 0, 3)
    | _ => (0, [], 0, 3)
  else match l with | [] => (k, [], 0, 0) | _ => (0, [], 0, 3)
def op1 (l : List (List Int)) : Or := match l with
  | [] => (0, [], 0, 16)
  | w :: r => if ix w < 0 then (0, [], 0, 16) else op2 (ix w + 1) r
/-- A line's order. -/
def opar (L : List Int) : Or := if 200 < L.length then (0, [], 0, 1) else op1 (flds L)
def wd (k : Int) : List Int := owL[(k - 1).toNat]?.getD []
/-- An order's words. -/
def lnt (k : Int) (a : List Int) (n : Int) : List Int :=
  if 12 ≤ k ∧ k ≤ 15 then wd k ++ 32 :: (a ++ if 0 ≤ n then 91 :: (dc n ++ [93]) else []) else if 9 ≤ k ∧ k < 12 then wd k ++ 32 :: dc n else wd k
def gd (k : Int) (a : List Int) (n : Int) : Bool :=
  if 12 ≤ k ∧ k ≤ 15 then nm a && decide (a.length ≤ 200 ∧ -1 ≤ n ∧ n ≤ 999999 ∧ (lnt k a n).length ≤ 200)
  else if 9 ≤ k ∧ k < 12 then decide (a = [] ∧ 0 ≤ n ∧ n ≤ 999999) else decide (1 ≤ k ∧ k ≤ 20 ∧ a = [] ∧ n = 0)
theorem nb_iff {L : List Int} {n : Int} : nb L = some n ↔ L = dc n ∧ 0 ≤ n ∧ n ≤ 999999 := by
  unfold nb
  constructor
  · intro h
    split at h
    · rename_i m hm
      split at h
      · simp only [Option.some.injEq] at h
        subst h
        exact ⟨num_eq hm, by assumption⟩
      · cases h
    · cases h
  · rintro ⟨rfl, h1, h2⟩
    rw [num_dc ⟨by omega, by omega⟩]
    simp only
    rw [if_pos ⟨h1, h2⟩]
theorem ix_range (w : List Int) : -1 ≤ ix w ∧ ix w < 20 := by
  unfold ix
  split
  · rename_i i h
    have := (List.findIdx?_eq_some_iff_getElem.1 h).1
    have e : owL.length = 20 := rfl
    omega
  · omega
end Od
end Go.Proofs.YtlkipdfipaipbaaDoor
