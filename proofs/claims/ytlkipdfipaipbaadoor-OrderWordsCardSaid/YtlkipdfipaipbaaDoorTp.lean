/- Tokens, by definition over a text's bytes: no program. -/
import Derived.Test.YtlkipdfipaipbaaDoorFe
namespace Go.Proofs.YtlkipdfipaipbaaDoor.Tk
open Go Fw
set_option linter.unusedVariables false
def lett (c : Int) : Bool := c == 95 || (decide (97 ≤ c) && decide (c ≤ 122)) || (decide (65 ≤ c) && decide (c ≤ 90))
def digi (c : Int) : Bool := decide (48 ≤ c) && decide (c ≤ 57)
def eith (c : Int) : Bool := lett c || digi c
def blan (c : Int) : Bool := c == 32 || c == 9 || c == 10 || c == 13
def not10 (c : Int) : Bool := c != 10
/-- How many bytes are blanks, comments among them; true: within a comment. -/
def sk : Bool → List Int → Nat
  | _, [] => 0
  | false, c :: r => if blan c then sk false r + 1 else if c = 35 then sk true r + 1 else 0
  | true, c :: r => if c = 10 then sk false r + 1 else sk true r + 1
/-- How many bytes of a kind stand ahead. -/
def rn (p : Int → Bool) : List Int → Nat
  | [] => 0
  | c :: r => if p c then rn p r + 1 else 0
def pairsL : List (List Int) := [[61, 61], [33, 61], [60, 61], [62, 61], [38, 38], [124, 124]]
def signsL : List Int := [43, 45, 42, 47, 37, 60, 62, 33, 61, 40, 41, 123, 125, 91, 93, 44, 59]
def wordsL : List (List Int) := [[98, 114, 101, 97, 107], [99, 111, 110, 116, 105, 110, 117, 101], [101, 108, 115, 101], [102, 97, 108, 115, 101], [102, 117, 110, 99], [105, 102], [105, 110, 116], [112, 114, 105, 110, 116], [114, 101, 97, 100], [114, 101, 116, 117, 114, 110], [116, 114, 117, 101], [118, 97, 114], [119, 104, 105, 108, 101]]
def strOf (l : List Int) : ByteArray := ⟨(l.map fun c => c.toNat.toUInt8).toArray⟩
def wordsB : List ByteArray := wordsL.map strOf
def pairsB : List ByteArray := pairsL.map strOf
def sg (L : List Int) : Nat := if pairsL.any (fun p => p.isPrefixOf L) then 2 else match L with | [] => 0 | c :: _ => if signsL.contains c then 1 else 0
/-- The token at a text's beginning: is it one; its kind; how many bytes. -/
def body : List Int → Bool × Int × Nat
  | [] => (true, 0, 0)
  | c :: r =>
    if lett c then (true, (if wordsL.contains ((c :: r).take (rn eith (c :: r))) then 3 else 1), rn eith (c :: r))
    else if digi c then
      if rn digi (c :: r) ≤ 18 ∧ (rn digi (c :: r) = 1 ∨ c ≠ 48) ∧ rn lett ((c :: r).drop (rn digi (c :: r))) = 0 then (true, 2, rn digi (c :: r)) else (false, 0, 0)
    else if sg (c :: r) = 0 then (false, 0, 0) else (true, 4, sg (c :: r))
structure Tok where
  ok : Bool
  k : Int
  n : Nat
  m : Nat
def nx (L : List Int) : Tok := let b := body (L.drop (sk false L)); ⟨b.1, b.2.1, sk false L, b.2.2⟩
theorem sk_le : ∀ (L : List Int) (b : Bool), sk b L ≤ L.length := by
  intro L
  induction L with
  | nil => intro b; cases b <;> simp [sk]
  | cons c r ih =>
    intro b
    have h1 := ih true
    have h2 := ih false
    cases b <;> simp only [sk, List.length_cons] <;> split <;> (try split) <;> omega
theorem rn_le (p : Int → Bool) : ∀ L : List Int, rn p L ≤ L.length := by
  intro L
  induction L with
  | nil => simp [rn]
  | cons c r ih => simp only [rn, List.length_cons]; split <;> omega
theorem sk_true : ∀ L : List Int, sk true L = rn not10 L + sk false (L.drop (rn not10 L)) := by
  intro L
  induction L with
  | nil => simp [sk, rn]
  | cons c r ih =>
    by_cases h : c = 10
    · subst h; simp [sk, rn, not10, blan]
    · have : not10 c = true := by simp [not10, h]
      rw [sk, if_neg h, rn, if_pos this, ih, List.drop_succ_cons]; omega
theorem sg_2 {L : List Int} (h : pairsL.any (fun p => p.isPrefixOf L) = true) : sg L = 2 := by unfold sg; rw [if_pos h]
theorem sg_1 {c : Int} {r : List Int} (h : pairsL.any (fun p => p.isPrefixOf (c :: r)) = false) (h1 : signsL.contains c = true) : sg (c :: r) = 1 := by
  unfold sg; rw [if_neg (by rw [h]; exact Bool.false_ne_true)]; simp only; rw [if_pos h1]
theorem sg_0 {c : Int} {r : List Int} (h : pairsL.any (fun p => p.isPrefixOf (c :: r)) = false) (h1 : signsL.contains c = false) : sg (c :: r) = 0 := by
  unfold sg; rw [if_neg (by rw [h]; exact Bool.false_ne_true)]; simp only; rw [if_neg (by rw [h1]; exact Bool.false_ne_true)]
theorem sg_le (L : List Int) : sg L ≤ L.length := by
  unfold sg
  split
  · rename_i h
    obtain ⟨p, hp, hq⟩ := List.any_eq_true.1 h
    have h1 := (List.isPrefixOf_iff_prefix.1 hq).length_le
    have h2 : ∀ p ∈ pairsL, p.length = 2 := by decide
    have := h2 p hp
    omega
  · split
    · simp
    · rename_i c r
      split <;> simp
theorem body_le (L : List Int) : (body L).2.2 ≤ L.length := by
  unfold body
  split
  · simp
  · rename_i c r
    split
    · exact rn_le _ _
    · split
      · split
        · exact rn_le _ _
        · simp
      · split
        · simp
        · exact sg_le _
theorem nx_le (L : List Int) : (nx L).n + (nx L).m ≤ L.length := by
  have h1 := body_le (L.drop (sk false L))
  have h2 := sk_le L false
  rw [List.length_drop] at h1
  show sk false L + (body (L.drop (sk false L))).2.2 ≤ L.length
  omega
theorem rn_pos {p : Int → Bool} {c : Int} {r : List Int} (h : p c = true) : 0 < rn p (c :: r) := by rw [rn, if_pos h]; omega
theorem body_pos {L : List Int} (h1 : (body L).1 = true) (h0 : L ≠ []) : 0 < (body L).2.2 ∧ (body L).2.1 ≠ 0 := by
  revert h1
  unfold body
  cases L with
  | nil => exact absurd rfl h0
  | cons c r =>
    simp only
    split
    · rename_i h
      intro _
      refine ⟨rn_pos (by simp [eith, h]), ?_⟩
      simp only
      split <;> decide
    · split
      · rename_i h
        split
        · intro _; exact ⟨rn_pos h, (by show (2 : Int) ≠ 0; decide)⟩
        · intro h1; cases h1
      · split
        · intro h1; cases h1
        · intro _; exact ⟨by simp only; omega, (by show (4 : Int) ≠ 0; decide)⟩
theorem drop_at (s : ByteArray) (i : Nat) (h : i < s.size) : (B s).drop i = bt s i :: (B s).drop (i + 1) := by
  have := B_at s i h
  rw [List.drop_eq_getElem_cons (by rw [B_len]; exact h)]
  rw [List.getElem?_eq_getElem (by rw [B_len]; exact h)] at this
  rw [Option.some.inj this]
theorem drop_end (s : ByteArray) (i : Nat) (h : s.size ≤ i) : (B s).drop i = [] := List.drop_eq_nil_of_le (by rw [B_len]; exact h)
theorem or32 (c : Int) (h0 : 0 ≤ c) (h1 : c < 256) : ibits .or .u8 c 32 = if (c / 32) % 2 = 0 then c + 32 else c := by
  have key : ∀ n : Fin 256, ibits .or .u8 (n.val : Int) 32 = if ((n.val : Int) / 32) % 2 = 0 then (n.val : Int) + 32 else (n.val : Int) := by decide +kernel
  have := key ⟨c.toNat, by omega⟩
  simp only at this
  rw [show ((c.toNat : Nat) : Int) = c from by omega] at this
  exact this
theorem ib_blank (c : Int) (h0 : 0 ≤ c) (h1 : c < 256) : decide (0 ≤ Lib.indexByte [32, 9, 10, 13] c.toNat.toUInt8) = blan c := by
  have key : ∀ n : Fin 256, decide (0 ≤ Lib.indexByte [32, 9, 10, 13] n.val.toUInt8) = blan (n.val : Int) := by decide +kernel
  have := key ⟨c.toNat, by omega⟩
  simp only at this
  rw [show ((c.toNat : Nat) : Int) = c from by omega] at this
  exact this
theorem ib_sign (c : Int) (h0 : 0 ≤ c) (h1 : c < 256) : decide (0 ≤ Lib.indexByte [43, 45, 42, 47, 37, 60, 62, 33, 61, 40, 41, 123, 125, 91, 93, 44, 59] c.toNat.toUInt8) = signsL.contains c := by
  have key : ∀ n : Fin 256, decide (0 ≤ Lib.indexByte [43, 45, 42, 47, 37, 60, 62, 33, 61, 40, 41, 123, 125, 91, 93, 44, 59] n.val.toUInt8) = signsL.contains (n.val : Int) := by decide +kernel
  have := key ⟨c.toNat, by omega⟩
  simp only at this
  rw [show ((c.toNat : Nat) : Int) = c from by omega] at this
  exact this
/-- A text in a list: its place; -1: none. -/
def ixS (q : ByteArray → Bool) : List ByteArray → Int
  | [] => -1
  | a :: r => if q a then 0 else if ixS q r < 0 then -1 else ixS q r + 1
theorem ixS_at (q : ByteArray → Bool) : ∀ (xs : List ByteArray) (i : Nat) (x : ByteArray), xs[i]? = some x → q x = true → (∀ j y, j < i → xs[j]? = some y → q y = false) → ixS q xs = i := by
  intro xs
  induction xs with
  | nil => intro i x h; simp at h
  | cons e r ih =>
    intro i x h hx hn
    cases i with
    | zero => simp only [List.getElem?_cons_zero, Option.some.injEq] at h; subst h; simp [ixS, hx]
    | succ i =>
      have h0 := hn 0 e (by omega) rfl
      have := ih i x (by simpa using h) hx (fun j y hj hy => hn (j + 1) y (by omega) (by simpa using hy))
      rw [ixS, if_neg (by simp [h0]), this, if_neg (by omega)]
      omega
theorem ixS_none (q : ByteArray → Bool) : ∀ (xs : List ByteArray), (∀ (j : Nat) y, xs[j]? = some y → q y = false) → ixS q xs = -1 := by
  intro xs
  induction xs with
  | nil => intro _; rfl
  | cons e r ih =>
    intro hn
    have := ih (fun j y hy => hn (j + 1) y (by simpa using hy))
    rw [ixS, if_neg (by simp [hn 0 e rfl]), this]
    rfl
theorem ixS_any (q : ByteArray → Bool) : ∀ (xs : List ByteArray), decide (0 ≤ ixS q xs) = xs.any q := by
  intro xs
  induction xs with
  | nil => rfl
  | cons e r ih =>
    rw [List.any_cons, ← ih, ixS]
    cases h : q e
    · simp only [Bool.false_eq_true, if_false, Bool.false_or]
      split
      · rename_i h1; rw [decide_eq_false (by omega), decide_eq_false (by omega)]
      · rename_i h1; rw [decide_eq_true (by omega), decide_eq_true (by omega)]
    · simp
theorem B_words : wordsB.map B = wordsL := by kernel_rfl
theorem B_pairs : pairsB.map B = pairsL := by kernel_rfl
theorem words_any (x : ByteArray) : wordsB.any (fun y => x.toList == y.toList) = wordsL.contains (B x) := by
  simp only [str_eq]
  rw [← B_words, Bool.eq_iff_iff, List.any_eq_true, List.contains_iff_mem, List.mem_map]
  constructor
  · rintro ⟨y, hy, h⟩; exact ⟨y, hy, (of_decide_eq_true h).symm⟩
  · rintro ⟨y, hy, h⟩; exact ⟨y, hy, decide_eq_true h.symm⟩
theorem pref_eq (s p : ByteArray) : (decide (p.size ≤ s.size) && ((s.extract 0 p.size).toList == p.toList)) = (B p).isPrefixOf (B s) := by
  rw [str_eq, B_extract, List.drop_zero, Bool.eq_iff_iff, List.isPrefixOf_iff_prefix]
  simp only [Bool.and_eq_true, decide_eq_true_eq]
  rw [← B_len p, ← B_len s, List.prefix_iff_eq_take]
  constructor
  · rintro ⟨_, h⟩; exact h.symm
  · intro h; refine ⟨?_, h.symm⟩
    have := congrArg List.length h
    rw [List.length_take] at this
    omega
end Go.Proofs.YtlkipdfipaipbaaDoor.Tk
