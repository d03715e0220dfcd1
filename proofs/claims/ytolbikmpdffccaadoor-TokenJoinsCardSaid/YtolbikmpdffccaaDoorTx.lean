/- Tokens: plain laws of a text's all. -/
import Derived.Test.YtolbikmpdffccaaDoorTb
namespace Go.Proofs.YtolbikmpdffccaaDoor.Tk
open Go Fw
set_option linter.unusedVariables false
theorem als_zero (a : Nat) (L : List Int) : als 0 a L = ([], some (a : Int)) := rfl
theorem als_bad {f a : Nat} {L : List Int} (h : (nx L).ok = false) : als (f + 1) a L = ([], some ((a + (nx L).n : Nat) : Int)) := by
  rw [als, if_neg (by rw [h]; exact Bool.false_ne_true)]
theorem als_end {f a : Nat} {L : List Int} (h : (nx L).ok = true) (hk : (nx L).k = 0) : als (f + 1) a L = ([(0, ((a + (nx L).n : Nat) : Int), ((a + (nx L).n + (nx L).m : Nat) : Int))], none) := by
  rw [als, if_pos h, if_pos hk]
theorem als_more {f a : Nat} {L : List Int} (h : (nx L).ok = true) (hk : (nx L).k ≠ 0) :
    als (f + 1) a L = (((nx L).k, ((a + (nx L).n : Nat) : Int), ((a + (nx L).n + (nx L).m : Nat) : Int)) :: (als f (a + (nx L).n + (nx L).m) (L.drop ((nx L).n + (nx L).m))).1, (als f (a + (nx L).n + (nx L).m) (L.drop ((nx L).n + (nx L).m))).2) := by
  rw [als, if_pos h, if_neg hk]
/-- The first of all. -/
theorem als_cons {f a : Nat} {L : List Int} {x : T3} {r : List T3} (h : als f a L = (x :: r, none)) :
    (nx L).ok = true ∧ x = ((nx L).k, ((a + (nx L).n : Nat) : Int), ((a + (nx L).n + (nx L).m : Nat) : Int)) ∧
      ((nx L).k = 0 ∧ r = [] ∨ (nx L).k ≠ 0 ∧ ∃ g, f = g + 1 ∧ als g (a + (nx L).n + (nx L).m) (L.drop ((nx L).n + (nx L).m)) = (r, none)) := by
  cases f with
  | zero => rw [als_zero] at h; cases h
  | succ g =>
    by_cases hok : (nx L).ok = true
    · by_cases hk : (nx L).k = 0
      · rw [als_end hok hk] at h
        simp only [Prod.mk.injEq, List.cons.injEq, and_true] at h
        exact ⟨hok, by rw [hk]; exact h.1.symm, .inl ⟨hk, h.2.symm⟩⟩
      · rw [als_more hok hk] at h
        simp only [Prod.mk.injEq, List.cons.injEq] at h
        exact ⟨hok, h.1.1.symm, .inr ⟨hk, g, rfl, Prod.ext h.1.2 h.2⟩⟩
    · rw [als_bad (by simpa using hok)] at h; cases h
theorem als_ne {f a : Nat} {L : List Int} : als f a L ≠ ([], none) := by
  intro h
  cases f with
  | zero => rw [als_zero] at h; cases h
  | succ g =>
    by_cases hok : (nx L).ok = true
    · by_cases hk : (nx L).k = 0
      · rw [als_end hok hk] at h; cases h
      · rw [als_more hok hk] at h; cases h
    · rw [als_bad (by simpa using hok)] at h; cases h
/-- More fuel changes nothing. -/
theorem als_fuel : ∀ (f f' a : Nat) (L : List Int), L.length < f → L.length < f' → als f a L = als f' a L := by
  intro f
  induction f with
  | zero => intro f' a L h; omega
  | succ g ih =>
    intro f' a L h h'
    cases f' with
    | zero => omega
    | succ g' =>
      by_cases hok : (nx L).ok = true
      · by_cases hk : (nx L).k = 0
        · rw [als_end hok hk, als_end hok hk]
        · have h1 := nx_pos hok hk
          have h2 := nx_le L
          rw [als_more hok hk, als_more hok hk, ih g' _ _ (by rw [List.length_drop]; omega) (by rw [List.length_drop]; omega)]
      · rw [als_bad (by simpa using hok), als_bad (by simpa using hok)]
/-- All is good: what it says. -/
theorem all_ok {L : List Int} (h : (allT L).2.2 = 0) : L.length ≤ 20000 ∧ als (L.length + 1) 0 L = ((allT L).1, none) ∧ (allT L).2.1 = 0 := by
  unfold allT at h ⊢
  split
  · rename_i hb; rw [if_pos hb] at h; cases h
  · rename_i hb
    rw [if_neg hb] at h
    split
    · rename_i l he; exact ⟨by omega, by rw [he], rfl⟩
    · rename_i l p he; rw [he] at h; cases h
theorem all_bad {L : List Int} (h : (allT L).2.2 ≠ 0) : (allT L).1 = [] := by
  unfold allT at h ⊢
  split
  · rfl
  · rename_i hb
    rw [if_neg hb] at h
    split
    · rename_i l he; rw [he] at h; exact absurd rfl h
    · rfl
theorem all_of {L : List Int} {ts : List T3} {f : Nat} (h0 : L.length ≤ 20000) (hf : L.length < f) (h : als f 0 L = (ts, none)) : allT L = (ts, 0, 0) := by
  rw [allT, if_neg (by omega), als_fuel (L.length + 1) f 0 L (by omega) hf, h]
theorem all_len {L : List Int} (h : L.length ≤ 20000) : (allT L).1.length ≤ L.length + 1 := by
  have := als_len (L.length + 1) 0 L
  rw [allT, if_neg (by omega)]
  split
  · rename_i l he; rw [he] at this; exact this
  · simp
def shift (c : Nat) (t : T3) : T3 := (t.1, t.2.1 + c, t.2.2 + c)
theorem als_shift (c : Nat) : ∀ (f a : Nat) (L : List Int), als f (a + c) L = ((als f a L).1.map (shift c), (als f a L).2.map (· + (c : Int))) := by
  intro f
  induction f with
  | zero => intro a L; simp [als_zero]
  | succ g ih =>
    intro a L
    by_cases hok : (nx L).ok = true
    · by_cases hk : (nx L).k = 0
      · rw [als_end hok hk, als_end hok hk]
        simp only [List.map_cons, List.map_nil, shift, Option.map_none, Prod.mk.injEq, List.cons.injEq, true_and, and_true]
        omega
      · rw [als_more hok hk, als_more hok hk]
        have e : a + c + (nx L).n + (nx L).m = a + (nx L).n + (nx L).m + c := by omega
        rw [e, ih]
        simp only [List.map_cons, shift, Prod.mk.injEq, List.cons.injEq, true_and, and_true]
        omega
    · rw [als_bad (by simpa using hok), als_bad (by simpa using hok)]
      simp only [List.map_nil, Option.map_some, Prod.mk.injEq, Option.some.injEq, true_and]
      omega
theorem nx_blanks (c : Nat) (b : Int) (hb : blan b = true) (L : List Int) : nx (List.replicate c b ++ L) = ⟨(nx L).ok, (nx L).k, c + (nx L).n, (nx L).m⟩ := by
  have h := sk_blanks c L b hb
  have hd : (List.replicate c b ++ L).drop (c + sk false L) = L.drop (sk false L) := by
    rw [← List.drop_drop, List.drop_left' (by simp)]
  simp only [nx, h, hd]
theorem als_blanks (c : Nat) (b : Int) (hb : blan b = true) (f a : Nat) (L : List Int) : als (f + 1) a (List.replicate c b ++ L) = als (f + 1) (a + c) L := by
  have h := nx_blanks c b hb L
  have h1 : (nx (List.replicate c b ++ L)).ok = (nx L).ok := by rw [h]
  have h2 : (nx (List.replicate c b ++ L)).k = (nx L).k := by rw [h]
  have h3 : (nx (List.replicate c b ++ L)).n = c + (nx L).n := by rw [h]
  have h4 : (nx (List.replicate c b ++ L)).m = (nx L).m := by rw [h]
  by_cases hok : (nx L).ok = true
  · by_cases hk : (nx L).k = 0
    · rw [als_end (h1.trans hok) (h2.trans hk), als_end hok hk, h3, h4]
      simp only [Prod.mk.injEq, List.cons.injEq, true_and, and_true]; omega
    · have e : a + (c + (nx L).n) + (nx L).m = a + c + (nx L).n + (nx L).m := by omega
      have e2 : (List.replicate c b ++ L).drop (c + (nx L).n + (nx L).m) = L.drop ((nx L).n + (nx L).m) := by
        rw [show c + (nx L).n + (nx L).m = c + ((nx L).n + (nx L).m) from by omega, ← List.drop_drop, List.drop_left' (by simp)]
      rw [als_more (h1.trans hok) (by rw [h2]; exact hk), als_more hok hk, h2, h3, h4, e, e2]
      simp only [Prod.mk.injEq, List.cons.injEq, true_and, and_true]; omega
  · have hok' : (nx L).ok = false := by simpa using hok
    rw [als_bad (h1.trans hok'), als_bad hok', h3]
    simp only [Prod.mk.injEq, Option.some.injEq, true_and]; omega
theorem all_blanks_ahead (c : Nat) (L : List Int) (h0 : (allT L).2.2 = 0) (h : c + L.length ≤ 20000) : allT (List.replicate c 10 ++ L) = ((allT L).1.map (shift c), 0, 0) := by
  obtain ⟨_, h1, _⟩ := all_ok h0
  refine all_of (f := (c + L.length) + 1) (by simp; omega) (by simp) ?_
  rw [als_blanks c 10 rfl, als_shift, als_fuel _ (L.length + 1) 0 L (by omega) (by omega), h1]
  rfl
/-- Where tokens stand. -/
theorem als_bounds : ∀ (f a : Nat) (L : List Int) (t : T3), t ∈ (als f a L).1 → (a : Int) ≤ t.2.1 ∧ t.2.1 ≤ t.2.2 ∧ t.2.2 ≤ ((a + L.length : Nat) : Int) := by
  intro f
  induction f with
  | zero => intro a L t h; simp [als_zero] at h
  | succ g ih =>
    intro a L t h
    have hle := nx_le L
    by_cases hok : (nx L).ok = true
    · by_cases hk : (nx L).k = 0
      · rw [als_end hok hk] at h
        simp only [List.mem_singleton] at h
        subst h
        simp only
        omega
      · rw [als_more hok hk] at h
        simp only [List.mem_cons] at h
        rcases h with rfl | h
        · simp only; omega
        · have := ih _ _ t h
          rw [List.length_drop] at this
          omega
    · rw [als_bad (by simpa using hok)] at h; simp at h
theorem all_bounds {L : List Int} {t : T3} (h : t ∈ (allT L).1) : 0 ≤ t.2.1 ∧ t.2.1 ≤ t.2.2 ∧ t.2.2 ≤ (L.length : Int) := by
  by_cases h0 : (allT L).2.2 = 0
  · obtain ⟨_, h1, _⟩ := all_ok h0
    have := als_bounds (L.length + 1) 0 L t (by rw [h1]; exact h)
    omega
  · rw [all_bad h0] at h; simp at h
end Go.Proofs.YtolbikmpdffccaaDoor.Tk
