/- Worlds as texts: plain laws. -/
import Derived.Test.YtoldmhlkgdfkmaaDoorSp
namespace Go.Proofs.YtoldmhlkgdfkmaaDoor.Wo
open Go Fw Nu Sp
set_option linter.unusedVariables false
/-- "steps ". -/
def stepsL : List Int := [115, 116, 101, 112, 115, 32]
/-- The numbers of a text between its head and its end. -/
def nums (L : List Int) : Option (List Int) := (spl 32 L).mapM num
/-- What a text is parsed as: steps, inputs, the error. -/
def pw (L : List Int) : Int × List Int × Int :=
  if stepsL.isPrefixOf L = true ∧ (L.drop 6).getLast? = some 10 then
    (match nums ((L.drop 6).dropLast) with
    | some (n :: l) => if 0 ≤ n ∧ n ≤ 100000 ∧ l.length ≤ 1000 then (n, l, 0) else (0, [], 15)
    | _ => (0, [], 3))
  else (0, [], 3)
/-- The text of steps and inputs. -/
def tw (n : Int) (l : List Int) : List Int := stepsL ++ jnc 32 ((n :: l).map dc) ++ [10]
theorem mapM_some {α β : Type} {f : α → Option β} : ∀ {l : List α} {r : List β}, l.mapM f = some r → l.length = r.length ∧ ∀ (i : Nat) (a : α), l[i]? = some a → ∃ b, r[i]? = some b ∧ f a = some b := by
  intro l
  induction l with
  | nil => intro r h; simp at h; subst h; simp
  | cons a l ih =>
    intro r h
    simp only [List.mapM_cons, Option.pure_def, Option.bind_eq_bind] at h
    cases ha : f a with
    | none => simp [ha] at h
    | some b =>
      cases hl : l.mapM f with
      | none => simp [ha, hl] at h
      | some s =>
        simp [ha, hl] at h
        subst h
        obtain ⟨h1, h2⟩ := ih hl
        refine ⟨by simp [h1], fun i x hx => ?_⟩
        cases i with
        | zero => simp at hx; subst hx; exact ⟨b, rfl, ha⟩
        | succ i => simp at hx; exact h2 i x hx
theorem mapM_of {α β : Type} {f : α → Option β} : ∀ {l : List α} {r : List β}, l.length = r.length → (∀ (i : Nat) (a : α) (b : β), l[i]? = some a → r[i]? = some b → f a = some b) → l.mapM f = some r := by
  intro l
  induction l with
  | nil => intro r h _; cases r with
    | nil => rfl
    | cons => simp at h
  | cons a l ih =>
    intro r h hf
    cases r with
    | nil => simp at h
    | cons b r =>
      have h1 := hf 0 a b rfl rfl
      have h2 := ih (r := r) (by simpa using h) (fun i x y hx hy => hf (i + 1) x y (by simpa using hx) (by simpa using hy))
      simp [List.mapM_cons, h1, h2]
theorem dc_no32 (n : Int) : ∀ x ∈ dc n, x ≠ 32 := by
  intro x hx
  have := dc_chars n x hx
  omega
theorem nums_text {n : Int} {l : List Int} (hn : I64 n) (hl : ∀ x ∈ l, I64 x) : nums (jnc 32 ((n :: l).map dc)) = some (n :: l) := by
  rw [nums, spl_jnc 32 _ (by simp) (by
    intro w hw
    obtain ⟨m, _, rfl⟩ := List.mem_map.1 hw
    exact dc_no32 m)]
  refine mapM_of (by simp) ?_
  intro i a b ha hb
  rw [List.getElem?_map, hb] at ha
  simp only [Option.map_some, Option.some.injEq] at ha
  subst ha
  have : b ∈ n :: l := List.mem_of_getElem? hb
  rcases List.mem_cons.1 this with rfl | h
  · exact num_dc hn
  · exact num_dc (hl b h)
theorem nums_eq {L : List Int} {r : List Int} (h : nums L = some r) : L = jnc 32 (r.map dc) := by
  obtain ⟨h1, h2⟩ := mapM_some h
  have : spl 32 L = r.map dc := by
    apply List.ext_getElem?
    intro i
    cases hi : (spl 32 L)[i]? with
    | none =>
      have := List.getElem?_eq_none_iff.1 hi
      rw [List.getElem?_eq_none (by simp; omega)]
    | some a =>
      obtain ⟨b, hb, hf⟩ := h2 i a hi
      rw [List.getElem?_map, hb, num_eq hf]
      rfl
  rw [← this, jnc_spl]
theorem pw_tw {n : Int} {l : List Int} (h0 : 0 ≤ n) (h1 : n ≤ 100000) (hl : l.length ≤ 1000) (hi : ∀ x ∈ l, I64 x) : pw (tw n l) = (n, l, 0) := by
  have e1 : (tw n l).drop 6 = jnc 32 ((n :: l).map dc) ++ [10] := by rw [tw, List.append_assoc]; rfl
  have e2 : stepsL.isPrefixOf (tw n l) = true := by rw [tw, List.append_assoc]; simp [List.isPrefixOf_iff_prefix]
  rw [pw, e1, e2, List.dropLast_concat, nums_text ⟨by omega, by omega⟩ hi]
  simp [h0, h1, hl]
theorem pw_ok {L : List Int} {n : Int} {l : List Int} (h : pw L = (n, l, 0)) : L = tw n l ∧ 0 ≤ n ∧ n ≤ 100000 ∧ l.length ≤ 1000 := by
  unfold pw at h
  split at h
  · rename_i hc
    obtain ⟨h1, h2⟩ := hc
    split at h
    · rename_i m r hm
      split at h
      · rename_i hb
        simp only [Prod.mk.injEq] at h
        obtain ⟨rfl, rfl, _⟩ := h
        refine ⟨?_, hb.1, hb.2.1, hb.2.2⟩
        obtain ⟨R, rfl⟩ := List.isPrefixOf_iff_prefix.1 h1
        have e : (stepsL ++ R).drop 6 = R := rfl
        rw [e] at h2 hm
        have hR : R = R.dropLast ++ [10] := by
          have hne : R ≠ [] := by rintro rfl; simp at h2
          rw [List.getLast?_eq_some_getLast hne] at h2
          have := List.dropLast_concat_getLast hne
          simp only [Option.some.injEq] at h2
          rw [h2] at this
          exact this.symm
        rw [tw, ← nums_eq hm, List.append_assoc, ← hR]
      · simp at h
    · simp at h
  · simp at h
theorem tw_inj {m n : Int} {k l : List Int} (hm : 0 ≤ m ∧ m ≤ 100000 ∧ k.length ≤ 1000) (hk : ∀ x ∈ k, I64 x) (hn : 0 ≤ n ∧ n ≤ 100000 ∧ l.length ≤ 1000) (hl : ∀ x ∈ l, I64 x) (h : tw m k = tw n l) : m = n ∧ k = l := by
  have h1 := pw_tw hm.1 hm.2.1 hm.2.2 hk
  rw [h, pw_tw hn.1 hn.2.1 hn.2.2 hl] at h1
  simp only [Prod.mk.injEq] at h1
  exact ⟨h1.1.symm, h1.2.1.symm⟩
end Go.Proofs.YtoldmhlkgdfkmaaDoor.Wo
