/- Texts parted at a byte, and joined: plain laws. -/
import Derived.Test.YtlkipdfipaipbaaDoorNu
namespace Go.Proofs.YtlkipdfipaipbaaDoor.Sp
open Go Fw
set_option linter.unusedVariables false
/-- The parts between the bytes c. -/
def spl (c : Int) : List Int → List (List Int)
  | [] => [[]]
  | x :: r => if x = c then [] :: spl c r else (match spl c r with | h :: t => (x :: h) :: t | [] => [[x]])
/-- Parts, with c between them. -/
def jnc (c : Int) : List (List Int) → List Int
  | [] => []
  | [w] => w
  | w :: v :: r => w ++ c :: jnc c (v :: r)
theorem spl_ne (c : Int) (L : List Int) : spl c L ≠ [] := by
  cases L with
  | nil => simp [spl]
  | cons x r =>
    rw [spl]
    split
    · simp
    · split <;> simp
theorem spl_at (c : Int) (R : List Int) : ∀ (W : List Int), (∀ x ∈ W, x ≠ c) → spl c (W ++ c :: R) = W :: spl c R := by
  intro W
  induction W with
  | nil => intro _; rw [List.nil_append, spl, if_pos rfl]
  | cons x r ih =>
    intro h
    rw [List.cons_append, spl, if_neg (h x (List.mem_cons_self ..)), ih fun y hy => h y (List.mem_cons_of_mem _ hy)]
theorem spl_no (c : Int) : ∀ (W : List Int), (∀ x ∈ W, x ≠ c) → spl c W = [W] := by
  intro W
  induction W with
  | nil => intro _; rfl
  | cons x r ih =>
    intro h
    rw [spl, if_neg (h x (List.mem_cons_self ..)), ih fun y hy => h y (List.mem_cons_of_mem _ hy)]
theorem jnc_cons (c : Int) (w : List Int) {r : List (List Int)} (h : r ≠ []) : jnc c (w :: r) = w ++ c :: jnc c r := by
  cases r with
  | nil => exact (h rfl).elim
  | cons v r => rfl
theorem spl_jnc (c : Int) : ∀ (ws : List (List Int)), ws ≠ [] → (∀ w ∈ ws, ∀ x ∈ w, x ≠ c) → spl c (jnc c ws) = ws := by
  intro ws
  induction ws with
  | nil => intro h; exact (h rfl).elim
  | cons w r ih =>
    intro _ h
    cases r with
    | nil => exact spl_no c w (h w (List.mem_cons_self ..))
    | cons v r =>
      rw [jnc_cons c w (by simp), spl_at c _ w (h w (List.mem_cons_self ..)), ih (by simp) fun u hu => h u (List.mem_cons_of_mem _ hu)]
theorem jnc_spl (c : Int) : ∀ L : List Int, jnc c (spl c L) = L := by
  intro L
  induction L with
  | nil => rfl
  | cons x r ih =>
    rw [spl]
    split
    · rename_i h; rw [jnc_cons c [] (spl_ne c r), ih, h, List.nil_append]
    · have := spl_ne c r
      cases hs : spl c r with
      | nil => exact (this hs).elim
      | cons w t =>
        rw [hs] at ih
        show jnc c ((x :: w) :: t) = x :: r
        cases t with
        | nil => simp only [jnc] at ih ⊢; rw [ih]
        | cons v t => rw [jnc_cons c _ (by simp)] at ih ⊢; rw [List.cons_append, ih]
theorem spl_mem (c : Int) : ∀ L : List Int, ∀ w ∈ spl c L, ∀ x ∈ w, x ≠ c := by
  intro L
  induction L with
  | nil => intro w hw x hx; simp [spl] at hw; subst hw; cases hx
  | cons y r ih =>
    intro w hw x hx
    rw [spl] at hw
    split at hw
    · rcases List.mem_cons.1 hw with rfl | hw
      · cases hx
      · exact ih w hw x hx
    · rename_i hy
      cases hs : spl c r with
      | nil => exact (spl_ne c r hs).elim
      | cons v t =>
        rw [hs] at hw ih
        rcases List.mem_cons.1 hw with rfl | hw
        · rcases List.mem_cons.1 hx with rfl | hx
          · exact hy
          · exact ih v (List.mem_cons_self ..) x hx
        · exact ih w (List.mem_cons_of_mem _ hw) x hx
theorem spl_sub (c : Int) : ∀ L : List Int, ∀ w ∈ spl c L, w.length ≤ L.length ∧ ∀ x ∈ w, x ∈ L := by
  intro L
  induction L with
  | nil => intro w hw; simp [spl] at hw; subst hw; simp
  | cons y r ih =>
    intro w hw
    rw [spl] at hw
    split at hw
    · rcases List.mem_cons.1 hw with rfl | hw
      · simp
      · obtain ⟨h1, h2⟩ := ih w hw
        exact ⟨by simp; omega, fun x hx => List.mem_cons_of_mem _ (h2 x hx)⟩
    · cases hs : spl c r with
      | nil => exact (spl_ne c r hs).elim
      | cons v t =>
        rw [hs] at hw ih
        rcases List.mem_cons.1 hw with rfl | hw
        · obtain ⟨h1, h2⟩ := ih v (List.mem_cons_self ..)
          refine ⟨by simp; omega, fun x hx => ?_⟩
          rcases List.mem_cons.1 hx with rfl | hx
          · exact List.mem_cons_self ..
          · exact List.mem_cons_of_mem _ (h2 x hx)
        · obtain ⟨h1, h2⟩ := ih w (List.mem_cons_of_mem _ hw)
          exact ⟨by simp; omega, fun x hx => List.mem_cons_of_mem _ (h2 x hx)⟩
theorem spl_length (c : Int) : ∀ L : List Int, (spl c L).length ≤ L.length + 1 := by
  intro L
  induction L with
  | nil => simp [spl]
  | cons y r ih =>
    rw [spl]
    split
    · simp; omega
    · cases hs : spl c r with
      | nil => simp
      | cons v t => rw [hs] at ih; simp at ih ⊢; omega
theorem jnc_append (c : Int) : ∀ (ws : List (List Int)) (w : List Int), ws ≠ [] → jnc c (ws ++ [w]) = jnc c ws ++ c :: w := by
  intro ws
  induction ws with
  | nil => intro w h; exact (h rfl).elim
  | cons v r ih =>
    intro w _
    cases r with
    | nil => rfl
    | cons u r => rw [List.cons_append, jnc_cons c v (by simp), ih w (by simp), jnc_cons c v (by simp), List.append_assoc]; rfl
/-- Where the first c stands: what Index answers. -/
def fst (c : Int) : List Int → Option Nat
  | [] => none
  | x :: r => if x = c then some 0 else (fst c r).map (· + 1)
theorem fst_none {c : Int} : ∀ {L : List Int}, fst c L = none → ∀ x ∈ L, x ≠ c := by
  intro L
  induction L with
  | nil => intro _ x hx; cases hx
  | cons y r ih =>
    intro h x hx
    rw [fst] at h
    split at h
    · cases h
    · rename_i hy
      simp only [Option.map_eq_none_iff] at h
      rcases List.mem_cons.1 hx with rfl | hx
      · exact hy
      · exact ih h x hx
theorem fst_some {c : Int} : ∀ {L : List Int} {i : Nat}, fst c L = some i → i < L.length ∧ L = L.take i ++ c :: L.drop (i + 1) ∧ ∀ x ∈ L.take i, x ≠ c := by
  intro L
  induction L with
  | nil => intro i h; cases h
  | cons y r ih =>
    intro i h
    rw [fst] at h
    split at h
    · rename_i hy
      simp only [Option.some.injEq] at h
      subst h
      exact ⟨by simp, by simp [hy], by intro x hx; simp at hx⟩
    · rename_i hy
      simp only [Option.map_eq_some_iff] at h
      obtain ⟨j, hj, rfl⟩ := h
      obtain ⟨h1, h2, h3⟩ := ih hj
      refine ⟨by simp; omega, ?_, ?_⟩
      · rw [List.take_succ_cons, List.drop_succ_cons, List.cons_append, ← h2]
      · intro x hx
        rw [List.take_succ_cons] at hx
        rcases List.mem_cons.1 hx with rfl | hx
        · exact hy
        · exact h3 x hx
theorem indexByte_fst (c : UInt8) : ∀ l : List UInt8, Lib.indexByte l c = (match fst (c.toNat : Int) (l.map fun b => (b.toNat : Int)) with | some i => (i : Int) | none => -1) := by
  intro l
  induction l with
  | nil => rfl
  | cons b l ih =>
    rw [Lib.indexByte, List.map_cons, fst]
    by_cases h : b = c
    · subst h; simp
    · have h1 : ¬ (b.toNat : Int) = c.toNat := fun e => h (UInt8.toNat_inj.1 (by omega))
      have h2 : (b == c) = false := by simpa using h
      rw [if_neg h1, ih, h2]
      simp only [Bool.false_eq_true, if_false]
      cases fst (c.toNat : Int) (l.map fun b => (b.toNat : Int)) with
      | none => simp
      | some i => simp <;> omega
theorem index_B (s : ByteArray) (c : Int) (h0 : 0 ≤ c) (h1 : c < 256) : Lib.indexByte s.data.toList c.toNat.toUInt8 = (match fst c (B s) with | some i => (i : Int) | none => -1) := by
  rw [indexByte_fst, B]
  have : ((c.toNat.toUInt8.toNat : Nat) : Int) = c := by
    have : c.toNat < 256 := by omega
    simp [UInt8.toNat_ofNat']
    try omega
  rw [this]
end Go.Proofs.YtlkipdfipaipbaaDoor.Sp
