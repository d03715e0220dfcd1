/- Plain laws of a shelf: what is asked last stands last. -/
import Derived.Test.YtfckpboidecmaaaAr
namespace Go.Proofs.Ytfckpboidecmaaa.Ar
/-- The numbers, the one that was asked last at the end. -/
def lru (n : Nat) (ks : List Int) (k : Int) : List Int := (ks.filter (fun y => !(y == k)) ++ [k]).drop ((ks.filter (fun y => !(y == k)) ++ [k]).length - n)
theorem idx_hit : ∀ (xs : List (Int × Int)) (k : Int), 0 ≤ idx xs k → ∃ x, xs[(idx xs k).toNat]? = some (k, x) := by
  intro xs
  induction xs with
  | nil => intro k h; simp [idx] at h
  | cons e r ih =>
    intro k h
    rw [idx] at h ⊢
    by_cases h1 : e.1 = k
    · rw [if_pos h1]; exact ⟨e.2, by simp [← h1]⟩
    · rw [if_neg h1] at h ⊢
      by_cases h2 : idx r k < 0
      · rw [if_pos h2] at h; omega
      · rw [if_neg h2]
        obtain ⟨x, hx⟩ := ih k (by omega)
        exact ⟨x, by rw [show (idx r k + 1).toNat = (idx r k).toNat + 1 from by omega]; simpa using hx⟩
theorem idx_mem (xs : List (Int × Int)) (k : Int) : 0 ≤ idx xs k ↔ k ∈ xs.map (·.1) := by
  constructor
  · intro h
    obtain ⟨x, hx⟩ := idx_hit xs k h
    exact List.mem_map.2 ⟨(k, x), List.mem_of_getElem? hx, rfl⟩
  · intro h
    rcases Int.lt_or_le (idx xs k) 0 with h1 | h1
    · exfalso
      obtain ⟨e, he, rfl⟩ := List.mem_map.1 h
      obtain ⟨i, hi⟩ := List.mem_iff_getElem?.1 he
      -- the first such place
      have : ∀ (ys : List (Int × Int)) (i : Nat), ys[i]? = some e → 0 ≤ idx ys e.1 := by
        intro ys
        induction ys with
        | nil => intro i h; simp at h
        | cons y r ih =>
          intro i h
          rw [idx]
          split
          · omega
          · rename_i hne
            cases i with
            | zero => simp only [List.getElem?_cons_zero, Option.some.injEq] at h; subst h; exact absurd rfl hne
            | succ i => have := ih i (by simpa using h); rw [if_neg (by omega)]; omega
      have := this xs i hi
      omega
    · exact h1
theorem filter_none {ks : List Int} {k : Int} (h : k ∉ ks) : ks.filter (fun y => !(y == k)) = ks := by
  rw [List.filter_eq_self]
  intro y hy
  have : y ≠ k := fun e => h (e ▸ hy)
  simp [this]
theorem filter_erase : ∀ (ks : List Int) (i : Nat) (k : Int), ks.Nodup → ks[i]? = some k → ks.filter (fun y => !(y == k)) = ks.eraseIdx i := by
  intro ks
  induction ks with
  | nil => intro i k _ h; simp at h
  | cons a r ih =>
    intro i k hn h
    rw [List.nodup_cons] at hn
    cases i with
    | zero =>
      simp only [List.getElem?_cons_zero, Option.some.injEq] at h
      subst h
      simp only [List.filter_cons, beq_self_eq_true, Bool.not_true, Bool.false_eq_true, if_false, List.eraseIdx_cons_zero]
      exact filter_none hn.1
    | succ i =>
      simp only [List.getElem?_cons_succ] at h
      have hne : a ≠ k := fun e => hn.1 (e ▸ List.mem_of_getElem? h)
      simp only [List.filter_cons, List.eraseIdx_cons_succ]
      rw [if_pos (by simp [hne]), ih i k hn.2 h]
theorem put_keys (xs : List (Int × Int)) (n : Nat) (k x : Int) (hn : (xs.map (·.1)).Nodup) (hl : xs.length ≤ n) (h1 : 1 ≤ n) : (put xs n k x).map (·.1) = lru n (xs.map (·.1)) k := by
  unfold put lru
  by_cases h : 0 ≤ idx xs k
  · rw [if_pos h]
    obtain ⟨y, hy⟩ := idx_hit xs k h
    have hk : (xs.map (·.1))[(idx xs k).toNat]? = some k := by rw [List.getElem?_map, hy]; rfl
    rw [filter_erase _ _ _ hn hk]
    have hlt := (idx_range xs k).2
    have hlen : ((xs.map (·.1)).eraseIdx (idx xs k).toNat ++ [k]).length = xs.length := by
      rw [List.length_append, List.length_eraseIdx, if_pos (by simp; omega), List.length_map, List.length_singleton]; omega
    rw [hlen, show xs.length - n = 0 from by omega, List.drop_zero]
    simp [List.eraseIdx_eq_take_drop_succ, List.map_take, List.map_drop]
  · rw [if_neg h]
    have hk : k ∉ xs.map (·.1) := fun hm => h ((idx_mem xs k).2 hm)
    rw [filter_none hk]
    simp only [List.length_append, List.length_map, List.length_singleton, List.map_append, List.map_cons, List.map_nil]
    by_cases hf : (n : Int) ≤ xs.length
    · have e : xs.length + 1 - n = 1 := by omega
      rw [if_pos hf, e]
      cases xs with
      | nil => simp at hf; omega
      | cons a r => simp
    · have e : xs.length + 1 - n = 0 := by omega
      rw [if_neg hf, e, List.drop_zero]
theorem lru_nodup {n : Nat} {ks : List Int} {k : Int} (h : ks.Nodup) : (lru n ks k).Nodup := by
  unfold lru
  refine List.Sublist.nodup (List.drop_sublist _ _) ?_
  rw [List.nodup_append]
  refine ⟨List.Sublist.nodup List.filter_sublist h, by simp, ?_⟩
  intro a ha b hb
  simp only [List.mem_singleton] at hb
  subst hb
  simp only [List.mem_filter, Bool.not_eq_true', beq_eq_false_iff_ne] at ha
  exact ha.2
theorem lru_len (n : Nat) (ks : List Int) (k : Int) : (lru n ks k).length ≤ n := by
  unfold lru; rw [List.length_drop]; omega
theorem lru_last {n : Nat} (ks : List Int) (k : Int) (h : 1 ≤ n) : k ∈ lru n ks k := by
  unfold lru
  rw [List.drop_append_of_le_length (by simp; omega)]
  simp
theorem lru_mem {n : Nat} {ks : List Int} {k y : Int} (h : y ∈ lru n ks k) : y = k ∨ y ∈ ks := by
  have := List.mem_of_mem_drop h
  simp only [List.mem_append, List.mem_filter, List.mem_singleton] at this
  rcases this with h | h
  · exact .inr h.1
  · exact .inl h
theorem lru_room {n : Nat} {ks : List Int} {k : Int} (h : ks.length < n) : lru n ks k = ks.filter (fun y => !(y == k)) ++ [k] := by
  unfold lru
  have : (ks.filter (fun y => !(y == k))).length ≤ ks.length := List.length_filter_le _ _
  rw [List.length_append, List.length_singleton, show (ks.filter (fun y => !(y == k))).length + 1 - n = 0 from by omega, List.drop_zero]
theorem put_vals {xs : List (Int × Int)} {r k x : Int} {P : Int × Int → Prop} (h : ∀ e ∈ xs, P e) (hk : P (k, x)) : ∀ e ∈ put xs r k x, P e := by
  intro e he
  unfold put at he
  split at he
  · rcases List.mem_append.1 he with h1 | h1
    · exact h e (List.mem_of_mem_eraseIdx h1)
    · rw [List.mem_singleton.1 h1]; exact hk
  · rcases List.mem_append.1 he with h1 | h1
    · split at h1
      · exact h e (List.mem_of_mem_eraseIdx h1)
      · exact h e h1
    · rw [List.mem_singleton.1 h1]; exact hk
theorem nodup_le : ∀ (a b : List Int), a.Nodup → (∀ x ∈ a, x ∈ b) → a.length ≤ b.length := by
  intro a
  induction a with
  | nil => intro b _ _; simp
  | cons x r ih =>
    intro b hn hs
    rw [List.nodup_cons] at hn
    obtain ⟨b1, b2, rfl⟩ := List.append_of_mem (hs x (List.mem_cons_self ..))
    have := ih (b1 ++ b2) hn.2 (fun y hy => by
      have h1 := hs y (List.mem_cons_of_mem _ hy)
      have h2 : y ≠ x := fun e => hn.1 (e ▸ hy)
      simp only [List.mem_append, List.mem_cons] at h1 ⊢
      rcases h1 with h | h | h
      · exact .inl h
      · exact absurd h h2
      · exact .inr h)
    simp only [List.length_append, List.length_cons] at this ⊢
    omega
end Go.Proofs.Ytfckpboidecmaaa.Ar
