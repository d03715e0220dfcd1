/- A text's tokens serve the parser. -/
import Derived.Test.YtgnkdeapifbgeaaDoorGb
import Derived.Test.YtgnkdeapifbgeaaDoorUa
namespace Go.Proofs.YtgnkdeapifbgeaaDoor.Tk
open Go Fw
set_option linter.unusedVariables false
theorem als_each (L : List Int) : ∀ (ts : List T3) (f a : Nat), als f a (L.drop a) = (ts, none) → ∀ t ∈ ts, ∃ b : Nat, (nx (L.drop b)).ok = true ∧ t = ((nx (L.drop b)).k, ((b + (nx (L.drop b)).n : Nat) : Int), ((b + (nx (L.drop b)).n + (nx (L.drop b)).m : Nat) : Int)) := by
  intro ts
  induction ts with
  | nil => intro f a h t ht; cases ht
  | cons x r ih =>
    intro f a h t ht
    obtain ⟨h1, h2, h3⟩ := als_cons h
    rcases List.mem_cons.1 ht with ht | ht
    · exact ⟨a, h1, by rw [ht, h2]⟩
    · rcases h3 with ⟨_, rfl⟩ | ⟨_, g, _, h4⟩
      · cases ht
      · rw [List.drop_drop] at h4
        rw [Nat.add_assoc] at h4
        exact ih _ _ h4 t ht
theorem als_last : ∀ (ts : List T3) (f a : Nat) (L : List Int), als f a L = (ts, none) → ∀ (i : Nat) (t : T3), ts[i]? = some t → (i + 1 = ts.length ↔ t.1 = 0) := by
  intro ts
  induction ts with
  | nil => intro f a L h i t ht; simp at ht
  | cons x r ih =>
    intro f a L h i t ht
    obtain ⟨h1, h2, h3⟩ := als_cons h
    cases i with
    | zero =>
      simp only [List.getElem?_cons_zero, Option.some.injEq] at ht
      subst ht
      rcases h3 with ⟨hk, rfl⟩ | ⟨hk, g, _, h4⟩
      · simp [h2, hk]
      · have : r ≠ [] := fun e => by rw [e] at h4; exact als_ne h4
        have hl : 0 < r.length := by cases r with | nil => exact (this rfl).elim | cons => simp
        rw [h2]
        simp only [List.length_cons]
        constructor
        · intro e; omega
        · intro e; exact (hk e).elim
    | succ i =>
      simp only [List.getElem?_cons_succ] at ht
      rcases h3 with ⟨hk, rfl⟩ | ⟨hk, g, _, h4⟩
      · simp at ht
      · have := ih _ _ _ h4 i t ht
        simp only [List.length_cons]
        rw [← this]
        omega
theorem rn_all' (p : Int → Bool) : ∀ L : List Int, ∀ c ∈ L.take (rn p L), p c = true := by
  intro L
  induction L with
  | nil => intro c hc; simp [rn] at hc
  | cons x r ih =>
    intro c hc
    unfold rn at hc
    split at hc
    · rename_i h
      rw [List.take_succ_cons] at hc
      rcases List.mem_cons.1 hc with rfl | hc
      · exact h
      · exact ih c hc
    · simp at hc
theorem body_kind (L : List Int) : 0 ≤ (body L).2.1 ∧ (body L).2.1 ≤ 4 := by
  unfold body
  split
  · decide
  · split
    · simp only; split <;> omega
    · split
      · split <;> simp
      · split <;> simp
theorem body_num {L : List Int} (h : (body L).2.1 = 2) : (body L).2.2 ≤ 18 ∧ ∀ c ∈ L.take (body L).2.2, 48 ≤ c ∧ c ≤ 57 := by
  unfold body at h ⊢
  split at h
  · simp at h
  · split at h
    · simp only at h; split at h <;> omega
    · rename_i hl
      rw [if_neg hl]
      split at h
      · rename_i hd
        rw [if_pos hd]
        split at h
        · rename_i hc
          rw [if_pos hc]
          refine ⟨hc.1, fun c hm => ?_⟩
          have := rn_all' digi _ c hm
          simp only [digi, Bool.and_eq_true, decide_eq_true_eq] at this
          exact this
        · simp at h
      · split at h <;> simp at h
end Go.Proofs.YtgnkdeapifbgeaaDoor.Tk
namespace Go.Proofs.YtgnkdeapifbgeaaDoor.Sy
open Go Go.RowKit Fw
set_option linter.unusedVariables false
theorem wd_take {L : List Int} {b n m : Nat} : (L.take (b + n + m)).drop (b + n) = ((L.drop b).drop n).take m := by
  rw [List.drop_take, List.drop_drop]
  congr 1; omega
theorem ok_of {s : ByteArray} {X : Cx} (h0 : (Tk.allT (B s)).2.2 = 0) (hT : X.T = (Tk.allT (B s)).1) (hw : X.wl = (Tk.allT (B s)).1.map (Tk.tx s)) : Ok X := by
  obtain ⟨hL, hals, _⟩ := Tk.all_ok h0
  have hlen := Tk.all_len hL
  have hbd := fun t => Tk.all_bounds (L := B s) (t := t)
  have hls := Tk.als_last _ _ _ _ hals
  have heach := Tk.als_each (B s) _ _ 0 (by rw [List.drop_zero]; exact hals)
  rw [← hT] at hlen hbd hls heach
  rw [← hT] at hw
  have hwi : ∀ (i : Nat) (x : ByteArray), X.wl[i]? = some x → ∃ t, X.T[i]? = some t ∧ x = Tk.tx s t := fun i x hx => by
    rw [hw, List.getElem?_map, Option.map_eq_some_iff] at hx
    obtain ⟨t, ht, e⟩ := hx
    exact ⟨t, ht, e.symm⟩
  have hB : ∀ t, B (Tk.tx s t) = ((B s).take t.2.2.toNat).drop t.2.1.toNat := fun t => by rw [Tk.B_tx]; rfl
  refine ⟨by rw [hw, List.length_map], by omega, fun i t ht hi => (hls i t ht).1 hi, fun i x hx hi => ?_, fun i t ht => ?_, fun i t x ht hx hk => ?_, fun i x hx => ?_⟩
  · obtain ⟨t, ht, rfl⟩ := hwi i x hx
    have hk := (hls i t ht).1 hi
    obtain ⟨b, h1, h2⟩ := heach t (List.mem_of_getElem? ht)
    rw [h2] at hk
    obtain ⟨hm, _⟩ := Tk.nx_end h1 hk
    rw [hB, h2]
    simp only [hm]
    rw [Int.toNat_natCast, Int.toNat_natCast]
    exact List.drop_eq_nil_of_le (by rw [List.length_take]; omega)
  · obtain ⟨b, h1, h2⟩ := heach t (List.mem_of_getElem? ht)
    have := hbd t (List.mem_of_getElem? ht)
    refine ⟨?_, by omega, by omega⟩
    rw [h2]
    exact Tk.body_kind _
  · obtain ⟨t', ht', rfl⟩ := hwi i x hx
    rw [ht] at ht'; cases ht'
    obtain ⟨b, h1, h2⟩ := heach t (List.mem_of_getElem? ht)
    rw [h2] at hk
    obtain ⟨hl, hd⟩ := Tk.body_num (L := ((B s).drop b).drop (Tk.nx ((B s).drop b)).n) hk
    have e : B (Tk.tx s t) = (((B s).drop b).drop (Tk.nx ((B s).drop b)).n).take (Tk.nx ((B s).drop b)).m := by
      rw [hB, h2]
      simp only [Int.toNat_natCast]
      exact wd_take
    refine ⟨?_, fun c hc => hd c (by rw [e] at hc; exact hc)⟩
    rw [← B_len, e, List.length_take]
    exact Nat.le_trans (Nat.min_le_left _ _) hl
  · obtain ⟨t, ht, rfl⟩ := hwi i x hx
    rw [← B_len, hB, List.length_drop, List.length_take]
    omega
theorem env_of {s : ByteArray} {X : Cx} (hT : X.T = (Tk.allT (B s)).1) (hw : X.wl = (Tk.allT (B s)).1.map (Tk.tx s)) : X.E = envOf (B s) := by
  unfold Cx.E envOf
  rw [hT, hw, List.map_map]
  congr 1
  exact List.map_congr_left fun t _ => Tk.B_tx s t
end Go.Proofs.YtgnkdeapifbgeaaDoor.Sy
