/- Orders: a line's words, by definition: no program. -/
import Derived.Test.YtlkipdfipaipbaaDoorFb
import Derived.Lib.FieldsP
import Derived.Lib.DecodeN
namespace Go.Proofs.YtlkipdfipaipbaaDoor.Od
open Go Go.RowKit Fw
set_option linter.unusedVariables false
def sep (c : Int) : Bool := c == 32 || c == 9
def fstep (x : List (List Int) × Bool) (c : Int) : List (List Int) × Bool :=
  if sep c then (x.1, false) else if x.2 then (match x.1.getLast? with | some q => x.1.dropLast ++ [q ++ [c]] | none => [[c]], true) else (x.1 ++ [[c]], true)
/-- A line's words. -/
def flds (L : List Int) : List (List Int) := (L.foldl fstep ([], false)).1
theorem fstep_in (O : List (List Int)) (q X : List Int) (h : ∀ c ∈ X, sep c = false) : X.foldl fstep (O ++ [q], true) = (O ++ [q ++ X], true) := by
  induction X generalizing q with
  | nil => simp
  | cons c X ih =>
    rw [List.foldl_cons]
    have hc := h c List.mem_cons_self
    have e : fstep (O ++ [q], true) c = (O ++ [q ++ [c]], true) := by simp [fstep, hc]
    rw [e, ih _ (fun x hx => h x (List.mem_cons_of_mem _ hx))]
    simp
theorem fstep_out (O : List (List Int)) (c : Int) (X : List Int) (hc : sep c = false) (h : ∀ c ∈ X, sep c = false) : (c :: X).foldl fstep (O, false) = (O ++ [c :: X], true) := by
  rw [List.foldl_cons]
  have e : fstep (O, false) c = (O ++ [[c]], true) := by simp [fstep, hc]
  rw [e, fstep_in _ _ _ h]
  simp
theorem flds_inv : ∀ (X : List Int) (out : List (List Int)) (b : Bool) (n : Nat), out.length ≤ n → (∀ x ∈ out, x ≠ [] ∧ (∀ c ∈ x, sep c = false) ∧ x.length ≤ n) → (b = true → out ≠ []) →
    (X.foldl fstep (out, b)).1.length ≤ n + X.length ∧ ∀ x ∈ (X.foldl fstep (out, b)).1, x ≠ [] ∧ (∀ c ∈ x, sep c = false) ∧ x.length ≤ n + X.length := by
  intro X
  induction X with
  | nil => intro out b n h1 h2 _; exact ⟨by simpa using h1, by simpa using h2⟩
  | cons c X ih =>
    intro out b n h1 h2 h3
    rw [List.foldl_cons]
    have h2' : ∀ x ∈ out, x ≠ [] ∧ (∀ c ∈ x, sep c = false) ∧ x.length ≤ n + 1 := fun x hx => ⟨(h2 x hx).1, (h2 x hx).2.1, by have := (h2 x hx).2.2; omega⟩
    have key : (fstep (out, b) c).1.length ≤ n + 1 ∧ (∀ x ∈ (fstep (out, b) c).1, x ≠ [] ∧ (∀ c ∈ x, sep c = false) ∧ x.length ≤ n + 1) ∧ ((fstep (out, b) c).2 = true → (fstep (out, b) c).1 ≠ []) := by
      unfold fstep
      by_cases hs : sep c = true
      · rw [if_pos hs]
        exact ⟨by show out.length ≤ n + 1; omega, h2', fun h => by cases h⟩
      · rw [if_neg hs]
        have hs' : sep c = false := by simpa using hs
        cases b with
        | false =>
          rw [if_neg (by simp)]
          refine ⟨by simp; omega, fun x hx => ?_, fun _ => by simp⟩
          rcases List.mem_append.1 hx with hx | hx
          · exact h2' x hx
          · rw [List.mem_singleton] at hx
            subst hx
            exact ⟨by simp, fun d hd => by rw [List.mem_singleton] at hd; subst hd; exact hs', by simp⟩
        | true =>
          rw [if_pos rfl]
          rcases List.eq_nil_or_concat out with hnil | ⟨O, q, hq⟩
          · exact (h3 rfl hnil).elim
          · rw [List.concat_eq_append] at hq
            subst hq
            simp only [List.getLast?_append, List.getLast?_singleton, Option.some_or, List.dropLast_concat]
            have hq2 := h2 q (by simp)
            refine ⟨by simp at h1 ⊢; omega, fun x hx => ?_, fun _ => by simp⟩
            rcases List.mem_append.1 hx with hx | hx
            · exact h2' x (by simp [hx])
            · rw [List.mem_singleton] at hx
              subst hx
              refine ⟨by simp, fun d hd => ?_, by simp; omega⟩
              rcases List.mem_append.1 hd with hd | hd
              · exact hq2.2.1 d hd
              · rw [List.mem_singleton] at hd
                subst hd
                exact hs'
    have h := ih (fstep (out, b) c).1 (fstep (out, b) c).2 (n + 1) key.1 key.2.1 key.2.2
    rw [show ((fstep (out, b) c).1, (fstep (out, b) c).2) = fstep (out, b) c from rfl] at h
    rw [List.length_cons]
    exact ⟨by have := h.1; omega, fun x hx => by have := h.2 x hx; exact ⟨this.1, this.2.1, by omega⟩⟩
theorem flds_len (L : List Int) : (flds L).length ≤ L.length := by
  have := (flds_inv L [] false 0 (Nat.le_refl _) (fun x hx => by cases hx) (fun h => by cases h)).1
  simpa [flds] using this
theorem flds_mem {L : List Int} {x : List Int} (h : x ∈ flds L) : x ≠ [] ∧ (∀ c ∈ x, sep c = false) ∧ x.length ≤ L.length := by
  have := (flds_inv L [] false 0 (Nat.le_refl _) (fun x hx => by cases hx) (fun h => by cases h)).2 x h
  simpa using this
theorem dec_facts (n b0 b1 b2 b3 : Nat) (hn : 1 ≤ n) : 1 ≤ (Lib.decodeN n b0 b1 b2 b3).2 ∧ (Lib.decodeN n b0 b1 b2 b3).2 ≤ n ∧ (Lib.decodeN n b0 b1 b2 b3).2 ≤ 4 ∧ (b0 < 128 → Lib.decodeN n b0 b1 b2 b3 = (b0, 1)) ∧
    (128 ≤ b0 → 128 ≤ (Lib.decodeN n b0 b1 b2 b3).1 ∧ (1 < (Lib.decodeN n b0 b1 b2 b3).2 → 128 ≤ b1) ∧ (2 < (Lib.decodeN n b0 b1 b2 b3).2 → 128 ≤ b2) ∧ (3 < (Lib.decodeN n b0 b1 b2 b3).2 → 128 ≤ b3)) := by
  unfold Lib.decodeN
  repeat' split
  all_goals (refine ⟨?_, ?_, ?_, ?_, ?_⟩ <;> intros <;> simp_all <;> omega)
theorem get_bt (s : ByteArray) (i : Nat) (h : i < s.size) : ((s.get! i).toNat : Int) = bt s i := by
  have h2 := B_at s i h
  rw [B, List.getElem?_map, Option.map_eq_some_iff] at h2
  obtain ⟨b, hb, hb2⟩ := h2
  rw [← hb2]
  have : s.get! i = b := by
    show s.data[i]! = b
    rw [Array.getElem!_eq_getD, Array.getD_eq_getD_getElem?, ← Array.getElem?_toList, hb]; rfl
  rw [this]
/-- The predicate of Parse. -/
def pr (r : Nat) : Bool := sep r
theorem dec_step (s : ByteArray) (pos : Nat) (h : pos < s.size) : 1 ≤ (Utf8.decode s pos).2 ∧ pos + (Utf8.decode s pos).2 ≤ s.size ∧
    ((pr (Utf8.decode s pos).1 = true ∧ (Utf8.decode s pos).2 = 1 ∧ sep (bt s pos) = true) ∨ (pr (Utf8.decode s pos).1 = false ∧ ∀ j, pos ≤ j → j < pos + (Utf8.decode s pos).2 → sep (bt s j) = false)) := by
  rw [Lib.decode_at]
  obtain ⟨f1, f2, f3, f4, f5⟩ := dec_facts (s.size - pos) (s.get! pos).toNat (s.get! (pos + 1)).toNat (s.get! (pos + 2)).toNat (s.get! (pos + 3)).toNat (by omega)
  refine ⟨f1, by omega, ?_⟩
  have b0 := get_bt s pos h
  by_cases hb : (s.get! pos).toNat < 128
  · have e := f4 hb
    rw [e]
    have e2 : pr (s.get! pos).toNat = sep (bt s pos) := by unfold pr; rw [b0]
    simp only
    rw [e2]
    cases hs : sep (bt s pos) with
    | true => exact .inl ⟨by first | rfl | exact hs, by first | trivial | rfl, by first | rfl | exact hs⟩
    | false => exact .inr ⟨by first | rfl | exact hs, fun j h1 h2 => by rw [show j = pos from by omega]; exact hs⟩
  · obtain ⟨g1, g2, g3, g4⟩ := f5 (by omega)
    have hi : ∀ c : Int, 128 ≤ c → sep c = false := fun c hc => by
      have h1 : ¬ c = 32 := by omega
      have h2 : ¬ c = 9 := by omega
      simp [sep, h1, h2]
    refine .inr ⟨hi _ (by omega), fun j h1 h2 => hi _ ?_⟩
    have hj := get_bt s j (by omega)
    rw [← hj]
    have cases4 : j = pos ∨ j = pos + 1 ∨ j = pos + 2 ∨ j = pos + 3 := by omega
    rcases cases4 with rfl | rfl | rfl | rfl
    · omega
    · have := g2 (by omega); omega
    · have := g3 (by omega); omega
    · have := g4 (by omega); omega
def cut (s : ByteArray) (x : Nat × Nat) : List Int := ((B s).take x.2).drop x.1
/-- Where the walk of the runes stands, in plain words. -/
def st8 (s : ByteArray) (pos : Nat) (st : Option Nat) (acc : List (Nat × Nat)) : List (List Int) × Bool :=
  match st with
  | some a => (acc.map (cut s) ++ [cut s (a, pos)], true)
  | none => (acc.map (cut s), false)
theorem cut_more (s : ByteArray) {a p q : Nat} (h : a ≤ p) (h' : p ≤ q) : cut s (a, q) = cut s (a, p) ++ ((B s).take q).drop p := by
  unfold cut
  simp only
  have e1 : ((B s).take p).drop a = (((B s).take q).drop a).take (p - a) := by
    rw [List.take_drop, List.take_take, show min (a + (p - a)) q = p from by omega]
  have e2 : ((B s).take q).drop p = (((B s).take q).drop a).drop (p - a) := by
    rw [List.drop_drop, show a + (p - a) = p from by omega]
  rw [e1, e2, List.take_append_drop]
theorem drop_seg (s : ByteArray) {p q : Nat} (h : p ≤ q) (h' : q ≤ s.size) : (B s).drop p = ((B s).take q).drop p ++ (B s).drop q := by
  have hl := B_len s
  have e : ((B s).take q).drop p = ((B s).drop p).take (q - p) := by rw [List.take_drop, show p + (q - p) = q from by omega]
  have e2 : (B s).drop q = ((B s).drop p).drop (q - p) := by rw [List.drop_drop, show p + (q - p) = q from by omega]
  rw [e, e2, List.take_append_drop]
theorem seg_mem (s : ByteArray) {p q : Nat} {c : Int} (h : c ∈ ((B s).take q).drop p) : ∃ j, p ≤ j ∧ j < q ∧ j < s.size ∧ c = bt s j := by
  obtain ⟨i, hi⟩ := List.mem_iff_getElem?.1 h
  rw [List.getElem?_drop, List.getElem?_take] at hi
  split at hi
  · rename_i hlt
    have hl := (List.getElem?_eq_some_iff.1 hi).1
    rw [B_len] at hl
    rw [B_at s (p + i) hl] at hi
    exact ⟨p + i, by omega, hlt, hl, (Option.some.inj hi).symm⟩
  · cases hi
theorem spans_fold (s : ByteArray) : ∀ (f pos : Nat) (st : Option Nat) (acc : List (Nat × Nat)), s.size ≤ pos + f → pos ≤ s.size → (∀ a, st = some a → a ≤ pos) →
    (Lib.closeSpans s (Lib.spansFromP pr s f pos st acc)).map (cut s) = (((B s).drop pos).foldl fstep (st8 s pos st acc)).1 := by
  intro f
  induction f with
  | zero =>
    intro pos st acc h1 h2 h3
    have : pos = s.size := by omega
    subst this
    rw [← B_len, List.drop_length, B_len]
    cases st <;> simp [Lib.spansFromP, Lib.closeSpans, st8]
  | succ f ih =>
    intro pos st acc h1 h2 h3
    by_cases hlt : pos < s.size
    · obtain ⟨d1, d2, d3⟩ := dec_step s pos hlt
      unfold Lib.spansFromP
      rw [if_pos hlt]
      obtain ⟨w, hw⟩ : ∃ w, (Utf8.decode s pos).2 = w := ⟨_, rfl⟩
      rw [hw] at d1 d2 d3 ⊢
      rcases d3 with ⟨hp, rfl, hsp⟩ | ⟨hp, hns⟩
      · rw [if_pos hp]
        have hcons : (B s).drop pos = bt s pos :: (B s).drop (pos + 1) := by
          rw [List.drop_eq_getElem_cons (by rw [B_len]; exact hlt)]
          congr 1
          exact (List.getElem?_eq_some_iff.1 (B_at s pos hlt)).2
        rw [hcons, List.foldl_cons]
        cases st with
        | none =>
          simp only
          rw [ih (pos + 1) none acc (by omega) (by omega) (fun a h => by cases h)]
          have : fstep (st8 s pos none acc) (bt s pos) = st8 s (pos + 1) none acc := by simp [fstep, st8, hsp]
          rw [this]
        | some a =>
          simp only
          rw [ih (pos + 1) none (acc ++ [(a, pos)]) (by omega) (by omega) (fun a h => by cases h)]
          have : fstep (st8 s pos (some a) acc) (bt s pos) = st8 s (pos + 1) none (acc ++ [(a, pos)]) := by simp [fstep, st8, hsp]
          rw [this]
      · rw [if_neg (by rw [hp]; simp)]
        rw [drop_seg s (p := pos) (q := pos + w) (by omega) d2, List.foldl_append]
        have hX : ∀ c ∈ ((B s).take (pos + w)).drop pos, sep c = false := fun c hc => by
          obtain ⟨j, j1, j2, _, rfl⟩ := seg_mem s hc
          exact hns j j1 j2
        cases st with
        | none =>
          simp only
          rw [ih (pos + w) (some pos) acc (by omega) d2 (fun a h => by cases h; omega)]
          have e : ((B s).take (pos + w)).drop pos ≠ [] := by
            intro e
            have := congrArg List.length e
            rw [List.length_drop, List.length_take, B_len] at this
            simp at this
            omega
          obtain ⟨c, X, hcX⟩ : ∃ c X, ((B s).take (pos + w)).drop pos = c :: X := by
            cases h : ((B s).take (pos + w)).drop pos with
            | nil => exact (e h).elim
            | cons c X => exact ⟨c, X, rfl⟩
          have : (((B s).take (pos + w)).drop pos).foldl fstep (st8 s pos none acc) = st8 s (pos + w) (some pos) acc := by
            rw [hcX] at hX ⊢
            show (c :: X).foldl fstep (acc.map (cut s), false) = (acc.map (cut s) ++ [cut s (pos, pos + w)], true)
            rw [fstep_out _ c X (hX c List.mem_cons_self) (fun x hx => hX x (List.mem_cons_of_mem _ hx)), ← hcX]; rfl
          rw [this]
        | some a =>
          simp only
          have ha := h3 a rfl
          rw [ih (pos + w) (some a) acc (by omega) d2 (fun b h => by cases h; omega)]
          have : (((B s).take (pos + w)).drop pos).foldl fstep (st8 s pos (some a) acc) = st8 s (pos + w) (some a) acc := by
            show List.foldl fstep (acc.map (cut s) ++ [cut s (a, pos)], true) _ = (acc.map (cut s) ++ [cut s (a, pos + w)], true)
            rw [fstep_in _ _ _ hX, cut_more s ha (show pos ≤ pos + w from by omega)]
          rw [this]
    · have : pos = s.size := by omega
      subst this
      rw [Lib.spansFromP_end pr s _ _ _ _ hlt, ← B_len, List.drop_length, B_len]
      cases st <;> simp [Lib.closeSpans, st8]
theorem goFields_flds (s : ByteArray) : (Lib.goFieldsP pr s).map B = flds (B s) := by
  unfold Lib.goFieldsP Lib.spansOfP flds
  have h := spans_fold s s.size 0 none [] (by omega) (by omega) (fun a h => by cases h)
  rw [List.drop_zero] at h
  rw [List.map_map]
  have e : (B ∘ fun x : Nat × Nat => s.extract x.1 x.2) = cut s := by funext x; simp [cut, B_extract]
  rw [e, h]; rfl
end Go.Proofs.YtlkipdfipaipbaaDoor.Od
