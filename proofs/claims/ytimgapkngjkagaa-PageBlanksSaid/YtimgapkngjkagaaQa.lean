/- Pages: what Blank writes, in plain words. -/
import Derived.Test.YtimgapkngjkagaaQx
namespace Go.Proofs.Ytimgapkngjkagaa
open Go Go.RowKit Fw Sp Pp
set_option linter.unusedVariables false
namespace Pg
def inb (xs : List (Int × Int)) (i : Nat) : Bool := xs.any fun p => decide (p.1 ≤ i) && decide ((i : Int) < p.2)
theorem inb_iff (xs : List (Int × Int)) (i : Nat) : inb xs i = true ↔ ∃ p ∈ xs, p.1 ≤ i ∧ (i : Int) < p.2 := by
  simp [inb, List.any_eq_true]
theorem inb_perm {xs ys : List (Int × Int)} (h : ys.Perm xs) (i : Nat) : inb ys i = inb xs i := by
  rw [Bool.eq_iff_iff, inb_iff, inb_iff]
  exact ⟨fun ⟨p, hp, h2⟩ => ⟨p, h.mem_iff.1 hp, h2⟩, fun ⟨p, hp, h2⟩ => ⟨p, h.mem_iff.2 hp, h2⟩⟩
/-- A text, blanked but where f holds. -/
def bkf (T : List Int) (f : Nat → Bool) : List Int := T.mapIdx fun i c => if f i then c else bln c
theorem bkf_len (T : List Int) (f : Nat → Bool) : (bkf T f).length = T.length := by simp [bkf]
theorem bkf_get (T : List Int) (f : Nat → Bool) (i : Nat) : (bkf T f)[i]? = T[i]?.map fun c => if f i then c else bln c := by simp [bkf]
theorem bkf_congr (T : List Int) {f g : Nat → Bool} (h : ∀ i, i < T.length → f i = g i) : bkf T f = bkf T g := by
  apply List.ext_getElem?
  intro i
  rw [bkf_get, bkf_get]
  cases hT : T[i]? with
  | none => rfl
  | some c => rw [Option.map_some, Option.map_some, h i (List.getElem?_eq_some_iff.1 hT).1]
theorem bln_bln (c : Int) : bln (bln c) = bln c := by unfold bln; split <;> simp
theorem bkf_twice (T : List Int) (f : Nat → Bool) : bkf (bkf T f) f = bkf T f := by
  apply List.ext_getElem?
  intro i
  rw [bkf_get, bkf_get]
  cases T[i]? with
  | none => rfl
  | some c =>
    simp only [Option.map_some]
    cases f i <;> simp [bln_bln]
theorem seg_app (X : List Int) {i j k : Nat} (h : i ≤ j) (h' : j ≤ k) : (X.take j).drop i ++ (X.take k).drop j = (X.take k).drop i := by
  have e1 : (X.take j).drop i = ((X.take k).drop i).take (j - i) := by
    rw [List.take_drop, List.take_take, show min (i + (j - i)) k = j from by omega]
  have e2 : (X.take k).drop j = ((X.take k).drop i).drop (j - i) := by
    rw [List.drop_drop, show i + (j - i) = j from by omega]
  rw [e1, e2, List.take_append_drop]
theorem wr_bkf (T : List Int) : ∀ (L : List (Int × Int)) (a : Nat) (f : Nat → Bool), ch T.length a (L ++ [((T.length : Int), (T.length : Int))]) → (∀ i, a ≤ i → i < T.length → f i = inb L i) →
    wr T a (L ++ [((T.length : Int), (T.length : Int))]) = (bkf T f).drop a := by
  intro L
  induction L with
  | nil =>
    intro a f _ hf
    simp only [List.nil_append, wr, Int.toNat_natCast, List.take_length, List.drop_length, List.append_nil]
    apply List.ext_getElem?
    intro i
    rw [List.getElem?_map, List.getElem?_drop, List.getElem?_drop, bkf_get]
    cases hT : T[a + i]? with
    | none => rfl
    | some c =>
      have := (List.getElem?_eq_some_iff.1 hT).1
      simp only [Option.map_some, hf (a + i) (by omega) this]
      rfl
  | cons p r ih =>
    intro a f hc hf
    obtain ⟨h1, h2, h3, h4⟩ := hc
    have e4 : ((p.2.toNat : Nat) : Int) = p.2 := by omega
    rw [List.cons_append, wr, ih p.2.toNat f (by rw [e4]; exact h4) (fun i hi hl => by
      rw [hf i (by omega) hl, Bool.eq_iff_iff, inb_iff, inb_iff]
      constructor
      · rintro ⟨q, hq, h5, h6⟩
        rcases List.mem_cons.1 hq with rfl | hq
        · omega
        · exact ⟨q, hq, h5, h6⟩
      · rintro ⟨q, hq, h5⟩
        exact ⟨q, List.mem_cons_of_mem _ hq, h5⟩)]
    have s1 : ((T.take p.1.toNat).drop a).map bln = ((bkf T f).take p.1.toNat).drop a := by
      apply List.ext_getElem?
      intro i
      rw [List.getElem?_map, List.getElem?_drop, List.getElem?_drop, List.getElem?_take, List.getElem?_take]
      by_cases hlt : a + i < p.1.toNat
      · rw [if_pos hlt, if_pos hlt, bkf_get]
        cases hT : T[a + i]? with
        | none => rfl
        | some c =>
          have hl := (List.getElem?_eq_some_iff.1 hT).1
          simp only [Option.map_some, hf (a + i) (by omega) hl]
          have : inb (p :: r) (a + i) = false := by
            rw [Bool.eq_false_iff]
            intro hi
            obtain ⟨q, hq, h5, h6⟩ := (inb_iff _ _).1 hi
            rcases List.mem_cons.1 hq with rfl | hq
            · omega
            · have key : ∀ (r : List (Int × Int)) (b : Int) q, ch T.length b (r ++ [((T.length : Int), (T.length : Int))]) → q ∈ r → b ≤ q.1 := by
                intro r
                induction r with
                | nil => intro b q _ h; cases h
                | cons x r ihr =>
                  intro b q hc hq
                  obtain ⟨k1, k2, k3, k4⟩ := hc
                  rcases List.mem_cons.1 hq with rfl | hq
                  · exact k1
                  · have := ihr x.2 q k4 hq; omega
              have := key r p.2 q h4 hq
              omega
          rw [this]; rfl
      · rw [if_neg hlt, if_neg hlt]; rfl
    have s2 : (T.take p.2.toNat).drop p.1.toNat = ((bkf T f).take p.2.toNat).drop p.1.toNat := by
      apply List.ext_getElem?
      intro i
      rw [List.getElem?_drop, List.getElem?_drop, List.getElem?_take, List.getElem?_take]
      by_cases hlt : p.1.toNat + i < p.2.toNat
      · rw [if_pos hlt, if_pos hlt, bkf_get]
        cases hT : T[p.1.toNat + i]? with
        | none => rfl
        | some c =>
          have hl := (List.getElem?_eq_some_iff.1 hT).1
          simp only [Option.map_some, hf (p.1.toNat + i) (by omega) hl]
          have : inb (p :: r) (p.1.toNat + i) = true := (inb_iff _ _).2 ⟨p, List.mem_cons_self, by omega, by omega⟩
          rw [this]; rfl
      · rw [if_neg hlt, if_neg hlt]
    have hb := bkf_len T f
    rw [s1, s2, seg_app _ (by omega) (by omega)]
    have e5 : (bkf T f).drop p.2.toNat = ((bkf T f).take T.length).drop p.2.toNat := by rw [← hb, List.take_length]
    rw [e5, seg_app _ (by omega) (by omega), ← hb, List.take_length]
/-- Spans that lie apart, in order, in a text. -/
def apart (n : Int) (xs : List (Int × Int)) : Prop := xs.Pairwise (fun p q => p.2 < q.1) ∧ ∀ p ∈ xs, 0 ≤ p.1 ∧ p.1 < p.2 ∧ p.2 ≤ n
theorem ch_apart {n : Int} : ∀ {xs : List (Int × Int)} {a : Int}, apart n xs → (∀ p ∈ xs, a ≤ p.1) → a ≤ n → ch n a (xs ++ [(n, n)]) := by
  intro xs
  induction xs with
  | nil => intro a _ _ h; exact ⟨h, Int.le_refl _, Int.le_refl _, Int.le_refl _⟩
  | cons p r ih =>
    rintro a ⟨hp, hr⟩ ha hn
    have h1 := hr p List.mem_cons_self
    have h2 := List.pairwise_cons.1 hp
    exact ⟨ha p List.mem_cons_self, by omega, h1.2.2, ih ⟨h2.2, fun q hq => hr q (List.mem_cons_of_mem _ hq)⟩ (fun q hq => by have := h2.1 q hq; omega) h1.2.2⟩
theorem cvl (n : Int) : ∀ (ys out : List (Int × Int)), apart n out → up ys → (∀ p ∈ ys, gs p n) → (∀ p ∈ out, ∀ s, ys[0]? = some s → p.1 ≤ s.1) →
    apart n (ys.foldl cstep out) ∧ ∀ i, inb (ys.foldl cstep out) i = (inb out i || inb ys i) := by
  intro ys
  induction ys with
  | nil => intro out ho _ _ _; exact ⟨ho, fun i => by simp [inb]⟩
  | cons s ys ih =>
    intro out ho hu hg hh
    have hs := hg s List.mem_cons_self
    obtain ⟨g1, g2, g3⟩ := hs
    have hu' : up ys := fun j p q hp hq => hu (j + 1) p q (by simpa using hp) (by simpa using hq)
    have hsn : ∀ t, ys[0]? = some t → s.1 ≤ t.1 := fun t ht => hu 0 s t rfl (by simpa using ht)
    have step : apart n (cstep out s) ∧ (∀ p ∈ cstep out s, p.1 ≤ s.1) ∧ ∀ i, inb (cstep out s) i = (inb out i || inb [s] i) := by
      have hle : ∀ p ∈ out, p.1 ≤ s.1 := fun p hp => hh p hp s rfl
      unfold cstep
      by_cases hA : s.2 ≤ s.1
      · rw [if_pos hA]
        refine ⟨ho, hle, fun i => ?_⟩
        have : inb [s] i = false := by
          rw [Bool.eq_false_iff]
          intro hi
          obtain ⟨q, hq, h5, h6⟩ := (inb_iff _ _).1 hi
          rw [List.mem_singleton] at hq
          subst hq
          omega
        rw [this, Bool.or_false]
      · rw [if_neg hA]
        rcases List.eq_nil_or_concat out with hnil | ⟨pre, q, hpre⟩
        · subst hnil
          refine ⟨⟨by simp, ?_⟩, ?_, fun i => by simp [inb]⟩
          · intro p hp
            simp only [List.getLast?_nil, List.nil_append, List.mem_singleton] at hp
            subst hp
            omega
          · intro p hp
            simp only [List.getLast?_nil, List.nil_append, List.mem_singleton] at hp
            subst hp
            omega
        · rw [List.concat_eq_append] at hpre
          subst hpre
          simp only [List.getLast?_append, List.getLast?_singleton, Option.some_or]
          obtain ⟨hp1, hp2⟩ := ho
          have hp3 := List.pairwise_append.1 hp1
          have hq := hp2 q (by simp)
          have hqs := hle q (by simp)
          by_cases hB : s.1 ≤ q.2
          · rw [if_pos hB, List.dropLast_concat]
            refine ⟨⟨List.pairwise_append.2 ⟨hp3.1, by simp, ?_⟩, ?_⟩, ?_, fun i => ?_⟩
            · intro p hp x hx
              rw [List.mem_singleton] at hx
              subst hx
              exact hp3.2.2 p hp q (by simp)
            · intro p hp
              rcases List.mem_append.1 hp with hp | hp
              · exact hp2 p (by simp [hp])
              · rw [List.mem_singleton] at hp
                subst hp
                simp only
                omega
            · intro p hp
              rcases List.mem_append.1 hp with hp | hp
              · exact hle p (by simp [hp])
              · rw [List.mem_singleton] at hp
                subst hp
                exact hqs
            · rw [Bool.eq_iff_iff, Bool.or_eq_true, inb_iff, inb_iff, inb_iff]
              constructor
              · rintro ⟨x, hx, h5, h6⟩
                rcases List.mem_append.1 hx with hx | hx
                · exact .inl ⟨x, by simp [hx], h5, h6⟩
                · rw [List.mem_singleton] at hx
                  subst hx
                  simp only at h5 h6
                  by_cases h7 : (i : Int) < q.2
                  · exact .inl ⟨q, by simp, h5, h7⟩
                  · exact .inr ⟨s, by simp, by omega, by omega⟩
              · rintro (⟨x, hx, h5, h6⟩ | ⟨x, hx, h5, h6⟩)
                · rcases List.mem_append.1 hx with hx | hx
                  · exact ⟨x, by simp [hx], h5, h6⟩
                  · rw [List.mem_singleton] at hx
                    subst hx
                    exact ⟨(x.1, max x.2 s.2), by simp, h5, by simp only; omega⟩
                · rw [List.mem_singleton] at hx
                  subst hx
                  exact ⟨(q.1, max q.2 x.2), by simp, by simp only; omega, by simp only; omega⟩
          · rw [if_neg hB]
            refine ⟨⟨List.pairwise_append.2 ⟨hp1, by simp, ?_⟩, ?_⟩, ?_, fun i => by simp [inb, Bool.or_assoc]⟩
            · intro p hp x hx
              rw [List.mem_singleton] at hx
              subst hx
              rcases List.mem_append.1 hp with hp | hp
              · have := hp3.2.2 p hp q (by simp); omega
              · rw [List.mem_singleton] at hp
                subst hp
                omega
            · intro p hp
              rcases List.mem_append.1 hp with hp | hp
              · exact hp2 p hp
              · rw [List.mem_singleton] at hp
                subst hp
                omega
            · intro p hp
              rcases List.mem_append.1 hp with hp | hp
              · exact hle p hp
              · rw [List.mem_singleton] at hp
                subst hp
                exact Int.le_refl _
    rw [List.foldl_cons]
    have h := ih (cstep out s) step.1 hu' (fun p hp => hg p (List.mem_cons_of_mem _ hp)) (fun p hp t ht => by have := step.2.1 p hp; have := hsn t ht; omega)
    refine ⟨h.1, fun i => ?_⟩
    rw [h.2 i, step.2.2 i, Bool.or_assoc]
    simp [inb]
theorem ch_cv {n : Int} {ys : List (Int × Int)} (hn : 0 ≤ n) (hu : up ys) (hg : ∀ p ∈ ys, gs p n) : ch n 0 (cv ys ++ [(n, n)]) := by
  have h := cvl n ys [] ⟨List.Pairwise.nil, fun p hp => by cases hp⟩ hu hg (fun p hp => by cases hp)
  exact ch_apart h.1 (fun p hp => (h.1.2 p hp).1) hn
theorem wr_cv (T : List Int) {xs ys : List (Int × Int)} (hp : ys.Perm xs) (hu : up ys) (hg : ∀ p ∈ ys, gs p T.length) : wr T 0 (cv ys ++ [((T.length : Int), (T.length : Int))]) = bkf T (inb xs) := by
  have h := cvl T.length ys [] ⟨List.Pairwise.nil, fun p hp => by cases hp⟩ hu hg (fun p hp => by cases hp)
  have := wr_bkf T (cv ys) 0 (inb xs) (by exact ch_cv (by omega) hu hg) (fun i _ _ => by
    have h2 := h.2 i
    rw [show ys.foldl cstep [] = cv ys from rfl] at h2
    rw [h2, ← inb_perm hp i]; simp [inb])
  simpa using this
end Pg
end Go.Proofs.Ytimgapkngjkagaa
