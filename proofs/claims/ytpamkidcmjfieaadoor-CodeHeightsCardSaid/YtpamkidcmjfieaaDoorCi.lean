/- Code: what holds while a climber climbs. No program. -/
import Derived.Test.YtpamkidcmjfieaaDoorCg
namespace Go.Proofs.YtpamkidcmjfieaaDoor
open Go Go.RowKit Fw
set_option linter.unusedVariables false
namespace Cd
/-- A place is labelled, and so is all behind it. -/
def Cld (c : Cde) (p : Prc) (L : List Int) (j : Nat) (y : Int) : Prop := ∀ i, c.is[j]? = some i → (eff c i).1 ≤ y ∧ ∀ d x, (d, x) ∈ aft c i j y → p.fr ≤ d ∧ d < p.to ∧ 0 ≤ x ∧ x ≤ 200 ∧ L[d.toNat]? = some x
/-- While a procedure's heights are found; ex: the place that is just looked at. -/
structure Inv (c : Cde) (p : Prc) (L0 : List Int) (ex : Option Nat) (L td : List Int) : Prop where
  len : L.length = L0.length
  out : ∀ j : Nat, ¬ (p.fr ≤ j ∧ (j : Int) < p.to) → L[j]? = L0[j]?
  rch : ∀ (j : Nat) y, p.fr ≤ j → (j : Int) < p.to → L[j]? = some y → y = -1 ∨ (0 ≤ y ∧ y ≤ 200 ∧ Rch c p j y)
  cld : ∀ (j : Nat) y, p.fr ≤ j → (j : Int) < p.to → L[j]? = some y → 0 ≤ y → ex ≠ some j → (j : Int) ∈ td ∨ Cld c p L j y
  tdo : ∀ t ∈ td, p.fr ≤ t ∧ t < p.to ∧ ∃ y, L[t.toNat]? = some y ∧ 0 ≤ y
/-- What reach makes. -/
def Rea (p : Prc) (pl h : Int) (L td : List Int) (r : Bool) (L' td' : List Int) : Prop :=
  ((p.to ≤ pl ∨ 200 < h) ∧ r = false ∧ L' = L ∧ td' = td) ∨ (pl < p.to ∧ h ≤ 200 ∧ ∃ x, L[pl.toNat]? = some x ∧ ((x < 0 ∧ r = true ∧ L' = L.set pl.toNat h ∧ td' = td ++ [pl]) ∨ (0 ≤ x ∧ r = (x == h) ∧ L' = L ∧ td' = td)))
theorem Inv.rea {c : Cde} {p : Prc} {L0 : List Int} {ex : Option Nat} {L td : List Int} (I : Inv c p L0 ex L td) (hf : 0 ≤ p.fr) {pl h : Int} (hr : Rch c p pl h) (h0 : p.fr ≤ pl) (hh : 0 ≤ h) {r : Bool} {L' td' : List Int} (R : Rea p pl h L td r L' td') :
    (r = true ∧ Inv c p L0 ex L' td' ∧ L'[pl.toNat]? = some h ∧ pl < p.to ∧ h ≤ 200 ∧ ∀ (j : Nat) y, L[j]? = some y → 0 ≤ y → L'[j]? = some y) ∨ (r = false ∧ Bad c p) := by
  have e : ((pl.toNat : Nat) : Int) = pl := by omega
  rcases R with ⟨hw, rfl, rfl, rfl⟩ | ⟨q1, q2, x, hx, ⟨hx0, rfl, rfl, rfl⟩ | ⟨hx0, rfl, rfl, rfl⟩⟩
  · exact .inr ⟨rfl, pl, h, hr, hw.elim .inl (fun q => .inr (.inl q))⟩
  · have hlt : pl.toNat < L.length := (List.getElem?_eq_some_iff.1 hx).1
    have hset : (L.set pl.toNat h)[pl.toNat]? = some h := List.getElem?_set_self hlt
    have hoth : ∀ j : Nat, j ≠ pl.toNat → (L.set pl.toNat h)[j]? = L[j]? := fun j hj => List.getElem?_set_ne (fun q => hj q.symm)
    have hext : ∀ (j : Nat) y, L[j]? = some y → 0 ≤ y → (L.set pl.toNat h)[j]? = some y := fun j y hy hy0 => by
      by_cases q : j = pl.toNat
      · subst q; rw [hx] at hy; cases hy; omega
      · rw [hoth j q]; exact hy
    refine .inl ⟨rfl, ⟨by rw [List.length_set]; exact I.len, ?_, ?_, ?_, ?_⟩, hset, q1, q2, hext⟩
    · intro j hj
      rw [hoth j (fun q => hj (by subst q; omega))]
      exact I.out j hj
    · intro j y j1 j2 hy
      by_cases q : j = pl.toNat
      · subst q
        rw [hset] at hy
        cases hy
        exact .inr ⟨hh, q2, by rw [e]; exact hr⟩
      · rw [hoth j q] at hy
        exact I.rch j y j1 j2 hy
    · intro j y j1 j2 hy hy0 hne
      by_cases q : j = pl.toNat
      · subst q
        exact .inl (by rw [e]; simp)
      · rw [hoth j q] at hy
        rcases I.cld j y j1 j2 hy hy0 hne with hm | hc
        · exact .inl (List.mem_append_left _ hm)
        · refine .inr (fun i hi => ?_)
          obtain ⟨a1, a2⟩ := hc i hi
          exact ⟨a1, fun d x' hm => by
            obtain ⟨b1, b2, b3, b4, b5⟩ := a2 d x' hm
            exact ⟨b1, b2, b3, b4, hext _ _ b5 b3⟩⟩
    · intro t ht
      rcases List.mem_append.1 ht with ht | ht
      · obtain ⟨t1, t2, y, hy, hy0⟩ := I.tdo t ht
        exact ⟨t1, t2, y, hext _ _ hy hy0, hy0⟩
      · rw [List.mem_singleton] at ht
        subst ht
        exact ⟨h0, q1, h, hset, hh⟩
  · by_cases q : x = h
    · subst q
      exact .inl ⟨by simp, I, hx, q1, q2, fun j y hy _ => hy⟩
    · refine .inr ⟨by simpa using q, pl, h, hr, .inr (.inr (.inl ⟨x, ?_, q⟩))⟩
      rcases I.rch pl.toNat x (by omega) (by omega) hx with hm | ⟨_, _, hm⟩
      · omega
      · rw [e] at hm; exact hm
/-- How many places are not yet labelled. -/
def ng (L : List Int) : Nat := L.countP (fun x => decide (x < 0))
theorem Rea.ms {p : Prc} {pl h : Int} {L td : List Int} {r : Bool} {L' td' : List Int} (R : Rea p pl h L td r L' td') (hh : 0 ≤ h) : td'.length + 2 * ng L' ≤ td.length + 2 * ng L := by
  rcases R with ⟨_, _, rfl, rfl⟩ | ⟨_, _, x, hx, ⟨hx0, _, rfl, rfl⟩ | ⟨_, _, rfl, rfl⟩⟩
  · exact Nat.le_refl _
  · obtain ⟨hlt, he⟩ := List.getElem?_eq_some_iff.1 hx
    have hc : ng (L.set pl.toNat h) + 1 = ng L := by
      unfold ng
      rw [List.countP_set hlt, he]
      have h1 : (decide (x < 0)) = true := decide_eq_true hx0
      have h2 : (decide (h < 0)) = false := decide_eq_false (by omega)
      have h3 : 0 < L.countP (fun x => decide (x < 0)) := List.countP_pos_iff.2 ⟨x, List.mem_of_getElem? hx, h1⟩
      simp only [h1, h2, if_true, Bool.false_eq_true, if_false]
      omega
    rw [List.length_append]
    simp only [List.length_cons, List.length_nil]
    omega
  · exact Nat.le_refl _
/-- The climber begins. -/
theorem Inv.start {c : Cde} {p : Prc} {L0 : List Int} (hn : ∀ (j : Nat) y, p.fr ≤ j → (j : Int) < p.to → L0[j]? = some y → y = -1) : Inv c p L0 none L0 [] :=
  ⟨rfl, fun _ _ => rfl, fun j y j1 j2 hy => .inl (hn j y j1 j2 hy), fun j y j1 j2 hy hy0 => by have := hn j y j1 j2 hy; omega, fun t ht => by cases ht⟩
/-- All is done: a labelling. -/
theorem Inv.lab {c : Cde} {p : Prc} {L0 L : List Int} (I : Inv c p L0 none L []) (hf : 0 ≤ p.fr) (h1 : L[p.fr.toNat]? = some 0) : Lab c p L :=
  ⟨h1, fun j y i j1 j2 hy hy0 hi => by
    rcases I.cld j y j1 j2 hy hy0 (by simp) with hm | hc
    · cases hm
    · exact hc i hi⟩
/-- The place that was looked at is done. -/
theorem Inv.done {c : Cde} {p : Prc} {L0 L td : List Int} {j : Nat} {y : Int} (I : Inv c p L0 (some j) L td) (hy : L[j]? = some y) (hc : Cld c p L j y) : Inv c p L0 none L td :=
  ⟨I.len, I.out, I.rch, fun q x q1 q2 hx hx0 _ => by
    by_cases e : q = j
    · subst e; rw [hy] at hx; cases hx; exact .inr hc
    · exact I.cld q x q1 q2 hx hx0 (fun h => e (Option.some.inj h).symm), I.tdo⟩
/-- The last of what is to do is looked at. -/
theorem Inv.pop {c : Cde} {p : Prc} {L0 L td : List Int} {t : Int} (I : Inv c p L0 none L (td ++ [t])) : Inv c p L0 (some t.toNat) L td ∧ p.fr ≤ t ∧ t < p.to ∧ ∃ y, L[t.toNat]? = some y ∧ 0 ≤ y := by
  have ht := I.tdo t (by simp)
  refine ⟨⟨I.len, I.out, I.rch, fun q x q1 q2 hx hx0 hne => ?_, fun s hs => I.tdo s (List.mem_append_left _ hs)⟩, ht⟩
  rcases I.cld q x q1 q2 hx hx0 (by simp) with hm | hc
  · rcases List.mem_append.1 hm with hm | hm
    · exact .inl hm
    · rw [List.mem_singleton] at hm
      subst hm
      exact (hne (by simp)).elim
  · exact .inr hc
end Cd
end Go.Proofs.YtpamkidcmjfieaaDoor
