/- Code: the document's search for heights, by definition. No program. -/
import Derived.Test.YtpamkidcmjfieaaDoorCq
namespace Go.Proofs.YtpamkidcmjfieaaDoor
open Go Go.RowKit Fw
set_option linter.unusedVariables false
namespace Cd
/-- While the document looks for a procedure's heights. -/
structure Dv (c : Cde) (p : Prc) (L0 L : List Int) : Prop where
  len : L.length = L0.length
  out : ∀ j : Nat, ¬ (p.fr ≤ j ∧ (j : Int) < p.to) → L[j]? = L0[j]?
  rch : Rg c p L
  st : L[p.fr.toNat]? = some 0
/-- What is labelled stays. -/
def Grow (L L' : List Int) : Prop := ∀ (j : Nat) y, L[j]? = some y → 0 ≤ y → L'[j]? = some y
theorem Grow.refl (L : List Int) : Grow L L := fun _ _ h _ => h
theorem Grow.trans {L M N : List Int} (h : Grow L M) (k : Grow M N) : Grow L N := fun j y hy h0 => k j y (h j y hy h0) h0
theorem ng_set {L : List Int} {q : Nat} {x h : Int} (hx : L[q]? = some x) (hx0 : x < 0) (hh : 0 ≤ h) : ng (L.set q h) + 1 = ng L := by
  obtain ⟨hlt, he⟩ := List.getElem?_eq_some_iff.1 hx
  unfold ng
  rw [List.countP_set hlt, he]
  have h1 : (decide (x < 0)) = true := decide_eq_true hx0
  have h2 : (decide (h < 0)) = false := decide_eq_false (by omega)
  have h3 : 0 < L.countP (fun x => decide (x < 0)) := List.countP_pos_iff.2 ⟨x, List.mem_of_getElem? hx, h1⟩
  simp only [h1, h2, if_true, Bool.false_eq_true, if_false]
  omega
/-- Where an instruction leads lies in the procedure, or behind it. -/
theorem aft_lo {c : Cde} {p : Prc} {i : Ins} (hf : fit c p i) {j h d x : Int} (hj : p.fr ≤ j) (ht : (eff c i).1 ≤ h) (he : 0 ≤ (eff c i).1 ∧ 0 ≤ (eff c i).2) (hm : (d, x) ∈ aft c i j h) : p.fr ≤ d ∧ 0 ≤ x := by
  obtain ⟨h1, h2, _⟩ := hf
  have ha : ∀ K, (sh i.op).2.1 = K → K = 4 → p.fr ≤ i.arg := by
    intro K e e4
    subst e4
    unfold fitA at h2
    rw [e] at h2
    simp at h2
    exact h2.1
  have k22 : i.op = 22 → p.fr ≤ i.arg := fun e => ha _ rfl (by rw [e]; rfl)
  have k23 : i.op = 23 → p.fr ≤ i.arg := fun e => ha _ rfl (by rw [e]; rfl)
  have k24 : i.op = 24 → p.fr ≤ i.arg := fun e => ha _ rfl (by rw [e]; rfl)
  have k25 : i.op = 25 → p.fr ≤ i.arg := fun e => ha _ rfl (by rw [e]; rfl)
  unfold aft at hm
  split at hm
  · cases hm
  split at hm
  · rename_i e
    simp only [List.mem_singleton, Prod.mk.injEq] at hm
    have := k22 e; omega
  split at hm
  · rename_i e
    have := k23 e
    simp only [List.mem_cons, Prod.mk.injEq, List.not_mem_nil, or_false] at hm
    rcases hm with ⟨a, b⟩ | ⟨a, b⟩ <;> omega
  split at hm
  · rename_i e
    have : p.fr ≤ i.arg := e.elim k24 k25
    simp only [List.mem_cons, Prod.mk.injEq, List.not_mem_nil, or_false] at hm
    rcases hm with ⟨a, b⟩ | ⟨a, b⟩ <;> omega
  · simp only [List.mem_singleton, Prod.mk.injEq] at hm
    omega
/-- A place that is reached with a height: wrong, or already so labelled, or now labelled. -/
theorem Dv.reach {c : Cde} {p : Prc} {L0 L : List Int} (I : Dv c p L0 L) (hf : 0 ≤ p.fr) {d x : Int} (hr : Rch c p d x) (h0 : p.fr ≤ d) (hx0 : 0 ≤ x) :
    (p.to ≤ d ∨ 200 < x → Bad c p) ∧ (d < p.to → x ≤ 200 → ∀ y, L[d.toNat]? = some y → (0 ≤ y → y ≠ x → Bad c p) ∧ (y < 0 → Dv c p L0 (L.set d.toNat x) ∧ Grow L (L.set d.toNat x) ∧ (L.set d.toNat x)[d.toNat]? = some x ∧ ng (L.set d.toNat x) + 1 = ng L)) := by
  have e : ((d.toNat : Nat) : Int) = d := by omega
  refine ⟨fun h => ⟨d, x, hr, h.elim .inl (fun q => .inr (.inl q))⟩, fun q1 q2 y hy => ⟨fun hy0 hne => ⟨d, x, hr, .inr (.inr (.inl ⟨y, ?_, hne⟩))⟩, fun hy0 => ?_⟩⟩
  · rcases I.rch d.toNat y (by omega) (by omega) hy with hm | ⟨_, _, hm⟩
    · omega
    · rw [e] at hm; exact hm
  · obtain ⟨hlt, _⟩ := List.getElem?_eq_some_iff.1 hy
    have hset : (L.set d.toNat x)[d.toNat]? = some x := by rw [List.getElem?_set_self hlt]
    have hoth : ∀ j, j ≠ d.toNat → (L.set d.toNat x)[j]? = L[j]? := fun j q => List.getElem?_set_ne (Ne.symm q)
    have hgr : Grow L (L.set d.toNat x) := fun j z hz hz0 => by
      by_cases q : j = d.toNat
      · subst q; rw [hy] at hz; cases hz; omega
      · rw [hoth j q]; exact hz
    refine ⟨⟨by rw [List.length_set]; exact I.len, fun j hj => ?_, fun j z j1 j2 hz => ?_, hgr _ _ I.st (Int.le_refl _)⟩, hgr, hset, ng_set hy hy0 hx0⟩
    · rw [hoth j (fun q => hj (by subst q; omega))]
      exact I.out j hj
    · by_cases q : j = d.toNat
      · subst q
        rw [hset] at hz
        cases hz
        exact .inr ⟨hx0, q2, by rw [e]; exact hr⟩
      · rw [hoth j q] at hz
        exact I.rch j z j1 j2 hz
/-- Nothing more is to be labelled: a labelling. -/
theorem Dv.lab {c : Cde} {p : Prc} {L0 L : List Int} (I : Dv c p L0 L) (h : ∀ (j : Nat) y, p.fr ≤ j → (j : Int) < p.to → L[j]? = some y → 0 ≤ y → Cld c p L j y) : Lab c p L :=
  ⟨I.st, fun j y i j1 j2 hy hy0 hi => h j y j1 j2 hy hy0 i hi⟩
/-- Heights are one. -/
theorem Hts.one {c : Cde} {L M : List Int} (h : Hts c L) (k : Hts c M) : L = M := by
  refine List.ext_getElem? fun j => ?_
  by_cases hj : j < c.is.length
  · obtain ⟨x, hx⟩ : ∃ x, L[j]? = some x := ⟨_, List.getElem?_eq_getElem (by rw [h.len]; exact hj)⟩
    obtain ⟨y, hy⟩ : ∃ y, M[j]? = some y := ⟨_, List.getElem?_eq_getElem (by rw [k.len]; exact hj)⟩
    have hfc := h.fm.1
    -- the procedure in which the place lies
    have key : ∀ n, n ≤ c.ps.length → (j : Int) < cum c.ps n → ∃ p ∈ c.ps, p.fr ≤ j ∧ (j : Int) < p.to := by
      intro n
      induction n with
      | zero => intro _ h; simp only [cum] at h; omega
      | succ n ih =>
        intro hn hlt
        obtain ⟨p, hp⟩ : ∃ p, c.ps[n]? = some p := ⟨_, List.getElem?_eq_getElem (by omega)⟩
        rw [cum_succ hp] at hlt
        by_cases q : (j : Int) < cum c.ps n
        · exact ih (by omega) q
        · exact ⟨p, List.mem_of_getElem? hp, by have := (hfc n p hp).1; omega, hlt⟩
    obtain ⟨p, hp, p1, p2⟩ := key c.ps.length (Nat.le_refl _) (by rw [h.fm.2.2.2]; omega)
    obtain ⟨f1, f2, f3⟩ := form_at h.fm hp
    have := Lab.one (h.lab p hp) (k.lab p hp) f1 f2 f3 (fun q z q1 q2 hz => (h.rg p hp q z q1 q2 hz).imp id (fun t => t.2.2)) (fun q z q1 q2 hz => (k.rg p hp q z q1 q2 hz).imp id (fun t => t.2.2)) j p1 p2 x y hx hy
    rw [hx, hy, this]
  · rw [List.getElem?_eq_none (by rw [h.len]; omega), List.getElem?_eq_none (by rw [k.len]; omega)]
/-- A place lies in a procedure. -/
theorem form_in {c : Cde} (h : form c) {j : Nat} (hj : j < c.is.length) : ∃ p ∈ c.ps, p.fr ≤ j ∧ (j : Int) < p.to := by
  have hfc := h.1
  have key : ∀ n, n ≤ c.ps.length → (j : Int) < cum c.ps n → ∃ p ∈ c.ps, p.fr ≤ j ∧ (j : Int) < p.to := by
    intro n
    induction n with
    | zero => intro _ h; simp only [cum] at h; omega
    | succ n ih =>
      intro hn hlt
      obtain ⟨p, hp⟩ : ∃ p, c.ps[n]? = some p := ⟨_, List.getElem?_eq_getElem (by omega)⟩
      rw [cum_succ hp] at hlt
      by_cases q : (j : Int) < cum c.ps n
      · exact ih (by omega) q
      · exact ⟨p, List.mem_of_getElem? hp, by have := (hfc n p hp).1; omega, hlt⟩
  exact key c.ps.length (Nat.le_refl _) (by rw [h.2.2.2]; omega)
end Cd
end Go.Proofs.YtpamkidcmjfieaaDoor
