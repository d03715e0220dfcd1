/- Programs of tokens: each part takes tokens, and puts no more than it takes. No program. -/
import Derived.Test.YtgnkdeapifbgeaaDoorGa
namespace Go.Proofs.YtgnkdeapifbgeaaDoor.Sy
open Go
set_option linter.unusedVariables false
/-- From one state to another: j tokens are taken at least; the expressions that are put, and k more, are no more than these; so are the statements, and q more. -/
def Up (j k q : Nat) (s t : PS) : Prop := s.i + j ≤ t.i ∧ t.ex.length + s.i + k ≤ s.ex.length + t.i ∧ t.fn = s.fn ∧ s.st.length ≤ t.st.length ∧ t.st.length + s.i + q ≤ s.st.length + t.i
theorem Up.refl (s : PS) : Up 0 0 0 s s := ⟨Nat.le_refl _, Nat.le_refl _, rfl, Nat.le_refl _, Nat.le_refl _⟩
theorem Up.trans {j k q j' k' q' : Nat} {s t u : PS} (h : Up j k q s t) (g : Up j' k' q' t u) : Up (j + j') (k + k') (q + q') s u := by
  obtain ⟨h1, h2, h3, h4, h5⟩ := h
  obtain ⟨g1, g2, g3, g4, g5⟩ := g
  exact ⟨by omega, by omega, g3.trans h3, by omega, by omega⟩
theorem Up.le {j k q j' k' q' : Nat} {s t : PS} (h : Up j k q s t) (hj : j' ≤ j) (hk : k' ≤ k) (hq : q' ≤ q) : Up j' k' q' s t := ⟨by have := h.1; omega, by have := h.2.1; omega, h.2.2.1, h.2.2.2.1, by have := h.2.2.2.2; omega⟩
section
variable {E : Env}
theorem adv_up (s : PS) : Up 1 1 1 s (adv s) := ⟨Nat.le_refl _, by show s.ex.length + s.i + 1 ≤ s.ex.length + (s.i + 1); omega, rfl, Nat.le_refl _, by show s.st.length + s.i + 1 ≤ s.st.length + (s.i + 1); omega⟩
theorem want_up {w : List Int} {s t : PS} {x : Unit} (h : want E w s = .ok x t) : Up 1 1 1 s t := by
  unfold want at h
  split at h
  · cases h; exact adv_up s
  · cases h
theorem knd_up {k : Int} {s t : PS} {x : List Int} (h : knd E k s = .ok x t) : Up 1 1 1 s t := by
  unfold knd at h
  split at h
  · cases h; exact adv_up s
  · cases h
theorem deep_up {d : Int} {s t : PS} {x : Unit} (h : deep E d s = .ok x t) : t = s := by
  unfold deep at h
  split at h
  · cases h
  · cases h; rfl
theorem put_up {fr : Int} {x : Ex} {s s1 t : PS} {a : Int} {j k q : Nat} (h : put E fr x s1 = .ok a t) (u : Up j (k + 1) q s s1) : Up j k q s t := by
  unfold put at h
  cases h
  obtain ⟨u1, u2, u3, u4, u5⟩ := u
  exact ⟨u1, by simp only [List.length_append, List.length_singleton]; omega, u3, u4, u5⟩
theorem add_up {fr : Int} {x : St} {s s1 t : PS} {a : Int} {j k q : Nat} (h : add E fr x s1 = .ok a t) (u : Up j k (q + 1) s s1) : Up j k q s t := by
  unfold add at h
  split at h
  · cases h
  · cases h
    obtain ⟨u1, u2, u3, u4, u5⟩ := u
    exact ⟨u1, u2, u3, by simp only [List.length_append, List.length_singleton]; omega, by simp only [List.length_append, List.length_singleton]; omega⟩
end
structure Bd (L : Lv) : Prop where
  row : ∀ v d s a t, L.row v d s = .ok a t → Up 1 0 0 s t
  rows : ∀ v d fr a s b t, L.rows v d fr a s = .ok b t → Up 0 0 0 s t
  expr : ∀ d s a t, L.expr d s = .ok a t → Up 1 0 0 s t
  unary : ∀ d s a t, L.unary d s = .ok a t → Up 1 0 0 s t
  prim : ∀ d s a t, L.prim d s = .ok a t → Up 1 0 0 s t
  args : ∀ fr nm d l s a t, L.args fr nm d l s = .ok a t → Up 1 0 0 s t
  stmts : ∀ d l s a t, L.stmts d l s = .ok a t → Up 1 0 0 s t
  stmt : ∀ d s a t, L.stmt d s = .ok a t → Up 1 0 0 s t
  branch : ∀ fr d s a t, L.branch fr d s = .ok a t → Up 1 0 0 s t
section
variable {E : Env} {L : Lv}
theorem call_up (hB : Bd L) {fr : Int} {nm : List Int} {d : Int} {s t : PS} {a : Int} (h : call E L fr nm d s = .ok a t) : Up 1 0 0 s t := by
  obtain ⟨_, s1, h1, h2⟩ := bind_inv h
  exact ((want_up h1).trans (hB.args _ _ _ _ _ _ _ h2)).le (by omega) (by omega) (by omega)
theorem block_up (hB : Bd L) {d : Int} {s t : PS} {a : List Int} (h : block E L d s = .ok a t) : Up 2 1 1 s t := by
  obtain ⟨_, s1, h1, h2⟩ := bind_inv h
  have e : s1 = s := by
    split at h1
    · exact deep_up h1
    · cases h1; rfl
  subst e
  obtain ⟨_, s2, h3, h4⟩ := bind_inv h2
  exact ((want_up h3).trans (hB.stmts _ _ _ _ _ h4)).le (by omega) (by omega) (by omega)
theorem endS_up {fr : Int} {x : St} {s t : PS} {a : Int} (h : endS E fr x s = .ok a t) : Up 1 1 0 s t := by
  obtain ⟨_, s1, h1, h2⟩ := bind_inv h
  exact add_up h2 (want_up h1)
theorem sDecl_up (hB : Bd L) {d : Int} {s t : PS} {a : St} (h : sDecl E L d s = .ok a t) : Up 1 0 0 s t := by
  obtain ⟨_, s1, h1, h2⟩ := bind_inv h
  split at h2
  · obtain ⟨_, s2, h3, h4⟩ := bind_inv h2
    obtain ⟨_, s3, h5, h6⟩ := bind_inv h4
    cases h6
    exact ((((knd_up h1).trans (adv_up s1)).trans (knd_up h3)).trans (want_up h5)).le (by omega) (by omega) (by omega)
  · obtain ⟨_, s2, h3, h4⟩ := bind_inv h2
    obtain ⟨_, s3, h5, h6⟩ := bind_inv h4
    cases h6
    exact (((knd_up h1).trans (want_up h3)).trans (hB.expr _ _ _ _ h5)).le (by omega) (by omega) (by omega)
theorem sNamed_up (hB : Bd L) {d : Int} {s t : PS} {a : St} (h : sNamed E L d s = .ok a t) : Up 1 0 0 s t := by
  obtain ⟨_, s1, h1, h2⟩ := bind_inv h
  split at h2
  · obtain ⟨_, s2, h3, h4⟩ := bind_inv h2
    cases h4
    exact ((knd_up h1).trans (call_up hB h3)).le (by omega) (by omega) (by omega)
  split at h2
  · obtain ⟨_, s2, h3, h4⟩ := bind_inv h2
    obtain ⟨_, s3, h5, h6⟩ := bind_inv h4
    obtain ⟨_, s4, h7, h8⟩ := bind_inv h6
    obtain ⟨_, s5, h9, h10⟩ := bind_inv h8
    cases h10
    exact ((((((knd_up h1).trans (adv_up s1)).trans (hB.expr _ _ _ _ h3)).trans (want_up h5)).trans (want_up h7)).trans (hB.expr _ _ _ _ h9)).le (by omega) (by omega) (by omega)
  · obtain ⟨_, s2, h3, h4⟩ := bind_inv h2
    obtain ⟨_, s3, h5, h6⟩ := bind_inv h4
    cases h6
    exact (((knd_up h1).trans (want_up h3)).trans (hB.expr _ _ _ _ h5)).le (by omega) (by omega) (by omega)
end
section
variable {E : Env} {L : Lv}
theorem bd_step (hB : Bd L) : Bd (stepL E L) := by
  constructor
  · intro v d s a t h
    have h : sRow E L v d s = .ok a t := h
    unfold sRow at h
    split at h
    · exact hB.unary _ _ _ _ h
    · obtain ⟨_, s1, h1, h2⟩ := bind_inv h
      exact ((hB.row _ _ _ _ _ h1).trans (hB.rows _ _ _ _ _ _ _ h2)).le (by omega) (by omega) (by omega)
  · intro v d fr a s b t h
    have h : sRows E L v d fr a s = .ok b t := h
    unfold sRows at h
    split at h
    · obtain ⟨_, s1, h1, h2⟩ := bind_inv h
      obtain ⟨_, s2, h3, h4⟩ := bind_inv h2
      have u := put_up (j := 2) (k := 0) h3 ((adv_up s).trans (hB.row _ _ _ _ _ h1))
      split at h4
      · cases h4; exact u.le (by omega) (by omega) (by omega)
      · exact (u.trans (hB.rows _ _ _ _ _ _ _ h4)).le (by omega) (by omega) (by omega)
    · cases h; exact Up.refl _
  · intro d s a t h
    obtain ⟨_, s1, h1, h2⟩ := bind_inv (show sExpr E L d s = .ok a t from h)
    have e := deep_up h1
    subst e
    exact hB.row _ _ _ _ _ h2
  · intro d s a t h
    have h : sUnary E L d s = .ok a t := h
    unfold sUnary at h
    split at h
    · obtain ⟨_, s1, h1, h2⟩ := bind_inv h
      have e := deep_up h1
      subst e
      obtain ⟨_, s2, h3, h4⟩ := bind_inv h2
      exact (put_up (j := 2) (k := 0) h4 ((adv_up s).trans (hB.unary _ _ _ _ h3))).le (by omega) (by omega) (by omega)
    · exact hB.prim _ _ _ _ h
  · intro d s a t h
    have h : sPrim E L d s = .ok a t := h
    unfold sPrim at h
    split at h
    · exact put_up h ((adv_up s).le (by omega) (by omega) (by omega))
    split at h
    · exact put_up h ((adv_up s).le (by omega) (by omega) (by omega))
    split at h
    · exact put_up h ((adv_up s).le (by omega) (by omega) (by omega))
    split at h
    · exact put_up h ((adv_up s).le (by omega) (by omega) (by omega))
    split at h
    · obtain ⟨_, s1, h1, h2⟩ := bind_inv h
      obtain ⟨_, s2, h3, h4⟩ := bind_inv h2
      cases h4
      exact (((adv_up s).trans (hB.expr _ _ _ _ h1)).trans (want_up h3)).le (by omega) (by omega) (by omega)
    · obtain ⟨_, s1, h1, h2⟩ := bind_inv h
      split at h2
      · obtain ⟨_, s2, h3, h4⟩ := bind_inv h2
        obtain ⟨_, s3, h5, h6⟩ := bind_inv h4
        exact put_up h6 (((((knd_up h1).trans (adv_up s1)).trans (hB.expr _ _ _ _ h3)).trans (want_up h5)).le (by omega) (by omega) (by omega))
      split at h2
      · exact ((knd_up h1).trans (call_up hB h2)).le (by omega) (by omega) (by omega)
      · exact put_up h2 ((knd_up h1).le (by omega) (by omega) (by omega))
  · intro fr nm d l s a t h
    have h : sArgs E L fr nm d l s = .ok a t := h
    unfold sArgs at h
    split at h
    · exact put_up h ((adv_up s).le (by omega) (by omega) (by omega))
    · obtain ⟨_, s1, h1, h2⟩ := bind_inv h
      have u : Up 0 0 0 s s1 := by
        split at h1
        · cases h1; exact Up.refl _
        · exact (want_up h1).le (by omega) (by omega) (by omega)
      obtain ⟨_, s2, h3, h4⟩ := bind_inv h2
      split at h4
      · exact ((u.trans (hB.expr _ _ _ _ h3)).trans (hB.args _ _ _ _ _ _ _ h4)).le (by omega) (by omega) (by omega)
      · cases h4
  · intro d l s a t h
    have h : sStmts E L d l s = .ok a t := h
    unfold sStmts at h
    split at h
    · cases h; exact (adv_up s).le (by omega) (by omega) (by omega)
    · obtain ⟨_, s1, h1, h2⟩ := bind_inv h
      exact ((hB.stmt _ _ _ _ h1).trans (hB.stmts _ _ _ _ _ h2)).le (by omega) (by omega) (by omega)
  · intro d s a t h
    have h : sStmt E L d s = .ok a t := h
    unfold sStmt at h
    split at h
    · obtain ⟨_, s1, h1, h2⟩ := bind_inv h
      exact (((adv_up s).trans (sDecl_up hB h1)).trans (endS_up h2)).le (by omega) (by omega) (by omega)
    split at h
    · exact ((adv_up s).trans (hB.branch _ _ _ _ _ h)).le (by omega) (by omega) (by omega)
    split at h
    · obtain ⟨_, s1, h1, h2⟩ := bind_inv h
      obtain ⟨_, s2, h3, h4⟩ := bind_inv h2
      exact add_up h4 ((((adv_up s).trans (hB.expr _ _ _ _ h1)).trans (block_up hB h3)).le (by omega) (by omega) (by omega))
    split at h
    · exact ((adv_up s).trans (endS_up h)).le (by omega) (by omega) (by omega)
    split at h
    · exact ((adv_up s).trans (endS_up h)).le (by omega) (by omega) (by omega)
    split at h
    · split at h
      · exact ((adv_up s).trans (endS_up h)).le (by omega) (by omega) (by omega)
      · obtain ⟨_, s1, h1, h2⟩ := bind_inv h
        exact (((adv_up s).trans (hB.expr _ _ _ _ h1)).trans (endS_up h2)).le (by omega) (by omega) (by omega)
    split at h
    · obtain ⟨_, s1, h1, h2⟩ := bind_inv h
      exact (((adv_up s).trans (hB.expr _ _ _ _ h1)).trans (endS_up h2)).le (by omega) (by omega) (by omega)
    · obtain ⟨_, s1, h1, h2⟩ := bind_inv h
      exact ((sNamed_up hB h1).trans (endS_up h2)).le (by omega) (by omega) (by omega)
  · intro fr d s a t h
    obtain ⟨_, s1, h1, h2⟩ := bind_inv (show sBranch E L fr d s = .ok a t from h)
    obtain ⟨_, s2, h3, h4⟩ := bind_inv h2
    have u := (hB.expr _ _ _ _ h1).trans (block_up hB h3)
    split at h4
    · split at h4
      · obtain ⟨_, s3, h5, h6⟩ := bind_inv h4
        have e := deep_up h5
        subst e
        obtain ⟨_, s4, h7, h8⟩ := bind_inv h6
        exact add_up h8 ((((u.trans (adv_up s2)).trans (adv_up _)).trans (hB.branch _ _ _ _ _ h7)).le (by omega) (by omega) (by omega))
      · obtain ⟨_, s3, h5, h6⟩ := bind_inv h4
        exact add_up h6 (((u.trans (adv_up s2)).trans (block_up hB h5)).le (by omega) (by omega) (by omega))
    · exact add_up h4 (u.le (by omega) (by omega) (by omega))
theorem bd_lv : ∀ n, Bd (lv E n)
  | 0 => ⟨fun _ _ _ _ _ h => (by cases h), fun _ _ _ _ _ _ _ h => (by cases h), fun _ _ _ _ h => (by cases h), fun _ _ _ _ h => (by cases h), fun _ _ _ _ h => (by cases h), fun _ _ _ _ _ _ _ h => (by cases h), fun _ _ _ _ _ h => (by cases h), fun _ _ _ _ h => (by cases h), fun _ _ _ _ _ h => (by cases h)⟩
  | n + 1 => bd_step (bd_lv n)
end
end Go.Proofs.YtgnkdeapifbgeaaDoor.Sy
