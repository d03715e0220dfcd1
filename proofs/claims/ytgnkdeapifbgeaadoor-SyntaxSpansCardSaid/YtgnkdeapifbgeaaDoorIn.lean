/- Programs of tokens: each expression's parts are ahead of it, within its span, in order. No program. -/
import Derived.Test.YtgnkdeapifbgeaaDoorHk
namespace Go.Proofs.YtgnkdeapifbgeaaDoor.Sy
open Go
set_option linter.unusedVariables false
/-- Where a token begins, and ends. -/
def hI (E : Env) (i : Nat) : Int := match E.T[i]? with | some t => t.2.1 | none => 0
def eI (E : Env) (i : Nat) : Int := match E.T[i]? with | some t => t.2.2 | none => 0
theorem hr_I (E : Env) (s : PS) : hr E s = hI E s.i := rfl
theorem pe_I (E : Env) (s : PS) : pe E s = eI E (s.i - 1) := rfl
/-- Tokens stand one behind the other. -/
structure Mono (E : Env) (N : Nat) : Prop where
  W : E.W.length = N
  T : E.T.length = N
  le : ∀ i, i < N → hI E i ≤ eI E i
  nx : ∀ i, i + 1 < N → eI E i ≤ hI E (i + 1)
section
variable {E : Env} {N : Nat}
theorem Mono.hh (M : Mono E N) {i : Nat} : ∀ j, i ≤ j → j < N → hI E i ≤ hI E j := by
  intro j
  induction j with
  | zero => intro h _; rw [show i = 0 by omega]; exact Int.le_refl _
  | succ j ih =>
    intro h hj
    rcases Nat.lt_or_ge j i with h1 | h1
    · rw [show i = j + 1 by omega]; exact Int.le_refl _
    · have := ih h1 (by omega); have := M.le j (by omega); have := M.nx j hj; omega
theorem Mono.he (M : Mono E N) {i j : Nat} (h : i ≤ j) (hj : j < N) : hI E i ≤ eI E j := by
  have := M.hh j h hj; have := M.le j hj; omega
theorem Mono.ee (M : Mono E N) {i j : Nat} (h : i ≤ j) (hj : j < N) : eI E i ≤ eI E j := by
  rcases Nat.lt_or_ge i j with h1 | h1
  · have := M.nx i (by omega); have := M.he (i := i + 1) (j := j) (by omega) hj; omega
  · rw [show i = j by omega]; exact Int.le_refl _
theorem Mono.eh (M : Mono E N) {i j : Nat} (h : i < j) (hj : j < N) : eI E i ≤ hI E j := by
  have := M.nx i (by omega); have := M.hh (i := i + 1) j (by omega) hj; omega
end
/-- An expression's parts. -/
def prt (x : Ex) : List Int := if x.k = 5 ∨ x.k = 8 then [x.a] else if x.k = 9 then [x.a, x.b] else if x.k = 6 then x.l else []
/-- Parts are ahead of j, within f to e, each behind the one ahead of it. -/
def Chain (ex : List Ex) (j : Nat) (f e : Int) : Int → List Int → Prop
  | _, [] => True
  | last, k :: r => ∃ (m : Nat) (y : Ex), k = (m : Int) ∧ m < j ∧ ex[m]? = some y ∧ f ≤ y.f ∧ y.e ≤ e ∧ last ≤ y.f ∧ Chain ex j f e y.e r
theorem Chain.mono {ex ex' : List Ex} {j j' : Nat} {f e e' : Int} (hx : ∀ (m : Nat) y, m < j → ex[m]? = some y → ex'[m]? = some y) (hj : j ≤ j') (he : e ≤ e') : ∀ {l : List Int} {last : Int}, Chain ex j f e last l → Chain ex' j' f e' last l := by
  intro l
  induction l with
  | nil => intro last _; trivial
  | cons k r ih =>
    rintro last ⟨m, y, rfl, h1, h2, h3, h4, h5, h6⟩
    exact ⟨m, y, rfl, by omega, hx m y h1 h2, h3, by omega, h5, ih h6⟩
theorem Chain.snoc {ex : List Ex} {j m : Nat} {f e e' : Int} {y : Ex} (hm : m < j) (hy : ex[m]? = some y) (hf : f ≤ y.f) (he : e ≤ y.f) (hee : e ≤ e') (hye : y.e ≤ e') : ∀ {l : List Int} {last : Int}, last ≤ y.f → Chain ex j f e last l → Chain ex j f e' last (l ++ [(m : Int)]) := by
  intro l
  induction l with
  | nil => intro last hl _; exact ⟨m, y, rfl, hm, hy, hf, hye, hl, trivial⟩
  | cons k r ih =>
    rintro last hl ⟨m', y', rfl, h1, h2, h3, h4, h5, h6⟩
    exact ⟨m', y', rfl, h1, h2, h3, by omega, h5, ih (by omega) h6⟩
def GdE (ex : List Ex) (j : Nat) (x : Ex) : Prop := Chain ex j x.f x.e x.f (prt x)
/-- Expressions were put, good ones. -/
structure Xs (s t : PS) : Prop where
  pre : ∃ n, t.ex = s.ex ++ n
  gd : ∀ j x, s.ex.length ≤ j → t.ex[j]? = some x → GdE t.ex j x
theorem pre_get {s t : PS} (h : ∃ n, t.ex = s.ex ++ n) {m : Nat} {y : Ex} (hy : s.ex[m]? = some y) : t.ex[m]? = some y := by
  obtain ⟨n, e⟩ := h
  rw [e, List.getElem?_append_left (List.getElem?_eq_some_iff.1 hy).1]; exact hy
theorem Xs.refl (s : PS) : Xs s s := ⟨⟨[], by simp⟩, fun j x hj hx => by rw [List.getElem?_eq_none hj] at hx; cases hx⟩
theorem Xs.trans {s t u : PS} (h : Xs s t) (g : Xs t u) : Xs s u := by
  refine ⟨?_, fun j x hj hx => ?_⟩
  · obtain ⟨n, e⟩ := h.pre
    obtain ⟨n', e'⟩ := g.pre
    exact ⟨n ++ n', by rw [e', e, List.append_assoc]⟩
  · rcases Nat.lt_or_ge j t.ex.length with h1 | h1
    · obtain ⟨y, hy⟩ : ∃ y, t.ex[j]? = some y := ⟨_, List.getElem?_eq_getElem h1⟩
      have := pre_get g.pre hy
      rw [this] at hx
      cases hx
      exact (h.gd j _ hj hy).mono (fun m y _ hm => pre_get g.pre hm) (Nat.le_refl _) (Int.le_refl _)
    · exact g.gd j x h1 hx
/-- A state that has the same expressions. -/
theorem Xs.same {s t u : PS} (h : Xs s t) (e : u.ex = t.ex) : Xs s u := ⟨by rw [e]; exact h.pre, fun j x hj hx => by rw [e] at hx ⊢; exact h.gd j x hj hx⟩
theorem Xs.from {s t u : PS} (h : Xs s t) (e : u.ex = s.ex) : Xs u t := ⟨by rw [e]; exact h.pre, fun j x hj hx => h.gd j x (by rw [← e]; exact hj) hx⟩
/-- An expression of a state, from a place to another. -/
def At_ (t : PS) (f e : Int) (a : Int) : Prop := ∃ (m : Nat) (x : Ex), a = (m : Int) ∧ t.ex[m]? = some x ∧ f ≤ x.f ∧ x.e ≤ e
theorem At_.up {s t : PS} {f f' e e' a : Int} (h : At_ s f e a) (k : Xs s t) (hf : f' ≤ f) (he : e ≤ e') : At_ t f' e' a := by
  obtain ⟨m, x, rfl, h1, h2, h3⟩ := h
  exact ⟨m, x, rfl, pre_get k.pre h1, by omega, by omega⟩
theorem put_xs {E : Env} {fr : Int} {x : Ex} {s t : PS} {a : Int} (h : put E fr x s = .ok a t) (hg : Chain s.ex s.ex.length fr (pe E s) fr (prt { x with f := fr, e := pe E s })) : Xs s t ∧ At_ t fr (pe E s) a ∧ t.i = s.i := by
  cases h
  refine ⟨⟨⟨_, rfl⟩, fun j y hj hy => ?_⟩, ⟨s.ex.length, { x with f := fr, e := pe E s }, rfl, by simp, Int.le_refl _, Int.le_refl _⟩, rfl⟩
  simp only at hy ⊢
  rw [List.getElem?_append_right hj] at hy
  have hj0 : j = s.ex.length := by
    rcases Nat.lt_or_ge s.ex.length j with h1 | h1
    · rw [List.getElem?_eq_none (by simp; omega)] at hy; cases hy
    · omega
  subst hj0
  rw [Nat.sub_self] at hy
  cases hy
  exact hg.mono (fun m y hm hy => by rw [List.getElem?_append_left hm]; exact hy) (Nat.le_refl _) (Int.le_refl _)
structure SpX (E : Env) (N : Nat) (L : Lv) : Prop where
  row : ∀ v d s a t, L.row v d s = .ok a t → t.i ≤ N → Xs s t ∧ At_ t (hI E s.i) (eI E (t.i - 1)) a
  rows : ∀ v d fr a s b t, L.rows v d fr a s = .ok b t → t.i ≤ N → 1 ≤ s.i → At_ s fr (eI E (s.i - 1)) a → fr ≤ hI E (s.i - 1) → Xs s t ∧ At_ t fr (eI E (t.i - 1)) b
  expr : ∀ d s a t, L.expr d s = .ok a t → t.i ≤ N → Xs s t ∧ At_ t (hI E s.i) (eI E (t.i - 1)) a
  unary : ∀ d s a t, L.unary d s = .ok a t → t.i ≤ N → Xs s t ∧ At_ t (hI E s.i) (eI E (t.i - 1)) a
  prim : ∀ d s a t, L.prim d s = .ok a t → t.i ≤ N → Xs s t ∧ At_ t (hI E s.i) (eI E (t.i - 1)) a
  args : ∀ fr nm d l s a t, L.args fr nm d l s = .ok a t → t.i ≤ N → 1 ≤ s.i → fr ≤ hI E (s.i - 1) → Chain s.ex s.ex.length fr (eI E (s.i - 1)) fr l → Xs s t ∧ At_ t fr (eI E (t.i - 1)) a
section
variable {E : Env} {N : Nat} {L : Lv}
theorem adv_ex (s : PS) : (adv s).ex = s.ex := rfl
theorem want_ex {w : List Int} {s t : PS} {x : Unit} (h : want E w s = .ok x t) : t.ex = s.ex ∧ t.i = s.i + 1 ∧ t.st = s.st := by
  unfold want at h; split at h <;> cases h; exact ⟨rfl, rfl, rfl⟩
theorem knd_ex {k : Int} {s t : PS} {x : List Int} (h : knd E k s = .ok x t) : t.ex = s.ex ∧ t.i = s.i + 1 ∧ t.st = s.st := by
  unfold knd at h; split at h <;> cases h; exact ⟨rfl, rfl, rfl⟩
theorem one_chain {s : PS} {f e : Int} {a : Int} (h : At_ s f e a) : Chain s.ex s.ex.length f e f [a] := by
  obtain ⟨m, x, rfl, h1, h2, h3⟩ := h
  exact ⟨m, x, rfl, (List.getElem?_eq_some_iff.1 h1).1, h1, h2, h3, h2, trivial⟩
theorem call_xs (M : Mono E N) (hB : Bd L) (hL : SpX E N L) {fr : Int} {nm : List Int} {d : Int} {s t : PS} {a : Int} (h : call E L fr nm d s = .ok a t) (ht : t.i ≤ N) (hf : fr ≤ hI E s.i) : Xs s t ∧ At_ t fr (eI E (t.i - 1)) a := by
  obtain ⟨_, s1, h1, h2⟩ := bind_inv h
  obtain ⟨e1, e2, _⟩ := want_ex h1
  obtain ⟨k, r⟩ := hL.args _ _ _ _ _ _ _ h2 ht (by omega) (by rw [e2]; exact hf) trivial
  exact ⟨k.from e1.symm, r⟩
theorem spx_step (M : Mono E N) (hB : Bd L) (hS : Fst N L) (hL : SpX E N L) : SpX E N (stepL E L) := by
  have hB' := bd_step (E := E) hB
  constructor
  · intro v d s a t h ht
    have h : sRow E L v d s = .ok a t := h
    unfold sRow at h
    split at h
    · exact hL.unary _ _ _ _ h ht
    · obtain ⟨b, s1, h1, h2⟩ := bind_inv h
      have u1 := (hB.row _ _ _ _ _ h1).1
      have u2 := (hB.rows _ _ _ _ _ _ _ h2).1
      obtain ⟨k1, r1⟩ := hL.row _ _ _ _ _ h1 (by omega)
      have hs := hS.row _ _ _ _ _ h1
      obtain ⟨k2, r2⟩ := hL.rows _ _ _ _ _ _ _ h2 ht (by omega) r1 (M.hh (s1.i - 1) (by omega) (by omega))
      exact ⟨k1.trans k2, r2⟩
  · intro v d fr a s b t h ht h1 ha hf
    have u0 := (hB'.rows v d fr a s b t h).1
    have h : sRows E L v d fr a s = .ok b t := h
    unfold sRows at h
    split at h
    · obtain ⟨c, s1, e1, e2⟩ := bind_inv h
      obtain ⟨p, s2, e3, e4⟩ := bind_inv e2
      have u1 := (hB.row _ _ _ _ _ e1).1
      have ua : (adv s).i = s.i + 1 := rfl
      have hs := hS.row _ _ _ _ _ e1
      have hs2 : s2.i = s1.i := by cases e3; rfl
      have hle : s1.i ≤ t.i := by
        split at e4
        · cases e4; omega
        · have := (hB.rows _ _ _ _ _ _ _ e4).1; omega
      obtain ⟨k1, r1⟩ := hL.row _ _ _ _ _ e1 (by omega)
      have k1 : Xs s s1 := k1.from rfl
      have g1 := M.eh (i := s.i - 1) (j := s.i + 1) (by omega) (by omega)
      have g2 := M.hh (i := s.i - 1) (s.i + 1) (by omega) (by omega)
      have g3 := M.ee (i := s.i - 1) (j := s1.i - 1) (by omega) (by omega)
      have ha1 := ha.up k1 (Int.le_refl _) g3
      have hch : Chain s1.ex s1.ex.length fr (pe E s1) fr (prt { ({ k := 9, op := wd E s, a := a, b := c } : Ex) with f := fr, e := pe E s1 }) := by
        obtain ⟨m, x, rfl, x1, x2, x3⟩ := ha.up k1 (Int.le_refl _) (Int.le_refl _)
        obtain ⟨m', x', rfl, y1, y2, y3⟩ := r1
        rw [ua] at y2
        refine ⟨m, x, rfl, (List.getElem?_eq_some_iff.1 x1).1, x1, x2, by rw [pe_I]; omega, x2, m', x', rfl, (List.getElem?_eq_some_iff.1 y1).1, y1, by omega, y3, by omega, trivial⟩
      obtain ⟨k3, r3, _⟩ := put_xs e3 hch
      split at e4
      · cases e4
        refine ⟨k1.trans k3, ?_⟩
        rw [hs2]
        exact r3
      · obtain ⟨k4, r4⟩ := hL.rows _ _ _ _ _ _ _ e4 ht (by omega) (by rw [hs2]; exact r3) (by
          rw [hs2]
          have := M.hh (i := s.i - 1) (s1.i - 1) (by omega) (by omega)
          omega)
        exact ⟨(k1.trans k3).trans k4, r4⟩
    · cases h
      exact ⟨Xs.refl _, ha⟩
  · intro d s a t h ht
    obtain ⟨_, s1, h1, h2⟩ := bind_inv (show sExpr E L d s = .ok a t from h)
    have e := deep_up h1
    subst e
    exact hL.row _ _ _ _ _ h2 ht
  · intro d s a t h ht
    have h : sUnary E L d s = .ok a t := h
    unfold sUnary at h
    split at h
    · obtain ⟨_, s1, e1, e2⟩ := bind_inv h
      have e1' := deep_up e1
      subst e1'
      obtain ⟨b, s2, e3, e4⟩ := bind_inv e2
      have u1 := (hB.unary _ _ _ _ e3).1
      have ua : (adv s).i = s.i + 1 := rfl
      have hti : t.i = s2.i := by cases e4; rfl
      have hs := hS.unary _ _ _ _ e3
      obtain ⟨k1, r1⟩ := hL.unary _ _ _ _ e3 (by omega)
      have g1 := M.hh (i := s.i) (s.i + 1) (by omega) (by omega)
      obtain ⟨k2, r2, _⟩ := put_xs e4 (one_chain (r1.up (Xs.refl _) (by rw [hr_I, ua]; exact g1) (Int.le_refl _)))
      refine ⟨(k1.from (adv_ex s).symm).trans k2, ?_⟩
      rw [hti]
      exact r2
    · exact hL.prim _ _ _ _ h ht
  · intro d s a t h ht
    have u0 := (hB'.prim d s a t h).1
    have h : sPrim E L d s = .ok a t := h
    unfold sPrim at h
    have leaf : ∀ (x : Ex), prt { x with f := hr E s, e := pe E (adv s) } = [] → put E (hr E s) x (adv s) = .ok a t → Xs s t ∧ At_ t (hI E s.i) (eI E (t.i - 1)) a := fun x hx hp => by
      obtain ⟨k, r, e⟩ := put_xs hp (by rw [hx]; trivial)
      exact ⟨k.from (adv_ex s).symm, by rw [e]; exact r⟩
    split at h
    · exact leaf _ rfl h
    split at h
    · exact leaf _ rfl h
    split at h
    · exact leaf _ rfl h
    split at h
    · exact leaf _ rfl h
    split at h
    · obtain ⟨b, s1, e1, e2⟩ := bind_inv h
      obtain ⟨_, s2, e3, e4⟩ := bind_inv e2
      cases e4
      obtain ⟨w1, w2, _⟩ := want_ex e3
      have ua : (adv s).i = s.i + 1 := rfl
      have hs := hS.expr _ _ _ _ e1
      have u1 := (hB.expr _ _ _ _ e1).1
      obtain ⟨k1, r1⟩ := hL.expr _ _ _ _ e1 (by omega)
      have g1 := M.hh (i := s.i) (s.i + 1) (by omega) (by omega)
      have g2 := M.ee (i := s1.i - 1) (j := t.i - 1) (by omega) (by omega)
      have k2 : Xs s t := (k1.from (adv_ex s).symm).same w1
      obtain ⟨m, x, rfl, x1, x2, x3⟩ := r1
      rw [ua] at x2
      exact ⟨k2, m, x, rfl, by rw [w1]; exact x1, by omega, by omega⟩
    · obtain ⟨nm, s1, e1, e2⟩ := bind_inv h
      obtain ⟨w1, w2, _⟩ := knd_ex e1
      split at e2
      · obtain ⟨b, s2, e3, e4⟩ := bind_inv e2
        obtain ⟨_, s3, e5, e6⟩ := bind_inv e4
        obtain ⟨v1, v2, _⟩ := want_ex e5
        have hti : t.i = s3.i := by cases e6; rfl
        have ua : (adv s1).i = s1.i + 1 := rfl
        have hs := hS.expr _ _ _ _ e3
        have u1 := (hB.expr _ _ _ _ e3).1
        obtain ⟨k1, r1⟩ := hL.expr _ _ _ _ e3 (by omega)
        have g1 := M.hh (i := s.i) (s1.i + 1) (by omega) (by omega)
        have g2 := M.ee (i := s2.i - 1) (j := s3.i - 1) (by omega) (by omega)
        have k2 : Xs s s3 := (k1.from (show s.ex = (adv s1).ex by rw [adv_ex, w1])).same v1
        have r2 : At_ s3 (hr E s) (pe E s3) b := by
          obtain ⟨m, x, rfl, x1, x2, x3⟩ := r1
          rw [ua] at x2
          exact ⟨m, x, rfl, by rw [v1]; exact x1, by rw [hr_I]; omega, by rw [pe_I]; omega⟩
        obtain ⟨k3, r3, _⟩ := put_xs e6 (one_chain r2)
        refine ⟨k2.trans k3, ?_⟩
        rw [hti]
        exact r3
      split at e2
      · have hle : s1.i ≤ t.i := by have := (call_up hB e2).1; omega
        have hs1 : s1.i < N := by
          obtain ⟨_, s2, e3, e4⟩ := bind_inv e2
          exact want_lt M.W (by decide) e3
        obtain ⟨k1, r1⟩ := call_xs M hB hL e2 ht (by rw [hr_I]; exact M.hh s1.i (by omega) hs1)
        exact ⟨k1.from w1.symm, r1⟩
      · obtain ⟨k, r, e⟩ := put_xs e2 (show Chain _ _ _ _ _ [] from trivial)
        exact ⟨k.from w1.symm, by rw [e]; exact r⟩
  · intro fr nm d l s a t h ht h1 hf hc
    have u0 := (hB'.args fr nm d l s a t h).1
    have h : sArgs E L fr nm d l s = .ok a t := h
    unfold sArgs at h
    split at h
    · have hti : t.i = (adv s).i := by cases h; rfl
      have ua : (adv s).i = s.i + 1 := rfl
      have g := M.ee (i := s.i - 1) (j := s.i) (by omega) (by omega)
      obtain ⟨k, r, _⟩ := put_xs h (show Chain (adv s).ex (adv s).ex.length fr (pe E (adv s)) fr l from hc.mono (fun m y _ hy => hy) (Nat.le_refl _) (by rw [pe_I]; exact g))
      exact ⟨k.from (adv_ex s).symm, by rw [hti]; exact r⟩
    · obtain ⟨_, s1, e1, e2⟩ := bind_inv h
      obtain ⟨b, s2, e3, e4⟩ := bind_inv e2
      have hs1 : s1.ex = s.ex ∧ s.i ≤ s1.i := by
        split at e1
        · cases e1; exact ⟨rfl, Nat.le_refl _⟩
        · obtain ⟨a1, a2, _⟩ := want_ex e1; exact ⟨a1, by omega⟩
      have u1 := (hB.expr _ _ _ _ e3).1
      split at e4
      · have u2 := (hB.args _ _ _ _ _ _ _ e4).1
        have hs := hS.expr _ _ _ _ e3
        obtain ⟨k1, r1⟩ := hL.expr _ _ _ _ e3 (by omega)
        have k1 : Xs s s2 := k1.from hs1.1.symm
        have g1 := M.eh (i := s.i - 1) (j := s1.i) (by omega) (by omega)
        have g2 := M.hh (i := s.i - 1) s1.i (by omega) (by omega)
        have g3 := M.ee (i := s.i - 1) (j := s2.i - 1) (by omega) (by omega)
        obtain ⟨m, x, rfl, x1, x2, x3⟩ := r1
        have hc2 : Chain s2.ex s2.ex.length fr (eI E (s2.i - 1)) fr (l ++ [(m : Int)]) := by
          have hlen : s.ex.length ≤ s2.ex.length := by obtain ⟨n, e⟩ := k1.pre; rw [e]; simp
          exact (hc.mono (fun m y _ hy => pre_get k1.pre hy) hlen (Int.le_refl _)).snoc (List.getElem?_eq_some_iff.1 x1).1 x1 (by omega) (by omega) g3 x3 (by omega)
        obtain ⟨k2, r2⟩ := hL.args _ _ _ _ _ _ _ e4 ht (by omega) (by have := M.hh (i := s.i - 1) (s2.i - 1) (by omega) (by omega); omega) hc2
        exact ⟨k1.trans k2, r2⟩
      · cases e4
end
theorem spx_lv {E : Env} {N : Nat} (M : Mono E N) : ∀ n, SpX E N (lv E n)
  | 0 => ⟨fun _ _ _ _ _ h => (by cases h), fun _ _ _ _ _ _ _ h => (by cases h), fun _ _ _ _ h => (by cases h), fun _ _ _ _ h => (by cases h), fun _ _ _ _ h => (by cases h), fun _ _ _ _ _ _ _ h => (by cases h)⟩
  | n + 1 => spx_step M (bd_lv n) (fst_lv M.W M.T n) (spx_lv M n)
end Go.Proofs.YtgnkdeapifbgeaaDoor.Sy
