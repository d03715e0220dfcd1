/- Programs of tokens: a parse that goes alike over other tokens. No program. -/
import Derived.Test.YtgnkdeapifbgeaaDoorGm
namespace Go.Proofs.YtgnkdeapifbgeaaDoor.Sy
open Go
set_option linter.unusedVariables false
/-- Tokens of one text stand in another one: m tokens, o bytes on; xo, so, fo: how much was put before; ex: nothing is other. -/
structure Mv where
  E : Env
  E' : Env
  K : Nat
  m : Nat
  o : Int
  xo : Nat
  so : Nat
  fo : Nat
  ex : Prop
structure Mv.Ok (M : Mv) : Prop where
  T : ∀ i t, i < M.K → M.E.T[i]? = some t → M.E'.T[i + M.m]? = some (t.1, t.2.1 + M.o, t.2.2 + M.o)
  W : ∀ i x, i < M.K → M.E.W[i]? = some x → M.E'.W[i + M.m]? = some x
  KT : M.K ≤ M.E.T.length
  KW : M.K ≤ M.E.W.length
  ex : M.ex → M.o = 0
def Mv.St (M : Mv) (x x' : St) : Prop := x'.k = x.k ∧ (M.ex → x' = x)
structure Mv.S (M : Mv) (s s' : PS) : Prop where
  i : s'.i = s.i + M.m
  x : s'.ex.length = s.ex.length + M.xo
  st : s'.st.length = s.st.length + M.so
  ss : ∀ j x, s.st[j]? = some x → ∃ y, s'.st[j + M.so]? = some y ∧ y.k = x.k ∧ y.f = x.f + M.o ∧ y.e = x.e + M.o
  fn : s'.fn.length = s.fn.length + M.fo
  eq : M.ex → s' = s
/-- A result that goes alike. -/
def Mv.R (M : Mv) {α : Type} (V : α → α → Prop) (a : α) (t : PS) (r : Rs α) : Prop := ∃ a' t', r = .ok a' t' ∧ V a a' ∧ M.S t t'
def Mv.I (M : Mv) (a a' : Int) : Prop := M.ex → a' = a
def Mv.L {α : Type} (M : Mv) (l l' : List α) : Prop := l'.length = l.length ∧ (M.ex → l' = l)
def Mv.U (M : Mv) (_ _ : Unit) : Prop := True
theorem Mv.R.bind {M : Mv} {α β : Type} {V : α → α → Prop} {W : β → β → Prop} {r : Rs α} {g : α → PS → Rs β} {a : α} {b : β} {t u : PS} (h : M.R V a t r) (k : ∀ a' t', V a a' → M.S t t' → M.R W b u (g a' t')) : M.R W b u (r.bind g) := by
  obtain ⟨a', t', rfl, hv, hs⟩ := h
  exact k a' t' hv hs
section
variable {M : Mv} {s s' : PS}
theorem Mv.S.kd (h : M.S s s') (ok : M.Ok) (hi : s.i < M.K) : kd M.E' s' = kd M.E s := by
  obtain ⟨t, ht⟩ : ∃ t, M.E.T[s.i]? = some t := ⟨_, List.getElem?_eq_getElem (Nat.lt_of_lt_of_le hi ok.KT)⟩
  unfold Sy.kd
  rw [h.i, ok.T _ _ hi ht, ht]
theorem Mv.S.hr (h : M.S s s') (ok : M.Ok) (hi : s.i < M.K) : hr M.E' s' = hr M.E s + M.o := by
  obtain ⟨t, ht⟩ : ∃ t, M.E.T[s.i]? = some t := ⟨_, List.getElem?_eq_getElem (Nat.lt_of_lt_of_le hi ok.KT)⟩
  unfold Sy.hr
  rw [h.i, ok.T _ _ hi ht, ht]
theorem Mv.S.wd (h : M.S s s') (ok : M.Ok) (hi : s.i < M.K) : wd M.E' s' = wd M.E s := by
  obtain ⟨x, hx⟩ : ∃ x, M.E.W[s.i]? = some x := ⟨_, List.getElem?_eq_getElem (Nat.lt_of_lt_of_le hi ok.KW)⟩
  unfold Sy.wd
  rw [h.i, ok.W _ _ hi hx, hx]
theorem Mv.S.pe (h : M.S s s') (ok : M.Ok) (h1 : 1 ≤ s.i) (hi : s.i ≤ M.K) : pe M.E' s' = pe M.E s + M.o := by
  obtain ⟨t, ht⟩ : ∃ t, M.E.T[s.i - 1]? = some t := ⟨_, List.getElem?_eq_getElem (by have := ok.KT; omega)⟩
  unfold Sy.pe
  rw [h.i, show s.i + M.m - 1 = s.i - 1 + M.m by omega, ok.T _ _ (by omega) ht, ht]
theorem Mv.S.adv (h : M.S s s') : M.S (adv s) (adv s') :=
  ⟨by show s'.i + 1 = s.i + 1 + M.m; rw [h.i]; omega, h.x, h.st, h.ss, h.fn, fun e => by rw [h.eq e]⟩
theorem Mv.R.ok {α : Type} {V : α → α → Prop} {a a' : α} (hv : V a a') (h : M.S s s') : M.R V a s (.ok a' s') := ⟨a', s', rfl, hv, h⟩
theorem want_mv (ok : M.Ok) (h : M.S s s') {w : List Int} {t : PS} {x : Unit} (e : want M.E w s = .ok x t) (hi : t.i ≤ M.K) : M.R M.U x t (want M.E' w s') := by
  have hu := (want_up e).1
  unfold want at e ⊢
  split at e
  · rename_i q
    cases e
    rw [if_pos (by rw [h.wd ok (by omega)]; exact q)]
    exact Mv.R.ok trivial h.adv
  · cases e
theorem knd_mv (ok : M.Ok) (h : M.S s s') {k : Int} {t : PS} {x : List Int} (e : knd M.E k s = .ok x t) (hi : t.i ≤ M.K) : M.R Eq x t (knd M.E' k s') := by
  have hu := (knd_up e).1
  unfold knd at e ⊢
  split at e
  · rename_i q
    cases e
    rw [if_pos (by rw [h.kd ok (by omega)]; exact q), h.wd ok (by omega)]
    exact Mv.R.ok rfl h.adv
  · cases e
theorem deep_mv (ok : M.Ok) (h : M.S s s') {d : Int} {t : PS} {x : Unit} (e : deep M.E d s = .ok x t) : M.R M.U x t (deep M.E' d s') := by
  unfold deep at e ⊢
  split at e
  · cases e
  · rename_i q
    cases e
    rw [if_neg q]
    exact Mv.R.ok trivial h
theorem put_mv (ok : M.Ok) (h : M.S s s') {fr fr' : Int} {x x' : Ex} {t : PS} {a : Int} (hx : M.ex → x' = x) (hf : fr' = fr + M.o) (e : put M.E fr x s = .ok a t) (h1 : 1 ≤ s.i) (hi : s.i ≤ M.K) : M.R M.I a t (put M.E' fr' x' s') := by
  cases e
  refine ⟨_, _, rfl, fun e => by rw [h.eq e], ?_⟩
  refine ⟨h.i, by have := h.x; simp only [List.length_append, List.length_singleton]; omega, h.st, h.ss, h.fn, fun e => ?_⟩
  rw [h.pe ok h1 hi, hf, ok.ex e, h.eq e, hx e, Int.add_zero, Int.add_zero]
theorem add_mv (ok : M.Ok) (h : M.S s s') {fr fr' : Int} {x x' : St} {t : PS} {a : Int} (hx : M.St x x') (hf : fr' = fr + M.o) (e : add M.E fr x s = .ok a t) (h1 : 1 ≤ s.i) (hi : s.i ≤ M.K) (hs : t.st.length + M.so ≤ 1000) : M.R M.I a t (add M.E' fr' x' s') := by
  unfold add at e ⊢
  split at e
  · cases e
  · rename_i q
    cases e
    simp only [List.length_append, List.length_singleton] at hs
    rw [if_neg (by rw [h.st]; omega)]
    refine ⟨_, _, rfl, fun e => by rw [h.eq e], ?_⟩
    refine ⟨h.i, h.x, by have := h.st; simp only [List.length_append, List.length_singleton]; omega, fun j y hy => ?_, h.fn, fun e => ?_⟩
    · simp only at hy ⊢
      rcases Nat.lt_or_ge j s.st.length with hj | hj
      · rw [List.getElem?_append_left hj] at hy
        obtain ⟨z, hz, r⟩ := h.ss j y hy
        exact ⟨z, by rw [List.getElem?_append_left (by rw [h.st]; omega)]; exact hz, r⟩
      · rw [List.getElem?_append_right hj] at hy
        have hj0 : j - s.st.length = 0 := by
          rcases Nat.eq_zero_or_pos (j - s.st.length) with h0 | h0
          · exact h0
          · rw [List.getElem?_eq_none (by simp; omega)] at hy; cases hy
        rw [hj0] at hy
        cases hy
        refine ⟨{ x' with f := fr', e := Sy.pe M.E' s' }, ?_, hx.1, hf, h.pe ok h1 hi⟩
        rw [List.getElem?_append_right (by rw [h.st]; omega), show j + M.so - s'.st.length = 0 by rw [h.st]; omega]
        rfl
    · rw [h.pe ok h1 hi, hf, ok.ex e, h.eq e, hx.2 e, Int.add_zero, Int.add_zero]
theorem endS_mv (ok : M.Ok) (h : M.S s s') {fr fr' : Int} {x x' : St} {t : PS} {a : Int} (hx : M.St x x') (hf : fr' = fr + M.o) (e : endS M.E fr x s = .ok a t) (hi : t.i ≤ M.K) (hs : t.st.length + M.so ≤ 1000) : M.R M.I a t (endS M.E' fr' x' s') := by
  obtain ⟨_, s1, e1, e2⟩ := bind_inv e
  have u1 := (want_up e1).1
  have u2 : t.i = s1.i := by unfold add at e2; split at e2 <;> cases e2; rfl
  refine (want_mv ok h e1 (by omega)).bind fun _ t' _ h1 => add_mv ok h1 hx hf e2 (by omega) (by omega) hs
end
structure SimL (M : Mv) (L L' : Lv) : Prop where
  row : ∀ v d s s' a t, M.S s s' → L.row v d s = .ok a t → t.i < M.K → t.st.length + M.so ≤ 1000 → M.R M.I a t (L'.row v d s')
  rows : ∀ v d fr fr' x x' s s' a t, fr' = fr + M.o → M.I x x' → M.S s s' → L.rows v d fr x s = .ok a t → t.i < M.K → t.st.length + M.so ≤ 1000 → M.R M.I a t (L'.rows v d fr' x' s')
  expr : ∀ d s s' a t, M.S s s' → L.expr d s = .ok a t → t.i < M.K → t.st.length + M.so ≤ 1000 → M.R M.I a t (L'.expr d s')
  unary : ∀ d s s' a t, M.S s s' → L.unary d s = .ok a t → t.i < M.K → t.st.length + M.so ≤ 1000 → M.R M.I a t (L'.unary d s')
  prim : ∀ d s s' a t, M.S s s' → L.prim d s = .ok a t → t.i < M.K → t.st.length + M.so ≤ 1000 → M.R M.I a t (L'.prim d s')
  args : ∀ fr fr' nm d l l' s s' a t, fr' = fr + M.o → M.L l l' → M.S s s' → L.args fr nm d l s = .ok a t → t.i < M.K → t.st.length + M.so ≤ 1000 → M.R M.I a t (L'.args fr' nm d l' s')
  stmts : ∀ d l l' s s' a t, M.L l l' → M.S s s' → L.stmts d l s = .ok a t → t.i ≤ M.K → t.st.length + M.so ≤ 1000 → M.R M.L a t (L'.stmts d l' s')
  stmt : ∀ d s s' a t, M.S s s' → L.stmt d s = .ok a t → t.i < M.K → t.st.length + M.so ≤ 1000 → M.R M.I a t (L'.stmt d s')
  branch : ∀ fr fr' d s s' a t, fr' = fr + M.o → M.S s s' → L.branch fr d s = .ok a t → t.i < M.K → t.st.length + M.so ≤ 1000 → M.R M.I a t (L'.branch fr' d s')
theorem put_i {E : Env} {fr : Int} {x : Ex} {s t : PS} {a : Int} (h : put E fr x s = .ok a t) : t.i = s.i ∧ t.st = s.st := by cases h; exact ⟨rfl, rfl⟩
theorem add_i {E : Env} {fr : Int} {x : St} {s t : PS} {a : Int} (h : add E fr x s = .ok a t) : t.i = s.i ∧ t.st.length = s.st.length + 1 := by
  unfold add at h; split at h <;> cases h; exact ⟨rfl, by simp⟩
theorem endS_i {E : Env} {fr : Int} {x : St} {s t : PS} {a : Int} (h : endS E fr x s = .ok a t) : t.i = s.i + 1 ∧ t.st.length = s.st.length + 1 := by
  obtain ⟨_, s1, e1, e2⟩ := bind_inv h
  have := add_i e2
  unfold want at e1; split at e1 <;> cases e1
  exact this
section
variable {M : Mv} {L L' : Lv}
theorem call_mv (ok : M.Ok) (hB : Bd L) (hS : SimL M L L') {fr fr' : Int} {nm : List Int} {d : Int} {s s' t : PS} {a : Int} (hf : fr' = fr + M.o) (h : M.S s s') (e : call M.E L fr nm d s = .ok a t) (hi : t.i < M.K) (hs : t.st.length + M.so ≤ 1000) :
    M.R M.I a t (call M.E' L' fr' nm d s') := by
  obtain ⟨_, s1, e1, e2⟩ := bind_inv e
  have u := hB.args _ _ _ _ _ _ _ e2
  unfold Up at u
  exact (want_mv ok h e1 (by omega)).bind fun _ t' _ h1 => hS.args _ _ _ _ _ _ _ _ _ _ hf ⟨rfl, fun _ => rfl⟩ h1 e2 hi hs
theorem block_mv (ok : M.Ok) (hB : Bd L) (hS : SimL M L L') {d : Int} {s s' t : PS} {a : List Int} (h : M.S s s') (e : block M.E L d s = .ok a t) (hi : t.i ≤ M.K) (hs : t.st.length + M.so ≤ 1000) :
    M.R M.L a t (block M.E' L' d s') := by
  have u0 := block_up hB e
  unfold Up at u0
  obtain ⟨_, s1, e1, e2⟩ := bind_inv e
  have es : s1 = s := by
    split at e1
    · exact deep_up e1
    · cases e1; rfl
  subst es
  obtain ⟨_, s2, e3, e4⟩ := bind_inv e2
  have u := hB.stmts _ _ _ _ _ e4
  unfold Up at u
  refine Mv.R.bind (V := M.U) (t := s1) (a := ()) ?_ fun _ t1 _ h1 => (want_mv ok h1 e3 (by omega)).bind fun _ t2 _ h2 => hS.stmts _ _ _ _ _ _ _ ⟨rfl, fun _ => rfl⟩ h2 e4 hi hs
  rw [h.wd ok (by omega)]
  split at e1
  · rename_i q
    rw [if_pos q]
    exact deep_mv ok h e1
  · rename_i q
    rw [if_neg q]
    exact Mv.R.ok trivial h
theorem decl_mv (ok : M.Ok) (hB : Bd L) (hS : SimL M L L') {d : Int} {s s' t : PS} {a : St} (h : M.S s s') (e : sDecl M.E L d s = .ok a t) (hi : t.i < M.K) (hs : t.st.length + M.so ≤ 1000) :
    M.R M.St a t (sDecl M.E' L' d s') := by
  obtain ⟨nm, s1, e1, e2⟩ := bind_inv e
  have u1 := knd_up e1
  unfold Up at u1
  have hle : s1.i < M.K := by
    split at e2
    · obtain ⟨_, s2, e3, e4⟩ := bind_inv e2
      obtain ⟨_, s3, e5, e6⟩ := bind_inv e4
      cases e6
      have u2 := (adv_up s1).trans ((knd_up e3).trans (want_up e5))
      unfold Up at u2; omega
    · obtain ⟨_, s2, e3, e4⟩ := bind_inv e2
      obtain ⟨_, s3, e5, e6⟩ := bind_inv e4
      cases e6
      have u2 := (want_up e3).trans (hB.expr _ _ _ _ e5)
      unfold Up at u2; omega
  refine (knd_mv ok h e1 (by omega)).bind fun nm' t1 hv h1 => ?_
  subst hv
  rw [h1.wd ok hle]
  split at e2
  · rename_i q
    rw [if_pos q]
    obtain ⟨w, s2, e3, e4⟩ := bind_inv e2
    obtain ⟨_, s3, e5, e6⟩ := bind_inv e4
    cases e6
    have u3 := want_up e5
    unfold Up at u3
    refine (knd_mv ok h1.adv e3 (by omega)).bind fun w' t2 hv h2 => ?_
    subst hv
    exact (want_mv ok h2 e5 (by omega)).bind fun _ t3 _ h3 => Mv.R.ok ⟨rfl, fun _ => rfl⟩ h3
  · rename_i q
    rw [if_neg q]
    obtain ⟨_, s2, e3, e4⟩ := bind_inv e2
    obtain ⟨_, s3, e5, e6⟩ := bind_inv e4
    cases e6
    have u3 := hB.expr _ _ _ _ e5
    unfold Up at u3
    exact (want_mv ok h1 e3 (by omega)).bind fun _ t2 _ h2 => (hS.expr _ _ _ _ _ h2 e5 hi hs).bind fun a' t3 ha h3 => Mv.R.ok ⟨rfl, fun e => by rw [ha e]⟩ h3
theorem named_mv (ok : M.Ok) (hB : Bd L) (hS : SimL M L L') {d : Int} {s s' t : PS} {a : St} (h : M.S s s') (e : sNamed M.E L d s = .ok a t) (hi : t.i < M.K) (hs : t.st.length + M.so ≤ 1000) :
    M.R M.St a t (sNamed M.E' L' d s') := by
  have u0 := sNamed_up hB e
  unfold Up at u0
  obtain ⟨nm, s1, e1, e2⟩ := bind_inv e
  have u1 := knd_up e1
  unfold Up at u1
  have hle : s1.i < M.K := by
    split at e2
    · obtain ⟨_, s2, e3, e4⟩ := bind_inv e2
      cases e4
      have u2 := call_up hB e3
      unfold Up at u2; omega
    split at e2
    · obtain ⟨_, s2, e3, e4⟩ := bind_inv e2
      obtain ⟨_, s3, e5, e6⟩ := bind_inv e4
      obtain ⟨_, s4, e7, e8⟩ := bind_inv e6
      obtain ⟨_, s5, e9, e10⟩ := bind_inv e8
      cases e10
      have u2 := (adv_up s1).trans ((hB.expr _ _ _ _ e3).trans ((want_up e5).trans ((want_up e7).trans (hB.expr _ _ _ _ e9))))
      unfold Up at u2; omega
    · obtain ⟨_, s2, e3, e4⟩ := bind_inv e2
      obtain ⟨_, s3, e5, e6⟩ := bind_inv e4
      cases e6
      have u2 := (want_up e3).trans (hB.expr _ _ _ _ e5)
      unfold Up at u2; omega
  have hh := h.hr ok (s := s) (by omega)
  refine (knd_mv ok h e1 (by omega)).bind fun nm' t1 hv h1 => ?_
  subst hv
  rw [h1.wd ok hle]
  split at e2
  · rename_i q
    rw [if_pos q]
    obtain ⟨_, s2, e3, e4⟩ := bind_inv e2
    cases e4
    exact (call_mv ok hB hS hh h1 e3 hi hs).bind fun a' t2 ha h2 => Mv.R.ok ⟨rfl, fun e => by rw [ha e]⟩ h2
  rename_i q
  rw [if_neg q]
  split at e2
  · rename_i q2
    rw [if_pos q2]
    obtain ⟨_, s2, e3, e4⟩ := bind_inv e2
    obtain ⟨_, s3, e5, e6⟩ := bind_inv e4
    obtain ⟨_, s4, e7, e8⟩ := bind_inv e6
    obtain ⟨_, s5, e9, e10⟩ := bind_inv e8
    cases e10
    have u5 := hB.expr _ _ _ _ e9
    have u4 := want_up e7
    have u3 := want_up e5
    unfold Up at u3 u4 u5
    exact (hS.expr _ _ _ _ _ h1.adv e3 (by omega) (by omega)).bind fun a' t2 ha h2 => (want_mv ok h2 e5 (by omega)).bind fun _ t3 _ h3 => (want_mv ok h3 e7 (by omega)).bind fun _ t4 _ h4 =>
      (hS.expr _ _ _ _ _ h4 e9 hi hs).bind fun b' t5 hb h5 => Mv.R.ok ⟨rfl, fun e => by rw [ha e, hb e]⟩ h5
  · rename_i q2
    rw [if_neg q2]
    obtain ⟨_, s2, e3, e4⟩ := bind_inv e2
    obtain ⟨_, s3, e5, e6⟩ := bind_inv e4
    cases e6
    have u3 := hB.expr _ _ _ _ e5
    unfold Up at u3
    exact (want_mv ok h1 e3 (by omega)).bind fun _ t2 _ h2 => (hS.expr _ _ _ _ _ h2 e5 hi hs).bind fun a' t3 ha h3 => Mv.R.ok ⟨rfl, fun e => by rw [ha e]⟩ h3
theorem sim_step (ok : M.Ok) (hB : Bd L) (hS : SimL M L L') : SimL M (stepL M.E L) (stepL M.E' L') := by
  constructor
  · intro v d s s' a t h e hi hs
    have e : sRow M.E L v d s = .ok a t := e
    show M.R M.I a t (sRow M.E' L' v d s')
    unfold sRow at e ⊢
    split at e
    · rename_i q
      rw [if_pos q]
      exact hS.unary _ _ _ _ _ h e hi hs
    · rename_i q
      rw [if_neg q]
      obtain ⟨b, s1, e1, e2⟩ := bind_inv e
      have u1 := hB.row _ _ _ _ _ e1
      have u2 := hB.rows _ _ _ _ _ _ _ e2
      unfold Up at u1 u2
      have hh := h.hr ok (s := s) (by omega)
      exact (hS.row _ _ _ _ _ _ h e1 (by omega) (by omega)).bind fun a' t1 ha h1 => hS.rows _ _ _ _ _ _ _ _ _ _ hh ha h1 e2 hi hs
  · intro v d fr fr' x x' s s' a t hf hx h e hi hs
    have e : sRows M.E L v d fr x s = .ok a t := e
    show M.R M.I a t (sRows M.E' L' v d fr' x' s')
    have u0 : s.i ≤ t.i := by
      have := (bd_step (E := M.E) hB).rows v d fr x s a t e
      unfold Up at this; omega
    unfold sRows at e ⊢
    rw [h.wd ok (by omega)]
    split at e
    · rename_i q
      rw [if_pos q]
      obtain ⟨b, s1, e1, e2⟩ := bind_inv e
      obtain ⟨c, s2, e3, e4⟩ := bind_inv e2
      have u1 := hB.row _ _ _ _ _ e1
      have p := put_i e3
      have u1' : s.i + 1 ≤ s1.i := by
        unfold Up at u1
        have : (adv s).i = s.i + 1 := rfl
        omega
      have ust := congrArg List.length p.2
      have hle : s1.i ≤ t.i ∧ s1.st.length ≤ t.st.length := by
        split at e4
        · cases e4; omega
        · have u2 := hB.rows _ _ _ _ _ _ _ e4
          unfold Up at u2
          omega
      refine (hS.row _ _ _ _ _ _ h.adv e1 (by omega) (by omega)).bind fun b' t1 hb h1 => ?_
      refine (put_mv ok h1 (fun e => by rw [hx e, hb e]) hf e3 (by omega) (by omega)).bind fun c' t2 hc h2 => ?_
      split at e4
      · rename_i q2
        rw [if_pos q2]
        cases e4
        exact Mv.R.ok hc h2
      · rename_i q2
        rw [if_neg q2]
        exact hS.rows _ _ _ _ _ _ _ _ _ _ hf hc h2 e4 hi hs
    · rename_i q
      rw [if_neg q]
      cases e
      exact Mv.R.ok hx h
  · intro d s s' a t h e hi hs
    obtain ⟨_, s1, e1, e2⟩ := bind_inv (show sExpr M.E L d s = .ok a t from e)
    exact (deep_mv ok h e1).bind fun _ t1 _ h1 => hS.row _ _ _ _ _ _ h1 e2 hi hs
  · intro d s s' a t h e hi hs
    have u0 := (bd_step (E := M.E) hB).unary d s a t e
    unfold Up at u0
    have e : sUnary M.E L d s = .ok a t := e
    show M.R M.I a t (sUnary M.E' L' d s')
    unfold sUnary at e ⊢
    have hh := h.hr ok (s := s) (by omega)
    rw [h.wd ok (by omega)]
    split at e
    · rename_i q
      rw [if_pos q]
      obtain ⟨_, s1, e1, e2⟩ := bind_inv e
      have e1' := deep_up e1
      subst e1'
      obtain ⟨b, s2, e3, e4⟩ := bind_inv e2
      have p := put_i e4
      have u1 := hB.unary _ _ _ _ e3
      unfold Up at u1
      have ust := congrArg List.length p.2
      exact (deep_mv ok h.adv e1).bind fun _ t1 _ h1 => (hS.unary _ _ _ _ _ h1 e3 (by omega) (by omega)).bind fun b' t2 hb h2 => put_mv ok h2 (fun e => by rw [hb e]) hh e4 (by omega) (by omega)
    · rename_i q
      rw [if_neg q]
      exact hS.prim _ _ _ _ _ h e hi hs
  · intro d s s' a t h e hi hs
    have u0 := (bd_step (E := M.E) hB).prim d s a t e
    unfold Up at u0
    have e : sPrim M.E L d s = .ok a t := e
    show M.R M.I a t (sPrim M.E' L' d s')
    unfold sPrim at e ⊢
    have hh := h.hr ok (s := s) (by omega)
    have a1 : 1 ≤ (adv s).i := by show 1 ≤ s.i + 1; omega
    have a2 : (adv s).i ≤ M.K := by show s.i + 1 ≤ M.K; omega
    rw [h.wd ok (by omega), h.kd ok (by omega)]
    split at e
    · rename_i q
      rw [if_pos q]
      exact put_mv ok h.adv (fun _ => rfl) hh e a1 a2
    rename_i q1
    rw [if_neg q1]
    split at e
    · rename_i q
      rw [if_pos q]
      exact put_mv ok h.adv (fun _ => rfl) hh e a1 a2
    rename_i q2
    rw [if_neg q2]
    split at e
    · rename_i q
      rw [if_pos q]
      exact put_mv ok h.adv (fun _ => rfl) hh e a1 a2
    rename_i q3
    rw [if_neg q3]
    split at e
    · rename_i q
      rw [if_pos q]
      exact put_mv ok h.adv (fun _ => rfl) hh e a1 a2
    rename_i q4
    rw [if_neg q4]
    split at e
    · rename_i q
      rw [if_pos q]
      obtain ⟨b, s1, e1, e2⟩ := bind_inv e
      obtain ⟨_, s2, e3, e4⟩ := bind_inv e2
      cases e4
      have u1 := want_up e3
      unfold Up at u1
      exact (hS.expr _ _ _ _ _ h.adv e1 (by omega) (by omega)).bind fun b' t1 hb h1 => (want_mv ok h1 e3 (by omega)).bind fun _ t2 _ h2 => Mv.R.ok hb h2
    · rename_i q
      rw [if_neg q]
      obtain ⟨nm, s1, e1, e2⟩ := bind_inv e
      have u1 := knd_up e1
      unfold Up at u1
      have hle : s1.i < M.K := by
        split at e2
        · obtain ⟨_, s2, e3, e4⟩ := bind_inv e2
          obtain ⟨_, s3, e5, e6⟩ := bind_inv e4
          have p := put_i e6
          have u2 := (adv_up s1).trans ((hB.expr _ _ _ _ e3).trans (want_up e5))
          unfold Up at u2; omega
        split at e2
        · have u2 := call_up hB e2
          unfold Up at u2; omega
        · have p := put_i e2; omega
      refine (knd_mv ok h e1 (by omega)).bind fun nm' t1 hv h1 => ?_
      subst hv
      rw [h1.wd ok hle]
      split at e2
      · rename_i q2
        rw [if_pos q2]
        obtain ⟨b, s2, e3, e4⟩ := bind_inv e2
        obtain ⟨_, s3, e5, e6⟩ := bind_inv e4
        have p := put_i e6
        have u2 := want_up e5
        unfold Up at u2
        have ust := congrArg List.length p.2
        have u3 := hB.expr _ _ _ _ e3
        unfold Up at u3
        exact (hS.expr _ _ _ _ _ h1.adv e3 (by omega) (by omega)).bind fun b' t2 hb h2 => (want_mv ok h2 e5 (by omega)).bind fun _ t3 _ h3 => put_mv ok h3 (fun e => by rw [hb e]) hh e6 (by omega) (by omega)
      rename_i q2
      rw [if_neg q2]
      split at e2
      · rename_i q3
        rw [if_pos q3]
        exact call_mv ok hB hS hh h1 e2 hi hs
      · rename_i q3
        rw [if_neg q3]
        exact put_mv ok h1 (fun _ => rfl) hh e2 (by omega) (by omega)
  · intro fr fr' nm d l l' s s' a t hf hl h e hi hs
    have u0 := (bd_step (E := M.E) hB).args fr nm d l s a t e
    unfold Up at u0
    have e : sArgs M.E L fr nm d l s = .ok a t := e
    show M.R M.I a t (sArgs M.E' L' fr' nm d l' s')
    unfold sArgs at e ⊢
    rw [h.wd ok (by omega)]
    have hl0 : l' = [] ↔ l = [] := by rw [← List.length_eq_zero_iff, ← List.length_eq_zero_iff, hl.1]
    split at e
    · rename_i q
      rw [if_pos q]
      exact put_mv ok h.adv (fun e => by rw [hl.2 e]) hf e (by show 1 ≤ s.i + 1; omega) (by show s.i + 1 ≤ M.K; omega)
    · rename_i q
      rw [if_neg q]
      obtain ⟨_, s1, e1, e2⟩ := bind_inv e
      obtain ⟨b, s2, e3, e4⟩ := bind_inv e2
      have u1 := hB.expr _ _ _ _ e3
      unfold Up at u1
      split at e4
      · rename_i q4
        have u2 := hB.args _ _ _ _ _ _ _ e4
        unfold Up at u2
        refine Mv.R.bind (V := M.U) (t := s1) (a := ()) ?_ fun _ t1 _ h1 => (hS.expr _ _ _ _ _ h1 e3 (by omega) (by omega)).bind fun b' t2 hb h2 => ?_
        · split at e1
          · rename_i q1
            cases e1
            rw [if_pos (hl0.2 q1)]
            exact Mv.R.ok trivial h
          · rename_i q1
            rw [if_neg (fun e => q1 (hl0.1 e))]
            exact want_mv ok h e1 (by omega)
        · rw [if_pos (by rw [h2.wd ok (by omega)]; exact q4)]
          exact hS.args _ _ _ _ _ _ _ _ _ _ hf ⟨by simp [hl.1], fun e => by rw [hl.2 e, hb e]⟩ h2 e4 hi hs
      · cases e4
  · intro d l l' s s' a t hl h e hi hs
    have u0 := (bd_step (E := M.E) hB).stmts d l s a t e
    unfold Up at u0
    have e : sStmts M.E L d l s = .ok a t := e
    show M.R M.L a t (sStmts M.E' L' d l' s')
    unfold sStmts at e ⊢
    rw [h.wd ok (by omega)]
    split at e
    · rename_i q
      rw [if_pos q]
      cases e
      exact Mv.R.ok hl h.adv
    · rename_i q
      rw [if_neg q]
      obtain ⟨b, s1, e1, e2⟩ := bind_inv e
      have u1 := hB.stmts _ _ _ _ _ e2
      unfold Up at u1
      exact (hS.stmt _ _ _ _ _ h e1 (by omega) (by omega)).bind fun b' t1 hb h1 => hS.stmts _ _ _ _ _ _ _ ⟨by simp [hl.1], fun e => by rw [hl.2 e, hb e]⟩ h1 e2 hi hs
  · intro d s s' a t h e hi hs
    have u0 := (bd_step (E := M.E) hB).stmt d s a t e
    unfold Up at u0
    have e : sStmt M.E L d s = .ok a t := e
    show M.R M.I a t (sStmt M.E' L' d s')
    unfold sStmt at e ⊢
    have hh := h.hr ok (s := s) (by omega)
    rw [h.wd ok (by omega)]
    split at e
    · rename_i q
      rw [if_pos q]
      obtain ⟨x, s1, e1, e2⟩ := bind_inv e
      have p := endS_i e2
      exact (decl_mv ok hB hS h.adv e1 (by omega) (by omega)).bind fun x' t1 hx h1 => endS_mv ok h1 hx hh e2 (by omega) hs
    rename_i q1
    rw [if_neg q1]
    split at e
    · rename_i q
      rw [if_pos q]
      exact hS.branch _ _ _ _ _ _ _ hh h.adv e hi hs
    rename_i q2
    rw [if_neg q2]
    split at e
    · rename_i q
      rw [if_pos q]
      obtain ⟨x, s1, e1, e2⟩ := bind_inv e
      obtain ⟨th, s2, e3, e4⟩ := bind_inv e2
      have p := add_i e4
      have u2 := block_up hB e3
      unfold Up at u2
      exact (hS.expr _ _ _ _ _ h.adv e1 (by omega) (by omega)).bind fun x' t1 hx h1 => (block_mv ok hB hS h1 e3 (by omega) (by omega)).bind fun th' t2 ht h2 =>
        add_mv ok h2 (x := { k := 6, a := x, th := th }) ⟨rfl, fun e => by rw [hx e, ht.2 e]⟩ hh e4 (by omega) (by omega) hs
    rename_i q3
    rw [if_neg q3]
    split at e
    · rename_i q
      rw [if_pos q]
      exact endS_mv ok h.adv ⟨rfl, fun _ => rfl⟩ hh e (by omega) hs
    rename_i q4
    rw [if_neg q4]
    split at e
    · rename_i q
      rw [if_pos q]
      exact endS_mv ok h.adv ⟨rfl, fun _ => rfl⟩ hh e (by omega) hs
    rename_i q5
    rw [if_neg q5]
    split at e
    · rename_i q
      rw [if_pos q]
      have hle : (adv s).i < M.K := by
        split at e
        · have p := endS_i e; omega
        · obtain ⟨x, s1, e1, e2⟩ := bind_inv e
          have p := endS_i e2
          have u1 := hB.expr _ _ _ _ e1
          unfold Up at u1
          omega
      rw [h.adv.wd ok hle]
      split at e
      · rename_i q6
        rw [if_pos q6]
        exact endS_mv ok h.adv ⟨rfl, fun _ => rfl⟩ hh e (by omega) hs
      · rename_i q6
        rw [if_neg q6]
        obtain ⟨x, s1, e1, e2⟩ := bind_inv e
        have p := endS_i e2
        exact (hS.expr _ _ _ _ _ h.adv e1 (by omega) (by omega)).bind fun x' t1 hx h1 => endS_mv ok h1 (x := { k := 9, a := x }) ⟨rfl, fun e => by rw [hx e]⟩ hh e2 (by omega) hs
    rename_i q6
    rw [if_neg q6]
    split at e
    · rename_i q
      rw [if_pos q]
      obtain ⟨x, s1, e1, e2⟩ := bind_inv e
      have p := endS_i e2
      exact (hS.expr _ _ _ _ _ h.adv e1 (by omega) (by omega)).bind fun x' t1 hx h1 => endS_mv ok h1 (x := { k := 10, a := x }) ⟨rfl, fun e => by rw [hx e]⟩ hh e2 (by omega) hs
    · rename_i q
      rw [if_neg q]
      obtain ⟨x, s1, e1, e2⟩ := bind_inv e
      have p := endS_i e2
      exact (named_mv ok hB hS h e1 (by omega) (by omega)).bind fun x' t1 hx h1 => endS_mv ok h1 hx hh e2 (by omega) hs
  · intro fr fr' d s s' a t hf h e hi hs
    obtain ⟨x, s1, e1, e2⟩ := bind_inv (show sBranch M.E L fr d s = .ok a t from e)
    obtain ⟨th, s2, e3, e4⟩ := bind_inv e2
    have u2 := block_up hB e3
    unfold Up at u2
    have hle : s2.i < M.K ∧ s2.st.length ≤ t.st.length := by
      split at e4
      · split at e4
        · obtain ⟨_, s3, e5, e6⟩ := bind_inv e4
          have e5' := deep_up e5
          subst e5'
          obtain ⟨_, s4, e7, e8⟩ := bind_inv e6
          have p := add_i e8
          have u3 := hB.branch _ _ _ _ _ e7
          unfold Up at u3
          have : (adv (adv s2)).i = s2.i + 1 + 1 := rfl
          have : (adv (adv s2)).st.length = s2.st.length := rfl
          omega
        · obtain ⟨_, s3, e5, e6⟩ := bind_inv e4
          have p := add_i e6
          have u3 := block_up hB e5
          unfold Up at u3
          have : (adv s2).i = s2.i + 1 := rfl
          have : (adv s2).st.length = s2.st.length := rfl
          omega
      · have p := add_i e4; omega
    show M.R M.I a t (sBranch M.E' L' fr' d s')
    refine (hS.expr _ _ _ _ _ h e1 (by omega) (by omega)).bind fun x' t1 hx h1 => (block_mv ok hB hS h1 e3 (by omega) (by omega)).bind fun th' t2 ht h2 => ?_
    rw [h2.wd ok hle.1]
    split at e4
    · rename_i q
      rw [if_pos q]
      have hle2 : (adv s2).i < M.K := by
        show s2.i + 1 < M.K
        split at e4
        · obtain ⟨_, s3, e5, e6⟩ := bind_inv e4
          have e5' := deep_up e5
          subst e5'
          obtain ⟨_, s4, e7, e8⟩ := bind_inv e6
          have p := add_i e8
          have u3 := hB.branch _ _ _ _ _ e7
          unfold Up at u3
          have : (adv (adv s2)).i = s2.i + 1 + 1 := rfl
          omega
        · obtain ⟨_, s3, e5, e6⟩ := bind_inv e4
          have p := add_i e6
          have u3 := block_up hB e5
          unfold Up at u3
          have : (adv s2).i = s2.i + 1 := rfl
          omega
      rw [h2.adv.wd ok hle2]
      split at e4
      · rename_i q2
        rw [if_pos q2]
        obtain ⟨_, s3, e5, e6⟩ := bind_inv e4
        have e5' := deep_up e5
        subst e5'
        obtain ⟨y, s4, e7, e8⟩ := bind_inv e6
        have p := add_i e8
        have u3 := hB.branch _ _ _ _ _ e7
        unfold Up at u3
        have hh := h2.adv.hr ok hle2
        exact (deep_mv ok h2.adv e5).bind fun _ t3 _ h3 => (hS.branch _ _ _ _ _ _ _ hh h3.adv e7 (by omega) (by omega)).bind fun y' t4 hy h4 =>
          add_mv ok h4 (x := { k := 5, a := x, th := th, el := [y] }) ⟨rfl, fun e => by rw [hx e, ht.2 e, hy e]⟩ hf e8 (by omega) (by omega) hs
      · rename_i q2
        rw [if_neg q2]
        obtain ⟨el, s3, e5, e6⟩ := bind_inv e4
        have p := add_i e6
        have u3 := block_up hB e5
        unfold Up at u3
        exact (block_mv ok hB hS h2.adv e5 (by omega) (by omega)).bind fun el' t3 hel h3 => add_mv ok h3 (x := { k := 5, a := x, th := th, el := el }) ⟨rfl, fun e => by rw [hx e, ht.2 e, hel.2 e]⟩ hf e6 (by omega) (by omega) hs
    · rename_i q
      rw [if_neg q]
      exact add_mv ok h2 (x := { k := 5, a := x, th := th }) ⟨rfl, fun e => by rw [hx e, ht.2 e]⟩ hf e4 (by omega) (by omega) hs
end
theorem sim_lv {M : Mv} (ok : M.Ok) : ∀ n n', n ≤ n' → SimL M (lv M.E n) (lv M.E' n')
  | 0, _, _ => ⟨fun _ _ _ _ _ _ _ h => (by cases h), fun _ _ _ _ _ _ _ _ _ _ _ _ _ h => (by cases h), fun _ _ _ _ _ _ h => (by cases h), fun _ _ _ _ _ _ h => (by cases h), fun _ _ _ _ _ _ h => (by cases h), fun _ _ _ _ _ _ _ _ _ _ _ _ _ h => (by cases h), fun _ _ _ _ _ _ _ _ _ h => (by cases h), fun _ _ _ _ _ _ h => (by cases h), fun _ _ _ _ _ _ _ _ _ h => (by cases h)⟩
  | n + 1, 0, h => absurd h (by omega)
  | n + 1, n' + 1, h => sim_step ok (bd_lv n) (sim_lv ok n n' (by omega))
end Go.Proofs.YtgnkdeapifbgeaaDoor.Sy
