/- Programs of tokens: each statement's parts are ahead of it, within its span; each statement is in just one list. No program. -/
import Derived.Test.YtgnkdeapifbgeaaDoorIn
namespace Go.Proofs.YtgnkdeapifbgeaaDoor.Tk
open Go
theorem als_rise : ∀ (ts : List T3) (f a : Nat) (L : List Int), als f a L = (ts, none) → ∀ (i : Nat) (t u : T3), ts[i]? = some t → ts[i + 1]? = some u → t.2.2 ≤ u.2.1 := by
  intro ts
  induction ts with
  | nil => intro f a L h i t u ht; simp at ht
  | cons x r ih =>
    intro f a L h i t u ht hu
    obtain ⟨h1, h2, h3⟩ := als_cons h
    rw [List.getElem?_cons_succ] at hu
    rcases h3 with ⟨_, rfl⟩ | ⟨_, g, _, h4⟩
    · simp at hu
    · cases i with
      | zero =>
        rw [List.getElem?_cons_zero] at ht
        cases ht
        have := als_bounds g _ _ u (by rw [h4]; exact List.mem_of_getElem? hu)
        rw [h2]
        exact this.1
      | succ i =>
        rw [List.getElem?_cons_succ] at ht
        exact ih _ _ _ h4 i t u ht hu
end Go.Proofs.YtgnkdeapifbgeaaDoor.Tk
namespace Go.Proofs.YtgnkdeapifbgeaaDoor.Sy
open Go
set_option linter.unusedVariables false
theorem mono_env {L : List Int} (h : Txt L) : Mono (envOf L) (Tk.allT L).1.length := by
  refine ⟨by simp [envOf], rfl, fun i hi => ?_, fun i hi => ?_⟩
  · have e : (envOf L).T[i]? = some (Tk.allT L).1[i] := List.getElem?_eq_getElem hi
    unfold hI eI
    rw [e]
    exact (Tk.als_bounds _ _ _ _ (by rw [h.als]; exact List.getElem_mem hi)).2.1
  · have e : (envOf L).T[i]? = some ((Tk.allT L).1[i]'(by omega)) := List.getElem?_eq_getElem (by show i < (Tk.allT L).1.length; omega)
    have e' : (envOf L).T[i + 1]? = some (Tk.allT L).1[i + 1] := List.getElem?_eq_getElem hi
    unfold hI eI
    rw [e, e']
    exact Tk.als_rise _ _ _ _ h.als i _ _ (List.getElem?_eq_getElem (by omega)) (List.getElem?_eq_getElem hi)
/-- Expressions leave the statements. -/
def Kst {α : Type} (l : List St) (r : Rs α) : Prop := ∀ a t, r = .ok a t → t.st = l
section
variable {E : Env} {α β : Type} {l : List St}
theorem Kst.ok {x : α} {s : PS} (h : s.st = l) : Kst l (.ok x s) := fun a t e => by cases e; exact h
theorem Kst.out : Kst l (.out : Rs α) := fun a t e => by cases e
theorem Kst.er {c : Int} {s : PS} : Kst l (Sy.er E c s : Rs α) := fun a t e => by cases e
theorem Kst.bind {r : Rs α} {g : α → PS → Rs β} (h : Kst l r) (k : ∀ x s, s.st = l → Kst l (g x s)) : Kst l (r.bind g) := by
  intro a t e
  obtain ⟨x, s, e1, e2⟩ := bind_inv e
  exact k x s (h x s e1) a t e2
theorem Kst.want {w : List Int} {s : PS} (h : s.st = l) : Kst l (want E w s) := fun a t e => by rw [(want_ex e).2.2]; exact h
theorem Kst.knd {k : Int} {s : PS} (h : s.st = l) : Kst l (knd E k s) := fun a t e => by rw [(knd_ex e).2.2]; exact h
theorem Kst.deep {d : Int} {s : PS} (h : s.st = l) : Kst l (deep E d s) := fun a t e => by rw [deep_up e]; exact h
theorem Kst.put {fr : Int} {x : Ex} {s : PS} (h : s.st = l) : Kst l (put E fr x s) := fun a t e => by cases e; exact h
end
structure KsL (L : Lv) : Prop where
  row : ∀ v d s l, s.st = l → Kst l (L.row v d s)
  rows : ∀ v d fr a s l, s.st = l → Kst l (L.rows v d fr a s)
  expr : ∀ d s l, s.st = l → Kst l (L.expr d s)
  unary : ∀ d s l, s.st = l → Kst l (L.unary d s)
  prim : ∀ d s l, s.st = l → Kst l (L.prim d s)
  args : ∀ fr nm d r s l, s.st = l → Kst l (L.args fr nm d r s)
section
variable {E : Env} {L : Lv}
theorem ks_step (h : KsL L) : KsL (stepL E L) := by
  constructor
  · intro v d s l e
    show Kst l (sRow E L v d s)
    unfold sRow
    split
    · exact h.unary _ _ _ e
    · exact Kst.bind (h.row _ _ _ _ e) fun _ _ e => h.rows _ _ _ _ _ _ e
  · intro v d fr a s l e
    show Kst l (sRows E L v d fr a s)
    unfold sRows
    split
    · refine Kst.bind (h.row _ _ _ _ e) fun _ _ e => Kst.bind (Kst.put e) fun _ _ e => ?_
      split
      · exact Kst.ok e
      · exact h.rows _ _ _ _ _ _ e
    · exact Kst.ok e
  · intro d s l e
    exact Kst.bind (Kst.deep e) fun _ _ e => h.row _ _ _ _ e
  · intro d s l e
    show Kst l (sUnary E L d s)
    unfold sUnary
    split
    · exact Kst.bind (Kst.deep e) fun _ _ e => Kst.bind (h.unary _ _ _ e) fun _ _ e => Kst.put e
    · exact h.prim _ _ _ e
  · intro d s l e
    show Kst l (sPrim E L d s)
    unfold sPrim
    split
    · exact Kst.put e
    split
    · exact Kst.put e
    split
    · exact Kst.put e
    split
    · exact Kst.put e
    split
    · exact Kst.bind (h.expr _ _ _ e) fun _ _ e => Kst.bind (Kst.want e) fun _ _ e => Kst.ok e
    · refine Kst.bind (Kst.knd e) fun _ _ e => ?_
      split
      · exact Kst.bind (h.expr _ _ _ e) fun _ _ e => Kst.bind (Kst.want e) fun _ _ e => Kst.put e
      split
      · exact Kst.bind (Kst.want e) fun _ _ e => h.args _ _ _ _ _ _ e
      · exact Kst.put e
  · intro fr nm d r s l e
    show Kst l (sArgs E L fr nm d r s)
    unfold sArgs
    split
    · exact Kst.put e
    · refine Kst.bind (?_ : Kst l _) fun _ _ e => Kst.bind (h.expr _ _ _ e) fun _ _ e => ?_
      · split
        · exact Kst.ok e
        · exact Kst.want e
      · split
        · exact h.args _ _ _ _ _ _ e
        · exact Kst.er
theorem ks_lv : ∀ n, KsL (lv E n)
  | 0 => ⟨fun _ _ _ _ _ => Kst.out, fun _ _ _ _ _ _ _ => Kst.out, fun _ _ _ _ => Kst.out, fun _ _ _ _ => Kst.out, fun _ _ _ _ => Kst.out, fun _ _ _ _ _ _ _ => Kst.out⟩
  | n + 1 => ks_step (ks_lv n)
end
/-- All that is in a statement's lists. -/
def own (st : List St) : List Int := st.flatMap fun y => y.th ++ y.el
theorem own_app (a b : List St) : own (a ++ b) = own a ++ own b := List.flatMap_append
def GdS (st : List St) (j : Nat) (x : St) : Prop := ∀ k ∈ x.th ++ x.el, ∃ (m : Nat) (y : St), k = (m : Int) ∧ m < j ∧ st[m]? = some y ∧ x.f ≤ y.f ∧ y.e ≤ x.e
/-- Statements were put, good ones; these are in no list yet. -/
structure Ss (s t : PS) (o : List Int) : Prop where
  xs : Xs s t
  pre : ∃ n, t.st = s.st ++ n
  gd : ∀ j x, s.st.length ≤ j → t.st[j]? = some x → GdS t.st j x
  cn : ∀ k : Nat, (own t.st).count (k : Int) + o.count (k : Int) = (own s.st).count (k : Int) + (if s.st.length ≤ k ∧ k < t.st.length then 1 else 0)
def Op (t : PS) (f e : Int) (o : List Int) : Prop := ∀ k ∈ o, ∃ (m : Nat) (y : St), k = (m : Int) ∧ t.st[m]? = some y ∧ f ≤ y.f ∧ y.e ≤ e
section
variable {s t u : PS} {o o' : List Int}
theorem Ss.of (h : Xs s t) (e : t.st = s.st) : Ss s t [] :=
  ⟨h, ⟨[], by rw [e]; simp⟩, fun j x hj hx => (by rw [e, List.getElem?_eq_none hj] at hx; cases hx), fun k => by rw [e, if_neg (by omega)]; simp⟩
theorem pre_st (h : ∃ n, t.st = s.st ++ n) {m : Nat} {y : St} (hy : s.st[m]? = some y) : t.st[m]? = some y := by
  obtain ⟨n, e⟩ := h
  rw [e, List.getElem?_append_left (List.getElem?_eq_some_iff.1 hy).1]; exact hy
theorem pre_le (h : ∃ n, t.st = s.st ++ n) : s.st.length ≤ t.st.length := by obtain ⟨n, e⟩ := h; rw [e]; simp
theorem Ss.trans (h : Ss s t o) (g : Ss t u o') : Ss s u (o ++ o') := by
  refine ⟨h.xs.trans g.xs, ?_, fun j x hj hx => ?_, fun k => ?_⟩
  · obtain ⟨n, e⟩ := h.pre
    obtain ⟨n', e'⟩ := g.pre
    exact ⟨n ++ n', by rw [e', e, List.append_assoc]⟩
  · rcases Nat.lt_or_ge j t.st.length with h1 | h1
    · obtain ⟨y, hy⟩ : ∃ y, t.st[j]? = some y := ⟨_, List.getElem?_eq_getElem h1⟩
      have := pre_st g.pre hy
      rw [this] at hx
      cases hx
      intro k hk
      obtain ⟨m, z, a, b, c, d⟩ := h.gd j _ hj hy k hk
      exact ⟨m, z, a, b, pre_st g.pre c, d⟩
    · exact g.gd j x h1 hx
  · have h1 := h.cn k
    have h2 := g.cn k
    have h3 := pre_le h.pre
    have h4 := pre_le g.pre
    rw [List.count_append]
    by_cases a : s.st.length ≤ k ∧ k < t.st.length
    · rw [if_pos a] at h1
      rw [if_neg (by omega)] at h2
      rw [if_pos (by omega)]
      omega
    · rw [if_neg a] at h1
      by_cases b : t.st.length ≤ k ∧ k < u.st.length
      · rw [if_pos b] at h2; rw [if_pos (by omega)]; omega
      · rw [if_neg b] at h2; rw [if_neg (by omega)]; omega
theorem Ss.nil (h : Ss s t []) (g : Ss t u o) : Ss s u o := h.trans g
theorem Ss.nil' (h : Ss s t o) (g : Ss t u []) : Ss s u o := by have := h.trans g; rwa [List.append_nil] at this
theorem Op.up {f f' e e' : Int} (h : Op s f e o) (g : ∃ n, t.st = s.st ++ n) (hf : f' ≤ f) (he : e ≤ e') : Op t f' e' o := by
  intro k hk
  obtain ⟨m, y, a, b, c, d⟩ := h k hk
  exact ⟨m, y, a, pre_st g b, by omega, by omega⟩
theorem Op.app {f e : Int} (h : Op t f e o) (g : Op t f e o') : Op t f e (o ++ o') := fun k hk => (List.mem_append.1 hk).elim (h k) (g k)
theorem add_ss {E : Env} {fr : Int} {x : St} {s1 : PS} {a : Int} (h : add E fr x s1 = .ok a t) (hs : Ss s s1 (x.th ++ x.el)) (ho : Op s1 fr (pe E s1) (x.th ++ x.el)) : Ss s t [a] ∧ Op t fr (pe E s1) [a] ∧ t.i = s1.i := by
  unfold add at h
  split at h
  · cases h
  · cases h
    have hl := pre_le hs.pre
    refine ⟨⟨hs.xs.same rfl, ?_, fun j y hj hy => ?_, fun k => ?_⟩, fun k hk => ?_, rfl⟩
    · obtain ⟨n, e⟩ := hs.pre
      exact ⟨n ++ [{ x with f := fr, e := pe E s1 }], by simp only [e, List.append_assoc]⟩
    · simp only at hy ⊢
      rcases Nat.lt_or_ge j s1.st.length with h1 | h1
      · rw [List.getElem?_append_left h1] at hy
        intro k hk
        obtain ⟨m, z, a, b, c, d⟩ := hs.gd j y hj hy k hk
        exact ⟨m, z, a, b, by rw [List.getElem?_append_left (by omega)]; exact c, d⟩
      · rw [List.getElem?_append_right h1] at hy
        have hj0 : j = s1.st.length := by
          rcases Nat.lt_or_ge s1.st.length j with h2 | h2
          · rw [List.getElem?_eq_none (by simp; omega)] at hy; cases hy
          · omega
        subst hj0
        rw [Nat.sub_self] at hy
        cases hy
        intro k hk
        obtain ⟨m, z, a, b, c, d⟩ := ho k hk
        have hm := (List.getElem?_eq_some_iff.1 b).1
        exact ⟨m, z, a, hm, by rw [List.getElem?_append_left hm]; exact b, c, d⟩
    · have h1 := hs.cn k
      simp only [own_app, List.count_append, List.length_append, List.length_singleton]
      have h2 : own [({ x with f := fr, e := pe E s1 } : St)] = x.th ++ x.el := by simp [own]
      rw [h2]
      rw [List.count_append] at h1 ⊢
      by_cases hk : k = s1.st.length
      · subst hk
        rw [if_neg (by omega)] at h1
        rw [if_pos (by omega), List.count_cons_self, List.count_nil]
        omega
      · rw [List.count_cons_of_ne (by omega), List.count_nil]
        by_cases h3 : s.st.length ≤ k ∧ k < s1.st.length
        · rw [if_pos h3] at h1; rw [if_pos (by omega)]; omega
        · rw [if_neg h3] at h1; rw [if_neg (by omega)]; omega
    · rw [List.mem_singleton] at hk
      exact ⟨s1.st.length, { x with f := fr, e := pe E s1 }, hk, by simp, Int.le_refl _, Int.le_refl _⟩
end
structure SsL (E : Env) (N : Nat) (L : Lv) : Prop where
  stmts : ∀ d l s o t, L.stmts d l s = .ok o t → t.i ≤ N → ∀ s0 f, Ss s0 s l → Op s f (eI E (s.i - 1)) l → 1 ≤ s.i → f ≤ hI E (s.i - 1) → Ss s0 t o ∧ Op t f (eI E (t.i - 1)) o
  stmt : ∀ d s a t, L.stmt d s = .ok a t → t.i ≤ N → Ss s t [a] ∧ Op t (hI E s.i) (eI E (t.i - 1)) [a]
  branch : ∀ fr d s a t, L.branch fr d s = .ok a t → t.i ≤ N → 1 ≤ s.i → fr ≤ hI E (s.i - 1) → Ss s t [a] ∧ Op t fr (eI E (t.i - 1)) [a]
section
variable {E : Env} {N : Nat} {L : Lv}
theorem expr_ss (hX : SpX E N L) (hK : KsL L) {d : Int} {s t : PS} {a : Int} (h : L.expr d s = .ok a t) (ht : t.i ≤ N) : Ss s t [] := Ss.of (hX.expr _ _ _ _ h ht).1 (hK.expr d s _ rfl _ _ h)
theorem want_ss {w : List Int} {s t : PS} {x : Unit} (h : want E w s = .ok x t) : Ss s t [] := Ss.of ((Xs.refl s).same (want_ex h).1) (want_ex h).2.2
theorem knd_ss {k : Int} {s t : PS} {x : List Int} (h : knd E k s = .ok x t) : Ss s t [] := Ss.of ((Xs.refl s).same (knd_ex h).1) (knd_ex h).2.2
theorem adv_ss (s : PS) : Ss s (adv s) [] := Ss.of ((Xs.refl s).same rfl) rfl
theorem want_le (M : Mono E N) {w : List Int} (hw : w ≠ []) {s t : PS} {x : Unit} (h : want E w s = .ok x t) : t.i ≤ N ∧ t.i = s.i + 1 := by
  have h1 := want_lt M.W hw h
  have h2 := (want_ex h).2.1
  omega
theorem block_ss (M : Mono E N) (hB : Bd L) (hL : SsL E N L) {d : Int} {s t : PS} {o : List Int} (h : block E L d s = .ok o t) (ht : t.i ≤ N) : s.i < N ∧ Ss s t o ∧ Op t (hI E s.i) (eI E (t.i - 1)) o := by
  obtain ⟨_, s1, h1, h2⟩ := bind_inv h
  have e : s1 = s := by
    split at h1
    · exact deep_up h1
    · cases h1; rfl
  subst e
  obtain ⟨_, s2, h3, h4⟩ := bind_inv h2
  have h5 := (want_ex h3).2.1
  have h6 := want_lt M.W (by decide) h3
  obtain ⟨k, r⟩ := hL.stmts _ _ _ _ _ h4 ht s1 (hI E s1.i) (want_ss h3) (fun k hk => by cases hk) (by omega) (by rw [h5]; exact Int.le_refl _)
  exact ⟨h6, k, r⟩
theorem decl_ss (hB : Bd L) (hX : SpX E N L) (hK : KsL L) {d : Int} {s t : PS} {x : St} (h : sDecl E L d s = .ok x t) (ht : t.i ≤ N) : Ss s t [] ∧ x.th ++ x.el = [] := by
  obtain ⟨_, s1, h1, h2⟩ := bind_inv h
  have k1 := knd_ss h1
  split at h2
  · obtain ⟨_, s2, h3, h4⟩ := bind_inv h2
    obtain ⟨_, s3, h5, h6⟩ := bind_inv h4
    cases h6
    exact ⟨k1.nil ((adv_ss s1).nil ((knd_ss h3).nil (want_ss h5))), rfl⟩
  · obtain ⟨_, s2, h3, h4⟩ := bind_inv h2
    obtain ⟨_, s3, h5, h6⟩ := bind_inv h4
    cases h6
    exact ⟨k1.nil ((want_ss h3).nil (expr_ss hX hK h5 ht)), rfl⟩
theorem named_ss (M : Mono E N) (hB : Bd L) (hX : SpX E N L) (hK : KsL L) {d : Int} {s t : PS} {x : St} (h : sNamed E L d s = .ok x t) (ht : t.i ≤ N) : Ss s t [] ∧ x.th ++ x.el = [] := by
  obtain ⟨_, s1, h1, h2⟩ := bind_inv h
  have k1 := knd_ss h1
  split at h2
  · obtain ⟨a, s2, h3, h4⟩ := bind_inv h2
    cases h4
    have hs1 : s1.i < N := by
      obtain ⟨_, s2, e3, e4⟩ := bind_inv h3
      exact want_lt M.W (by decide) e3
    refine ⟨k1.nil (Ss.of (call_xs M hB hX h3 ht (M.hh s1.i (Nat.le_of_lt_succ (by have := (knd_ex h1).2.1; omega)) hs1)).1 ?_), rfl⟩
    obtain ⟨_, s2, e3, e4⟩ := bind_inv h3
    exact (hK.args _ _ _ _ _ _ rfl _ _ e4).trans (want_ex e3).2.2
  split at h2
  · obtain ⟨_, s2, h3, h4⟩ := bind_inv h2
    obtain ⟨_, s3, h5, h6⟩ := bind_inv h4
    obtain ⟨_, s4, h7, h8⟩ := bind_inv h6
    obtain ⟨_, s5, h9, h10⟩ := bind_inv h8
    cases h10
    have a := want_le M (by decide) h5
    exact ⟨k1.nil ((adv_ss s1).nil ((expr_ss hX hK h3 (by omega)).nil ((want_ss h5).nil ((want_ss h7).nil (expr_ss hX hK h9 ht))))), rfl⟩
  · obtain ⟨_, s2, h3, h4⟩ := bind_inv h2
    obtain ⟨_, s3, h5, h6⟩ := bind_inv h4
    cases h6
    exact ⟨k1.nil ((want_ss h3).nil (expr_ss hX hK h5 ht)), rfl⟩
theorem endS_ss (M : Mono E N) {fr : Int} {x : St} {s s1 t : PS} {a : Int} (h : endS E fr x s1 = .ok a t) (hs : s1.i ≤ N → Ss s s1 [] ∧ x.th ++ x.el = []) : Ss s t [a] ∧ Op t fr (eI E (t.i - 1)) [a] := by
  obtain ⟨_, s2, h1, h2⟩ := bind_inv h
  have h3 := want_le M (by decide) h1
  obtain ⟨h4, h5⟩ := hs (by omega)
  obtain ⟨k1, k2, k3⟩ := add_ss h2 (s := s) (by rw [h5]; exact h4.nil (want_ss h1)) (by rw [h5]; exact fun k hk => by cases hk)
  exact ⟨k1, by rw [k3]; exact k2⟩
theorem ss_step (M : Mono E N) (hB : Bd L) (hS : Fst N L) (hX : SpX E N L) (hK : KsL L) (hL : SsL E N L) : SsL E N (stepL E L) := by
  constructor
  · intro d l s o t h ht s0 f hs ho h1 hf
    have h : sStmts E L d l s = .ok o t := h
    unfold sStmts at h
    split at h
    · cases h
      have ua : (adv s).i = s.i + 1 := rfl
      refine ⟨hs.nil' (adv_ss s), ho.up ⟨[], by simp [adv]⟩ (Int.le_refl _) (M.ee (by omega) (by omega))⟩
    · obtain ⟨x, s1, e1, e2⟩ := bind_inv h
      have u1 := (hB.stmt _ _ _ _ e1).1
      have u2 := (hB.stmts _ _ _ _ _ e2).1
      have l1 := hS.stmt _ _ _ _ e1
      obtain ⟨k1, r1⟩ := hL.stmt _ _ _ _ e1 (by omega)
      have g1 := M.hh (i := s.i - 1) s.i (by omega) l1
      have g2 := M.hh (i := s.i - 1) (s1.i - 1) (by omega) (by omega)
      have g3 := M.ee (i := s.i - 1) (j := s1.i - 1) (by omega) (by omega)
      exact hL.stmts _ _ _ _ _ e2 ht s0 f (hs.trans k1) ((ho.up k1.pre (Int.le_refl _) g3).app (r1.up ⟨[], by simp⟩ (by omega) (Int.le_refl _))) (by omega) (by omega)
  · intro d s a t h ht
    have h : sStmt E L d s = .ok a t := h
    unfold sStmt at h
    have ua : (adv s).i = s.i + 1 := rfl
    split at h
    · obtain ⟨x, s1, e1, e2⟩ := bind_inv h
      exact endS_ss M e2 fun q => by
        obtain ⟨b, c⟩ := decl_ss hB hX hK e1 q
        exact ⟨(adv_ss s).nil b, c⟩
    split at h
    · have l1 := hS.branch _ _ _ _ _ h
      obtain ⟨k, r⟩ := hL.branch _ _ _ _ _ h ht (by omega) (Int.le_refl _)
      exact ⟨(adv_ss s).nil k, r⟩
    split at h
    · obtain ⟨b, s1, e1, e2⟩ := bind_inv h
      obtain ⟨th, s2, e3, e4⟩ := bind_inv e2
      have u1 := (hB.expr _ _ _ _ e1).1
      have u2 := (block_up hB e3).1
      have u3 : t.i = s2.i := by
        unfold add at e4; split at e4 <;> cases e4; rfl
      obtain ⟨l1, k1, r1⟩ := block_ss M hB hL e3 (by omega)
      have k0 := expr_ss hX hK e1 (by omega)
      have g1 := M.hh (i := s.i) s1.i (by omega) l1
      obtain ⟨k2, r2, k3⟩ := add_ss e4 (s := s) (by rw [List.append_nil]; exact (adv_ss s).nil (k0.nil k1)) (by rw [List.append_nil]; exact r1.up ⟨[], by simp⟩ g1 (Int.le_refl _))
      exact ⟨k2, by rw [k3]; exact r2⟩
    split at h
    · exact endS_ss M h fun q => ⟨adv_ss s, rfl⟩
    split at h
    · exact endS_ss M h fun q => ⟨adv_ss s, rfl⟩
    split at h
    · split at h
      · exact endS_ss M h fun q => ⟨adv_ss s, rfl⟩
      · obtain ⟨b, s1, e1, e2⟩ := bind_inv h
        exact endS_ss M e2 fun q => ⟨(adv_ss s).nil (expr_ss hX hK e1 q), rfl⟩
    split at h
    · obtain ⟨b, s1, e1, e2⟩ := bind_inv h
      exact endS_ss M e2 fun q => ⟨(adv_ss s).nil (expr_ss hX hK e1 q), rfl⟩
    · obtain ⟨x, s1, e1, e2⟩ := bind_inv h
      exact endS_ss M e2 fun q => named_ss M hB hX hK e1 q
  · intro fr d s a t h ht h1 hf
    obtain ⟨b, s1, e1, e2⟩ := bind_inv (show sBranch E L fr d s = .ok a t from h)
    obtain ⟨th, s2, e3, e4⟩ := bind_inv e2
    have u1 := (hB.expr _ _ _ _ e1).1
    have u2 := (block_up hB e3).1
    have addi : ∀ {x : St} {s3 : PS}, add E fr x s3 = .ok a t → t.i = s3.i := fun e => by unfold add at e; split at e <;> cases e; rfl
    have ua : (adv s2).i = s2.i + 1 := rfl
    have hle : s2.i ≤ t.i := by
      split at e4
      · split at e4
        · obtain ⟨_, s3, f1, f2⟩ := bind_inv e4
          have := deep_up f1
          subst this
          obtain ⟨x, s4, f3, f4⟩ := bind_inv f2
          have := (hB.branch _ _ _ _ _ f3).1
          have := addi f4
          have : (adv (adv s2)).i = s2.i + 2 := rfl
          omega
        · obtain ⟨el, s3, f1, f2⟩ := bind_inv e4
          have := (block_up hB f1).1
          have := addi f2
          omega
      · have := addi e4; omega
    obtain ⟨l1, k1, r1⟩ := block_ss M hB hL e3 (by omega)
    have k0 := expr_ss hX hK e1 (by omega)
    have g1 := M.hh (i := s.i - 1) s1.i (by omega) l1
    have k2 : Ss s s2 th := k0.nil k1
    have r2 : Op s2 fr (eI E (s2.i - 1)) th := r1.up ⟨[], by simp⟩ (by omega) (Int.le_refl _)
    split at e4
    · split at e4
      · obtain ⟨_, s3, f1, f2⟩ := bind_inv e4
        have := deep_up f1
        subst this
        obtain ⟨x, s4, f3, f4⟩ := bind_inv f2
        have w1 := (hB.branch _ _ _ _ _ f3).1
        have w2 := addi f4
        have w3 := hS.branch _ _ _ _ _ f3
        have ub : (adv (adv s2)).i = s2.i + 2 := rfl
        obtain ⟨k3, r3⟩ := hL.branch _ _ _ _ _ f3 (by omega) (by omega) (by rw [hr_I, ua, ub]; exact Int.le_refl _)
        have k4 : Ss s2 s4 [x] := (adv_ss s2).nil ((adv_ss _).nil k3)
        have g2 := M.hh (i := s.i - 1) (s2.i + 1) (by omega) (by omega)
        have g3 := M.ee (i := s2.i - 1) (j := s4.i - 1) (by omega) (by omega)
        obtain ⟨k5, r5, k6⟩ := add_ss f4 (s := s) (k2.trans k4) ((r2.up k4.pre (Int.le_refl _) g3).app (r3.up ⟨[], by simp⟩ (by rw [hr_I, ua]; omega) (Int.le_refl _)))
        exact ⟨k5, by rw [k6]; exact r5⟩
      · obtain ⟨el, s3, f1, f2⟩ := bind_inv e4
        have w1 := (block_up hB f1).1
        have w2 := addi f2
        obtain ⟨l3, k3, r3⟩ := block_ss M hB hL f1 (by omega)
        have k4 : Ss s2 s3 el := (adv_ss s2).nil k3
        have g2 := M.hh (i := s.i - 1) (s2.i + 1) (by omega) (by omega)
        have g3 := M.ee (i := s2.i - 1) (j := s3.i - 1) (by omega) (by omega)
        obtain ⟨k5, r5, k6⟩ := add_ss f2 (s := s) (k2.trans k4) ((r2.up k4.pre (Int.le_refl _) g3).app (r3.up ⟨[], by simp⟩ (by rw [ua]; omega) (Int.le_refl _)))
        exact ⟨k5, by rw [k6]; exact r5⟩
    · obtain ⟨k5, r5, k6⟩ := add_ss e4 (s := s) (by rw [List.append_nil]; exact k2) (by rw [List.append_nil]; exact r2)
      exact ⟨k5, by rw [k6]; exact r5⟩
theorem ss_lv (M : Mono E N) : ∀ n, SsL E N (lv E n)
  | 0 => ⟨fun _ _ _ _ _ h => (by cases h), fun _ _ _ _ h => (by cases h), fun _ _ _ _ _ h => (by cases h)⟩
  | n + 1 => ss_step M (bd_lv n) (fst_lv M.W M.T n) (spx_lv M n) (ks_lv n) (ss_lv M n)
end
/-- A program: parts are ahead, within; each statement is in one list. -/
structure Whole (s : PS) : Prop where
  ex : ∀ j x, s.ex[j]? = some x → GdE s.ex j x
  st : ∀ j x, s.st[j]? = some x → GdS s.st j x
  cn : ∀ k : Nat, (own s.st).count (k : Int) + (s.fn.flatMap Fn.bd).count (k : Int) = if k < s.st.length then 1 else 0
  fn : ∀ f ∈ s.fn, Op s f.f f.e f.bd
section
variable {E : Env} {N : Nat}
theorem prms_ex : ∀ n l s x t, prms E n l s = .ok x t → t.ex = s.ex ∧ t.st = s.st := by
  intro n
  induction n with
  | zero => intro l s x t h; cases h
  | succ n ih =>
    intro l s x t h
    unfold prms at h
    split at h
    · cases h; exact ⟨rfl, rfl⟩
    · obtain ⟨_, s1, h1, h2⟩ := bind_inv h
      obtain ⟨_, s2, h3, h4⟩ := bind_inv h2
      have e1 : s1.ex = s.ex ∧ s1.st = s.st := by
        split at h1
        · cases h1; exact ⟨rfl, rfl⟩
        · exact ⟨(want_ex h1).1, (want_ex h1).2.2⟩
      have e2 := knd_ex h3
      split at h4
      · obtain ⟨a, b⟩ := ih _ _ _ _ h4
        exact ⟨a.trans (e2.1.trans e1.1), b.trans (e2.2.2.trans e1.2)⟩
      · cases h4
theorem fct_whole (M : Mono E N) {n : Nat} {s t : PS} {x : Unit} (e : fct E n s = .ok x t) (ht : t.i ≤ N) (h : Whole s) : Whole t := by
  have hup := fct_st e
  obtain ⟨hl, nm, s2, s3, ps, s4, ty, s5, bd, s6, h2, h3, h4, h5, q, h6, rfl⟩ := fct_inv e
  have k2 := (adv_ss s).nil (knd_ss h2)
  have k3 := k2.nil (want_ss h3)
  obtain ⟨a4, b4⟩ := prms_ex _ _ _ _ _ h4
  have k4 := k3.nil (Ss.of ((Xs.refl s3).same a4) b4)
  have k5 : Ss s4 s5 [] := by
    rcases h5 with ⟨_, _, rfl⟩ | ⟨_, _, rfl⟩
    · exact adv_ss _
    · exact Ss.of (Xs.refl _) rfl
  have u3 := (want_up h3).1
  have u2 := (knd_up h2).1
  have u4 := (prms_up _ _ _ _ _ h4).1
  have ua : (adv s).i = s.i + 1 := rfl
  have u5 : s4.i ≤ s5.i := by
    rcases h5 with ⟨_, _, rfl⟩ | ⟨_, _, rfl⟩
    · show s4.i ≤ s4.i + 1; omega
    · exact Nat.le_refl _
  obtain ⟨l6, k6, r6⟩ := block_ss M (bd_lv n) (ss_lv M n) h6 ht
  have hfn : s6.fn = s.fn := by
    have v5 : s5.fn = s4.fn := by
      rcases h5 with ⟨_, _, rfl⟩ | ⟨_, _, rfl⟩ <;> rfl
    have v6 := (block_up (bd_lv n) h6).2.2.1
    have v4 := (prms_up _ _ _ _ _ h4).2.2.1
    have v3 := (want_up h3).2.2.1
    have v2 := (knd_up h2).2.2.1
    rw [v6, v5, v4, v3, v2]
    rfl
  have k : Ss s s6 bd := (k4.nil k5).nil k6
  refine ⟨fun j x hx => ?_, fun j x hx => ?_, fun m => ?_, fun f hf => ?_⟩
  · have hx : s6.ex[j]? = some x := hx
    show GdE s6.ex j x
    rcases Nat.lt_or_ge j s.ex.length with h1 | h1
    · obtain ⟨y, hy⟩ : ∃ y, s.ex[j]? = some y := ⟨_, List.getElem?_eq_getElem h1⟩
      have := pre_get k.xs.pre hy
      rw [this] at hx
      cases hx
      exact (h.ex j _ hy).mono (fun m y _ hm => pre_get k.xs.pre hm) (Nat.le_refl _) (Int.le_refl _)
    · exact k.xs.gd j x h1 hx
  · have hx : s6.st[j]? = some x := hx
    show GdS s6.st j x
    rcases Nat.lt_or_ge j s.st.length with h1 | h1
    · obtain ⟨y, hy⟩ : ∃ y, s.st[j]? = some y := ⟨_, List.getElem?_eq_getElem h1⟩
      have := pre_st k.pre hy
      rw [this] at hx
      cases hx
      intro i hi
      obtain ⟨m, z, a, b, c, d⟩ := h.st j _ hy i hi
      exact ⟨m, z, a, b, pre_st k.pre c, d⟩
    · exact k.gd j x h1 hx
  · have c1 := k.cn m
    have c2 := h.cn m
    have c3 := pre_le k.pre
    simp only [hfn, List.flatMap_append, List.count_append, List.flatMap_cons, List.flatMap_nil, List.append_nil]
    by_cases hm : m < s.st.length
    · rw [if_pos hm] at c2
      rw [if_neg (by omega)] at c1
      rw [if_pos (by omega)]
      omega
    · rw [if_neg hm] at c2
      by_cases hm' : m < s6.st.length
      · rw [if_pos (by omega)] at c1; rw [if_pos hm']; omega
      · rw [if_neg (by omega)] at c1; rw [if_neg hm']; omega
  · simp only [hfn] at hf
    rcases List.mem_append.1 hf with hf | hf
    · have := h.fn f hf
      exact Op.up this k.pre (Int.le_refl _) (Int.le_refl _)
    · rw [List.mem_singleton] at hf
      subst hf
      exact Op.up (t := { s6 with fn := s6.fn ++ [{ nm := nm, f := hr E s, e := pe E s6, ps := ps, ty := ty, bd := bd }] }) r6 ⟨[], by simp⟩ (M.hh (i := s.i) s5.i (by omega) l6) (Int.le_refl _)
theorem fcts_whole (M : Mono E N) {m : Nat} : ∀ n s x t, fcts E m n s = .ok x t → t.i ≤ N → Whole s → Whole t := by
  intro n
  induction n with
  | zero => intro s x t h; cases h
  | succ n ih =>
    intro s x t h ht hs
    unfold fcts at h
    split at h
    · cases h; exact hs
    · obtain ⟨_, s1, h1, h2⟩ := bind_inv h
      have := fcts_st _ _ _ _ h2
      exact ih _ _ _ h2 ht (fct_whole M h1 (by omega) hs)
end
theorem prs_whole {L : List Int} {S : PS} (h : prs L = .ok () S) : Whole S := by
  obtain ⟨ht, _, hf⟩ := txt_of h
  have he := (prs_end h).1
  refine fcts_whole (mono_env ht) _ _ _ _ hf (by have : (envOf L).T.length = (Tk.allT L).1.length := rfl; omega) ⟨fun j x hx => by simp at hx, fun j x hx => by simp at hx, fun k => by simp [own], fun f hf => by simp at hf⟩
end Go.Proofs.YtgnkdeapifbgeaaDoor.Sy
