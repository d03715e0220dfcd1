/- Where statements fall is what comes behind them. No program. -/
import Derived.Test.YtkllhfajldnpoaaPk11
namespace Go.Proofs.Ytkllhfajldnpoaa.Fn
open Sy (St PS)
set_option linter.unusedVariables false
/-- Where the statements of a list fall, laid into a list. -/
def falR (st : List St) (rec_ : List Int → List Int → Int → List Int) (l : List Int) (bh : Int) : Nat → List Int → List Int → List Int
  | _, [], out => out
  | i, x :: r, out =>
    falR st rec_ l bh (i + 1) r (rec_ (rec_ (out.set x.toNat (if i + 1 < l.length then l.getD (i + 1) (-2) else bh)) (gs st x).th (if (gs st x).k = 6 then x else if i + 1 < l.length then l.getD (i + 1) (-2) else bh)) (gs st x).el (if (gs st x).k = 6 then x else if i + 1 < l.length then l.getD (i + 1) (-2) else bh))
def fal (st : List St) : Nat → List Int → List Int → Int → List Int
  | 0, out, _, _ => out
  | n + 1, out, l, bh => falR st (fal st n) l bh 0 l out
def falL (st : List St) (bo : List (List Int)) : List Int := bo.foldl (fun out l => fal st st.length out l (-1)) (List.replicate st.length 0)
section
variable {st : List St} {bo : List (List Int)} {pl : List Pl} {next : List (List Int)}
def FalS (st : List St) (bo : List (List Int)) (pl : List Pl) (n : Nat) (rec_ : List Int → List Int → Int → List Int) : Prop :=
  ∀ out l inn lp, out.length = st.length → (∀ x ∈ l, Nd st.length x ∧ x < n) → (∀ (p : Nat) x, l[p]? = some x → Pos st bo x ⟨l, p, inn, lp⟩) →
    (rec_ out l (eb st pl inn)).length = st.length ∧ (∀ z, Nd st.length z → gi out z = behL st pl z → gi (rec_ out l (eb st pl inn)) z = behL st pl z) ∧ (∀ x ∈ l, ∀ z, Ds st x z → gi (rec_ out l (eb st pl inn)) z = behL st pl z)
theorem falS (W : Wy st bo pl next) : ∀ n, FalS st bo pl n (fal st n) := by
  intro n
  induction n with
  | zero =>
    intro out l inn lp ho hl _
    refine ⟨ho, fun z _ h => h, fun x hx z _ => ?_⟩
    have h1 := (hl x hx).2
    have h2 := (hl x hx).1.1
    omega
  | succ n ih =>
    intro out l inn lp ho hl hp
    show (falR st (fal st n) l (eb st pl inn) 0 l out).length = _ ∧ _
    have key : ∀ (r : List Int) (i : Nat) (out : List Int), l.drop i = r → out.length = st.length →
        (falR st (fal st n) l (eb st pl inn) i r out).length = st.length ∧ (∀ z, Nd st.length z → gi out z = behL st pl z → gi (falR st (fal st n) l (eb st pl inn) i r out) z = behL st pl z) ∧
        (∀ x ∈ r, ∀ z, Ds st x z → gi (falR st (fal st n) l (eb st pl inn) i r out) z = behL st pl z) := by
      intro r
      induction r with
      | nil => intro i out _ ho; exact ⟨ho, fun z _ h => h, fun x hx => by cases hx⟩
      | cons x r ihr =>
        intro i out hd ho
        have hi : i < l.length := by
          rcases Nat.lt_or_ge i l.length with h | h
          · exact h
          · rw [List.drop_eq_nil_of_le h] at hd; cases hd
        have e := List.drop_eq_getElem_cons hi
        rw [hd] at e
        obtain ⟨e1, e2⟩ := List.cons.inj e
        have hxi : l[i]? = some x := by rw [List.getElem?_eq_getElem hi, e1]
        obtain ⟨hx, hxn⟩ := hl x (List.mem_of_getElem? hxi)
        have hpx := hp i x hxi
        have hb : behL st pl x = if i + 1 < l.length then l.getD (i + 1) (-2) else eb st pl inn := by
          rw [W.beh hx, W.gp hx hpx]
          simp only
          by_cases h : i + 1 < l.length
          · rw [if_pos h, if_pos (by omega), show ((i : Int) + 1).toNat = i + 1 by omega]
          · rw [if_neg h, if_neg (by omega)]
        have hc : ∀ y, Ch st x y → Nd st.length y ∧ y < n := fun y hy => ⟨W.T.nd hx hy, by have := W.T.ch x y hx hy; omega⟩
        have hin : eb st pl x = if (gs st x).k = 6 then x else behL st pl x := by unfold eb; rw [if_neg (by have := hx.1; omega)]
        have ho1 : (out.set x.toNat (behL st pl x)).length = st.length := by simp [ho]
        obtain ⟨a1, a2, a3⟩ := ih (out.set x.toNat (behL st pl x)) (gs st x).th x (inner st x lp) ho1 (fun y hy => hc y (List.mem_append.2 (.inl hy))) (fun p y h => .th hx hpx h)
        obtain ⟨b1, b2, b3⟩ := ih _ (gs st x).el x (inner st x lp) a1 (fun y hy => hc y (List.mem_append.2 (.inr hy))) (fun p y h => .el hx hpx h)
        obtain ⟨c1, c2, c3⟩ := ihr (i + 1) _ e2.symm b1
        unfold falR
        rw [← hb, ← hin]
        have s0 : ∀ z, Nd st.length z → gi out z = behL st pl z → gi (out.set x.toNat (behL st pl x)) z = behL st pl z := fun z hz h => by
          rw [gi_set ho hx hz]
          split
          · rename_i e; rw [e]
          · exact h
        refine ⟨c1, fun z hz h => c2 z hz (b2 z hz (a2 z hz (s0 z hz h))), fun y hy z hyz => ?_⟩
        rcases List.mem_cons.1 hy with rfl | hy
        · have hz := (W.T.ds hx hyz).1
          refine c2 z hz ?_
          cases hyz with
          | rf => exact b2 _ hx (a2 _ hx (by rw [gi_set ho hx hx, if_pos rfl]))
          | dn h1 h2 =>
            rcases List.mem_append.1 h1 with h1 | h1
            · exact b2 z hz (a3 _ h1 z h2)
            · exact b3 _ h1 z h2
        · exact c3 y hy z hyz
    exact key l 0 out rfl ho
/-- Where each statement falls. -/
theorem falL_spec (W : Wy st bo pl next) : (falL st bo).length = st.length ∧ ∀ z, Nd st.length z → gi (falL st bo) z = behL st pl z := by
  have he : eb st pl (-1) = -1 := by unfold eb; rw [if_pos (by omega)]
  have key : ∀ (r : List (List Int)) (out : List Int), (∀ l ∈ r, l ∈ bo) → out.length = st.length →
      (r.foldl (fun out l => fal st st.length out l (-1)) out).length = st.length ∧ (∀ z, Nd st.length z → gi out z = behL st pl z → gi (r.foldl (fun out l => fal st st.length out l (-1)) out) z = behL st pl z) ∧
      ∀ l ∈ r, ∀ x ∈ l, ∀ z, Ds st x z → gi (r.foldl (fun out l => fal st st.length out l (-1)) out) z = behL st pl z := by
    intro r
    induction r with
    | nil => intro out _ ho; exact ⟨ho, fun z _ h => h, fun l hl => by cases hl⟩
    | cons l r ih =>
      intro out hr ho
      have hl := hr l List.mem_cons_self
      obtain ⟨a1, a2, a3⟩ := falS W st.length out l (-1) (-1) ho (fun x hx => ⟨W.T.bd l hl x hx, (W.T.bd l hl x hx).2⟩) (fun p x h => .top hl h)
      rw [he] at a1 a2 a3
      obtain ⟨b1, b2, b3⟩ := ih _ (fun l hl => hr l (List.mem_cons_of_mem _ hl)) a1
      rw [List.foldl_cons]
      refine ⟨b1, fun z hz h => b2 z hz (a2 z hz h), fun m hm x hx z hz => ?_⟩
      rcases List.mem_cons.1 hm with rfl | hm
      · exact b2 z (W.T.ds (W.T.bd _ hl x hx) hz).1 (a3 x hx z hz)
      · exact b3 m hm x hx z hz
  obtain ⟨h1, _, h3⟩ := key bo (List.replicate st.length 0) (fun _ h => h) (by simp)
  refine ⟨h1, fun z hz => ?_⟩
  obtain ⟨l, hl, x, hx, hd⟩ := W.T.cover z hz
  exact h3 l hl x hx z hd
end
end Go.Proofs.Ytkllhfajldnpoaa.Fn
