/- Programs of tokens: what is wrong, and where; a program has functions. No program. -/
import Derived.Test.YtgnkdeapifbgeaaDoorGm
import Derived.Test.YtgnkdeapifbgeaaDoorUa
namespace Go.Proofs.YtgnkdeapifbgeaaDoor.Sy
open Go
set_option linter.unusedVariables false
/-- What is wrong is told at a token. -/
def Ge {α : Type} (E : Env) (r : Rs α) : Prop := ∀ c p, r = .er c p → (c = 3 ∨ c = 4 ∨ c = 5) ∧ ∃ s, p = hr E s
section
variable {E : Env} {α β : Type}
theorem Ge.ok {x : α} {s : PS} : Ge E (.ok x s) := fun c p h => by cases h
theorem Ge.out : Ge E (.out : Rs α) := fun c p h => by cases h
theorem Ge.bind {r : Rs α} {g : α → PS → Rs β} (h : Ge E r) (k : ∀ x s, Ge E (g x s)) : Ge E (r.bind g) := by
  cases r with
  | ok x s => exact k x s
  | er c p => exact fun c' p' e => h c' p' (by cases e; rfl)
  | out => exact Ge.out
theorem Ge.er {c : Int} {s : PS} (hc : c = 3 ∨ c = 4 ∨ c = 5) : Ge E (Sy.er E c s : Rs α) := fun c' p h => by cases h; exact ⟨hc, s, rfl⟩
theorem Ge.want {w : List Int} {s : PS} : Ge E (want E w s) := by unfold Sy.want; split; exact Ge.ok; exact Ge.er (.inl rfl)
theorem Ge.knd {k : Int} {s : PS} : Ge E (knd E k s) := by unfold Sy.knd; split; exact Ge.ok; exact Ge.er (.inl rfl)
theorem Ge.deep {d : Int} {s : PS} : Ge E (deep E d s) := by unfold Sy.deep; split; exact Ge.er (.inr (.inl rfl)); exact Ge.ok
theorem Ge.put {fr : Int} {x : Ex} {s : PS} : Ge E (put E fr x s) := Ge.ok
theorem Ge.add {fr : Int} {x : St} {s : PS} : Ge E (add E fr x s) := by unfold Sy.add; split; exact Ge.er (.inr (.inr rfl)); exact Ge.ok
theorem Ge.endS {fr : Int} {x : St} {s : PS} : Ge E (endS E fr x s) := Ge.bind Ge.want fun _ _ => Ge.add
end
structure GeL (E : Env) (L : Lv) : Prop where
  row : ∀ v d s, Ge E (L.row v d s)
  rows : ∀ v d fr a s, Ge E (L.rows v d fr a s)
  expr : ∀ d s, Ge E (L.expr d s)
  unary : ∀ d s, Ge E (L.unary d s)
  prim : ∀ d s, Ge E (L.prim d s)
  args : ∀ fr nm d l s, Ge E (L.args fr nm d l s)
  stmts : ∀ d l s, Ge E (L.stmts d l s)
  stmt : ∀ d s, Ge E (L.stmt d s)
  branch : ∀ fr d s, Ge E (L.branch fr d s)
section
variable {E : Env} {L : Lv}
theorem Ge.call (h : GeL E L) {fr : Int} {nm : List Int} {d : Int} {s : PS} : Ge E (call E L fr nm d s) := Ge.bind Ge.want fun _ _ => h.args _ _ _ _ _
theorem Ge.block (h : GeL E L) {d : Int} {s : PS} : Ge E (block E L d s) := by
  refine Ge.bind ?_ fun _ _ => Ge.bind Ge.want fun _ _ => h.stmts _ _ _
  split
  · exact Ge.deep
  · exact Ge.ok
theorem Ge.decl (h : GeL E L) {d : Int} {s : PS} : Ge E (sDecl E L d s) := by
  refine Ge.bind Ge.knd fun _ s1 => ?_
  split
  · exact Ge.bind Ge.knd fun _ _ => Ge.bind Ge.want fun _ _ => Ge.ok
  · exact Ge.bind Ge.want fun _ _ => Ge.bind (h.expr _ _) fun _ _ => Ge.ok
theorem Ge.named (h : GeL E L) {d : Int} {s : PS} : Ge E (sNamed E L d s) := by
  refine Ge.bind Ge.knd fun _ s1 => ?_
  split
  · exact Ge.bind (Ge.call h) fun _ _ => Ge.ok
  split
  · exact Ge.bind (h.expr _ _) fun _ _ => Ge.bind Ge.want fun _ _ => Ge.bind Ge.want fun _ _ => Ge.bind (h.expr _ _) fun _ _ => Ge.ok
  · exact Ge.bind Ge.want fun _ _ => Ge.bind (h.expr _ _) fun _ _ => Ge.ok
theorem ge_step (h : GeL E L) : GeL E (stepL E L) := by
  constructor
  · intro v d s
    show Ge E (sRow E L v d s)
    unfold sRow
    split
    · exact h.unary _ _
    · exact Ge.bind (h.row _ _ _) fun _ _ => h.rows _ _ _ _ _
  · intro v d fr a s
    show Ge E (sRows E L v d fr a s)
    unfold sRows
    split
    · refine Ge.bind (h.row _ _ _) fun _ _ => Ge.bind Ge.put fun _ _ => ?_
      split
      · exact Ge.ok
      · exact h.rows _ _ _ _ _
    · exact Ge.ok
  · intro d s
    exact Ge.bind Ge.deep fun _ _ => h.row _ _ _
  · intro d s
    show Ge E (sUnary E L d s)
    unfold sUnary
    split
    · exact Ge.bind Ge.deep fun _ _ => Ge.bind (h.unary _ _) fun _ _ => Ge.put
    · exact h.prim _ _
  · intro d s
    show Ge E (sPrim E L d s)
    unfold sPrim
    split
    · exact Ge.put
    split
    · exact Ge.put
    split
    · exact Ge.put
    split
    · exact Ge.put
    split
    · exact Ge.bind (h.expr _ _) fun _ _ => Ge.bind Ge.want fun _ _ => Ge.ok
    · refine Ge.bind Ge.knd fun _ _ => ?_
      split
      · exact Ge.bind (h.expr _ _) fun _ _ => Ge.bind Ge.want fun _ _ => Ge.put
      split
      · exact Ge.call h
      · exact Ge.put
  · intro fr nm d l s
    show Ge E (sArgs E L fr nm d l s)
    unfold sArgs
    split
    · exact Ge.put
    · refine Ge.bind ?_ fun _ _ => Ge.bind (h.expr _ _) fun _ _ => ?_
      · split
        · exact Ge.ok
        · exact Ge.want
      · split
        · exact h.args _ _ _ _ _
        · exact Ge.er (.inl rfl)
  · intro d l s
    show Ge E (sStmts E L d l s)
    unfold sStmts
    split
    · exact Ge.ok
    · exact Ge.bind (h.stmt _ _) fun _ _ => h.stmts _ _ _
  · intro d s
    show Ge E (sStmt E L d s)
    unfold sStmt
    split
    · exact Ge.bind (Ge.decl h) fun _ _ => Ge.endS
    split
    · exact h.branch _ _ _
    split
    · exact Ge.bind (h.expr _ _) fun _ _ => Ge.bind (Ge.block h) fun _ _ => Ge.add
    split
    · exact Ge.endS
    split
    · exact Ge.endS
    split
    · split
      · exact Ge.endS
      · exact Ge.bind (h.expr _ _) fun _ _ => Ge.endS
    split
    · exact Ge.bind (h.expr _ _) fun _ _ => Ge.endS
    · exact Ge.bind (Ge.named h) fun _ _ => Ge.endS
  · intro fr d s
    refine Ge.bind (h.expr _ _) fun _ _ => Ge.bind (Ge.block h) fun _ _ => ?_
    split
    · split
      · exact Ge.bind Ge.deep fun _ _ => Ge.bind (h.branch _ _ _) fun _ _ => Ge.add
      · exact Ge.bind (Ge.block h) fun _ _ => Ge.add
    · exact Ge.add
theorem ge_lv : ∀ n, GeL E (lv E n)
  | 0 => ⟨fun _ _ _ => Ge.out, fun _ _ _ _ _ => Ge.out, fun _ _ => Ge.out, fun _ _ => Ge.out, fun _ _ => Ge.out, fun _ _ _ _ _ => Ge.out, fun _ _ _ => Ge.out, fun _ _ => Ge.out, fun _ _ _ => Ge.out⟩
  | n + 1 => ge_step (ge_lv n)
theorem Ge.prms : ∀ n l s, Ge E (prms E n l s) := by
  intro n
  induction n with
  | zero => intro l s; exact Ge.out
  | succ n ih =>
    intro l s
    unfold Sy.prms
    split
    · exact Ge.ok
    · refine Ge.bind ?_ fun _ _ => Ge.bind Ge.knd fun _ _ => ?_
      · split
        · exact Ge.ok
        · exact Ge.want
      · split
        · exact ih _ _
        · exact Ge.er (.inl rfl)
theorem Ge.fct {n : Nat} {s : PS} : Ge E (fct E n s) := by
  refine Ge.bind ?_ fun _ _ => Ge.bind Ge.want fun _ _ => Ge.bind Ge.knd fun _ _ => Ge.bind Ge.want fun _ _ => Ge.bind (Ge.prms _ _ _) fun _ _ => Ge.bind ?_ fun _ _ => Ge.bind (Ge.block (ge_lv n)) fun _ _ => Ge.ok
  · split
    · exact Ge.er (.inr (.inr rfl))
    · exact Ge.ok
  · split <;> exact Ge.ok
theorem Ge.fcts {m : Nat} : ∀ n s, Ge E (fcts E m n s) := by
  intro n
  induction n with
  | zero => intro s; exact Ge.out
  | succ n ih =>
    intro s
    unfold Sy.fcts
    split
    · exact Ge.ok
    · exact Ge.bind Ge.fct fun _ _ => ih _
end
/-- What is wrong, and where. -/
theorem prs_er {L : List Int} {c p : Int} (h : prs L = .er c p) : c ≠ 0 ∧ 0 ≤ p ∧ p ≤ (L.length : Int) := by
  unfold prs at h
  split at h
  · rename_i h0
    cases h
    refine ⟨h0, ?_⟩
    unfold Tk.allT
    split
    · exact ⟨Int.le_refl _, Int.natCast_nonneg _⟩
    · have hb : ∀ (f a : Nat) (L : List Int) (ts : List Tk.T3) (p : Int), Tk.als f a L = (ts, some p) → (a : Int) ≤ p ∧ p ≤ ((a + L.length : Nat) : Int) := by
        intro f
        induction f with
        | zero => intro a L ts p h; cases h; omega
        | succ f ih =>
          intro a L ts p h
          have hle := Tk.nx_le L
          cases hok : (Tk.nx L).ok with
          | false =>
            rw [Tk.als_bad hok] at h
            cases h
            omega
          | true =>
            by_cases hk : (Tk.nx L).k = 0
            · rw [Tk.als_end hok hk] at h; cases h
            · rw [Tk.als_more hok hk] at h
              simp only [Prod.mk.injEq] at h
              have := ih (a + (Tk.nx L).n + (Tk.nx L).m) (L.drop ((Tk.nx L).n + (Tk.nx L).m)) _ p (by rw [← h.2])
              rw [List.length_drop] at this
              omega
      split
      · simp
      · rename_i e
        have := hb _ _ _ _ _ e
        simp only
        omega
  · obtain ⟨hc, s, rfl⟩ := Ge.fcts _ _ c p h
    refine ⟨by omega, ?_⟩
    unfold hr
    split
    · rename_i t ht
      have := Tk.all_bounds (L := L) (t := t) (List.mem_of_getElem? ht)
      omega
    · omega
theorem fcts_fn {E : Env} {m : Nat} : ∀ n s x t, fcts E m n s = .ok x t → t.fn ≠ [] := by
  intro n
  induction n with
  | zero => intro s x t h; cases h
  | succ n ih =>
    intro s x t h
    unfold fcts at h
    split at h
    · rename_i q; cases h; exact q.1
    · obtain ⟨_, s1, h1, h2⟩ := bind_inv h
      exact ih _ _ _ h2
theorem prs_fn {L : List Int} {x : Unit} {S : PS} (h : prs L = .ok x S) : S.fn ≠ [] := by
  unfold prs at h
  split at h
  · cases h
  · exact fcts_fn _ _ _ _ h
end Go.Proofs.YtgnkdeapifbgeaaDoor.Sy
