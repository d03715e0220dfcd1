/- Programs of tokens: statements' spans lie within the text. No program. -/
import Derived.Test.YtgnkdeapifbgeaaDoorHg
namespace Go.Proofs.YtgnkdeapifbgeaaDoor.Sy
open Go
set_option linter.unusedVariables false
def Rg (N : Int) (x : St) : Prop := (0 ≤ x.f ∧ x.f ≤ N) ∧ 0 ≤ x.e ∧ x.e ≤ N
/-- Statements stay within. -/
def Kq {α : Type} (N : Int) (r : Rs α) (l : List St) : Prop := (∀ x ∈ l, Rg N x) → ∀ a t, r = .ok a t → ∀ x ∈ t.st, Rg N x
def Rh (N : Int) (E : Env) : Prop := (∀ s, 0 ≤ hr E s ∧ hr E s ≤ N) ∧ ∀ s, 0 ≤ pe E s ∧ pe E s ≤ N
section
variable {E : Env} {α β : Type} {N : Int}
theorem Kq.ok {x : α} {s : PS} : Kq N (.ok x s) s.st := fun h a t e => by cases e; exact h
theorem Kq.out {l : List St} : Kq N (.out : Rs α) l := fun h a t e => by cases e
theorem Kq.er {l : List St} {c : Int} {s : PS} (hc : c = 3 ∨ c = 4 ∨ c = 5) : Kq N (Sy.er E c s : Rs α) l := fun h a t e => by cases e
theorem Kq.bind {l : List St} {r : Rs α} {g : α → PS → Rs β} (h : Kq N r l) (k : ∀ x s, Kq N (g x s) s.st) : Kq N (r.bind g) l := by
  intro hl a t e
  obtain ⟨x, s, e1, e2⟩ := bind_inv e
  exact k x s (h hl x s e1) a t e2
theorem Kq.want {w : List Int} {s : PS} : Kq N (want E w s) s.st := fun h a t e => by
  unfold Sy.want at e; split at e <;> cases e; exact h
theorem Kq.knd {k : Int} {s : PS} : Kq N (knd E k s) s.st := fun h a t e => by
  unfold Sy.knd at e; split at e <;> cases e; exact h
theorem Kq.deep {d : Int} {s : PS} : Kq N (deep E d s) s.st := fun h a t e => by
  unfold Sy.deep at e; split at e <;> cases e; exact h
theorem Kq.put {fr : Int} {x : Ex} {s : PS} : Kq N (put E fr x s) s.st := fun h a t e => by cases e; exact h
theorem Kq.add {fr : Int} {x : St} {s : PS} (hf : 0 ≤ fr ∧ fr ≤ N) (hp : ∀ s, 0 ≤ pe E s ∧ pe E s ≤ N) : Kq N (add E fr x s) s.st := fun h a t e => by
  unfold Sy.add at e
  split at e
  · cases e
  · cases e
    intro y hy
    rcases List.mem_append.1 hy with hy | hy
    · exact h y hy
    · rw [List.mem_singleton] at hy; subst hy; exact ⟨hf, hp s⟩
theorem Kq.endS {fr : Int} {x : St} {s : PS} (hf : 0 ≤ fr ∧ fr ≤ N) (hp : ∀ s, 0 ≤ pe E s ∧ pe E s ≤ N) : Kq N (endS E fr x s) s.st := Kq.bind Kq.want fun _ _ => Kq.add hf hp
end
structure KqL (N : Int) (L : Lv) : Prop where
  row : ∀ v d s, Kq N (L.row v d s) s.st
  rows : ∀ v d fr a s, Kq N (L.rows v d fr a s) s.st
  expr : ∀ d s, Kq N (L.expr d s) s.st
  unary : ∀ d s, Kq N (L.unary d s) s.st
  prim : ∀ d s, Kq N (L.prim d s) s.st
  args : ∀ fr nm d l s, Kq N (L.args fr nm d l s) s.st
  stmts : ∀ d l s, Kq N (L.stmts d l s) s.st
  stmt : ∀ d s, Kq N (L.stmt d s) s.st
  branch : ∀ fr d s, 0 ≤ fr ∧ fr ≤ N → Kq N (L.branch fr d s) s.st
section
variable {E : Env} {L : Lv} {N : Int}
theorem Kq.call (h : KqL N L) {fr : Int} {nm : List Int} {d : Int} {s : PS} : Kq N (call E L fr nm d s) s.st := Kq.bind Kq.want fun _ _ => h.args _ _ _ _ _
theorem Kq.block (h : KqL N L) {d : Int} {s : PS} : Kq N (block E L d s) s.st := by
  refine Kq.bind ?_ fun _ _ => Kq.bind Kq.want fun _ _ => h.stmts _ _ _
  split
  · exact Kq.deep
  · exact Kq.ok
theorem Kq.decl (h : KqL N L) {d : Int} {s : PS} : Kq N (sDecl E L d s) s.st := by
  refine Kq.bind Kq.knd fun _ s1 => ?_
  split
  · exact Kq.bind Kq.knd fun _ _ => Kq.bind Kq.want fun _ _ => Kq.ok
  · exact Kq.bind Kq.want fun _ _ => Kq.bind (h.expr _ _) fun _ _ => Kq.ok
theorem Kq.named (h : KqL N L) {d : Int} {s : PS} : Kq N (sNamed E L d s) s.st := by
  refine Kq.bind Kq.knd fun _ s1 => ?_
  split
  · exact Kq.bind (Kq.call h) fun _ _ => Kq.ok
  split
  · exact Kq.bind (h.expr _ _) fun _ _ => Kq.bind Kq.want fun _ _ => Kq.bind Kq.want fun _ _ => Kq.bind (h.expr _ _) fun _ _ => Kq.ok
  · exact Kq.bind Kq.want fun _ _ => Kq.bind (h.expr _ _) fun _ _ => Kq.ok
theorem kq_step (H : Rh N E) (h : KqL N L) : KqL N (stepL E L) := by
  constructor
  · intro v d s
    show Kq N (sRow E L v d s) s.st
    unfold sRow
    split
    · exact h.unary _ _
    · exact Kq.bind (h.row _ _ _) fun _ _ => h.rows _ _ _ _ _
  · intro v d fr a s
    show Kq N (sRows E L v d fr a s) s.st
    unfold sRows
    split
    · refine Kq.bind (h.row _ _ _) fun _ _ => Kq.bind Kq.put fun _ _ => ?_
      split
      · exact Kq.ok
      · exact h.rows _ _ _ _ _
    · exact Kq.ok
  · intro d s
    exact Kq.bind Kq.deep fun _ _ => h.row _ _ _
  · intro d s
    show Kq N (sUnary E L d s) s.st
    unfold sUnary
    split
    · exact Kq.bind Kq.deep fun _ _ => Kq.bind (h.unary _ _) fun _ _ => Kq.put
    · exact h.prim _ _
  · intro d s
    show Kq N (sPrim E L d s) s.st
    unfold sPrim
    split
    · exact Kq.put
    split
    · exact Kq.put
    split
    · exact Kq.put
    split
    · exact Kq.put
    split
    · exact Kq.bind (h.expr _ _) fun _ _ => Kq.bind Kq.want fun _ _ => Kq.ok
    · refine Kq.bind Kq.knd fun _ _ => ?_
      split
      · exact Kq.bind (h.expr _ _) fun _ _ => Kq.bind Kq.want fun _ _ => Kq.put
      split
      · exact Kq.call h
      · exact Kq.put
  · intro fr nm d l s
    show Kq N (sArgs E L fr nm d l s) s.st
    unfold sArgs
    split
    · exact Kq.put
    · refine Kq.bind ?_ fun _ _ => Kq.bind (h.expr _ _) fun _ _ => ?_
      · split
        · exact Kq.ok
        · exact Kq.want
      · split
        · exact h.args _ _ _ _ _
        · exact Kq.er (.inl rfl)
  · intro d l s
    show Kq N (sStmts E L d l s) s.st
    unfold sStmts
    split
    · exact Kq.ok
    · exact Kq.bind (h.stmt _ _) fun _ _ => h.stmts _ _ _
  · intro d s
    show Kq N (sStmt E L d s) s.st
    unfold sStmt
    split
    · exact Kq.bind (Kq.decl h) fun _ _ => Kq.endS (H.1 s) H.2
    split
    · exact h.branch _ _ _ (H.1 s)
    split
    · exact Kq.bind (h.expr _ _) fun _ _ => Kq.bind (Kq.block h) fun _ _ => Kq.add (H.1 s) H.2
    split
    · exact Kq.endS (H.1 s) H.2
    split
    · exact Kq.endS (H.1 s) H.2
    split
    · split
      · exact Kq.endS (H.1 s) H.2
      · exact Kq.bind (h.expr _ _) fun _ _ => Kq.endS (H.1 s) H.2
    split
    · exact Kq.bind (h.expr _ _) fun _ _ => Kq.endS (H.1 s) H.2
    · exact Kq.bind (Kq.named h) fun _ _ => Kq.endS (H.1 s) H.2
  · intro fr d s hfr
    refine Kq.bind (h.expr _ _) fun _ _ => Kq.bind (Kq.block h) fun _ _ => ?_
    split
    · split
      · exact Kq.bind Kq.deep fun _ _ => Kq.bind (h.branch _ _ _ (H.1 _)) fun _ _ => Kq.add hfr H.2
      · exact Kq.bind (Kq.block h) fun _ _ => Kq.add hfr H.2
    · exact Kq.add hfr H.2
theorem kq_lv (H : Rh N E) : ∀ n, KqL N (lv E n)
  | 0 => ⟨fun _ _ _ => Kq.out, fun _ _ _ _ _ => Kq.out, fun _ _ => Kq.out, fun _ _ => Kq.out, fun _ _ => Kq.out, fun _ _ _ _ _ => Kq.out, fun _ _ _ => Kq.out, fun _ _ => Kq.out, fun _ _ _ _ => Kq.out⟩
  | n + 1 => kq_step H (kq_lv H n)
end
section
variable {E : Env} {N : Int}
theorem fct_rg (H : Rh N E) {n : Nat} {s t : PS} {x : Unit} (e : fct E n s = .ok x t) (h : ∀ x ∈ s.st, Rg N x) : ∀ x ∈ t.st, Rg N x := by
  obtain ⟨hl, nm, s2, s3, ps, s4, ty, s5, bd, s6, h2, h3, h4, h5, q, h6, rfl⟩ := fct_inv e
  have k2 := Kq.knd (N := N) (s := adv s) h _ _ h2
  have k3 := Kq.want (N := N) k2 _ _ h3
  have k4 : ∀ n l s x t, prms E n l s = .ok x t → t.st = s.st := by
    intro n
    induction n with
    | zero => intro l s x t h; cases h
    | succ n ih =>
      intro l s x t h
      unfold prms at h
      split at h
      · cases h; rfl
      · obtain ⟨_, s1, h1, h2⟩ := bind_inv h
        obtain ⟨_, s2, h3, h4⟩ := bind_inv h2
        have e1 : s1.st = s.st := by
          split at h1
          · cases h1; rfl
          · unfold want at h1; split at h1 <;> cases h1; rfl
        have e2 : s2.st = s1.st := by unfold knd at h3; split at h3 <;> cases h3; rfl
        split at h4
        · rw [ih _ _ _ _ h4, e2, e1]
        · cases h4
  have e4 := k4 _ _ _ _ _ h4
  have e5 : s5.st = s4.st := by rcases h5 with ⟨_, _, rfl⟩ | ⟨_, _, rfl⟩ <;> rfl
  have k6 := Kq.block (kq_lv H n) (by rw [e5, e4]; exact k3) _ _ h6
  exact k6
theorem fcts_rg (H : Rh N E) {m : Nat} : ∀ n s x t, fcts E m n s = .ok x t → (∀ x ∈ s.st, Rg N x) → ∀ x ∈ t.st, Rg N x := by
  intro n
  induction n with
  | zero => intro s x t h; cases h
  | succ n ih =>
    intro s x t h hs
    unfold fcts at h
    split at h
    · cases h; exact hs
    · obtain ⟨_, s1, h1, h2⟩ := bind_inv h
      exact ih _ _ _ h2 (fct_rg H h1 hs)
end
/-- The spans of a program's statements. -/
theorem prs_rg {L : List Int} {S : PS} (h : prs L = .ok () S) : ∀ x ∈ S.st, Rg L.length x := by
  unfold prs at h
  split at h
  · cases h
  · refine fcts_rg ⟨fun s => ?_, fun s => ?_⟩ _ _ _ _ h (fun x hx => by cases hx)
    · unfold hr
      split
      · rename_i t ht
        have := Tk.all_bounds (L := L) (t := t) (List.mem_of_getElem? ht)
        omega
      · omega
    · unfold pe
      split
      · rename_i t ht
        have := Tk.all_bounds (L := L) (t := t) (List.mem_of_getElem? ht)
        omega
      · omega
end Go.Proofs.YtgnkdeapifbgeaaDoor.Sy
