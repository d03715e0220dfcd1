/- Own walk lemmas over any program: a deferred call that recovers. -/
import Derived.Test.YtgnkdeapifbgeaaDoorRp
namespace Go.Proofs.YtgnkdeapifbgeaaDoor.Fw
open Go Go.RowKit
set_option linter.unusedVariables false
/-- The post of a function that defers. -/
def FinD (P : Program) (fn : Func) (R : Value → World → Prop) : Pst P := .base (bodyPostD P fn fun e w' => ∃ v, e = .returned v ∧ R v w')
theorem retD_enter {P : Program} {f : FuncId} {fn : Func} {c : Code} {args : List Value} {w : World} {R : Value → World → Prop} {n : Nat}
    (hf : P.funcs[f]? = some fn) (hb : fn.body = some c) (hn : fn.ntmps = n) (hl : Nat.ble args.length n = true)
    (h : Wc P c (FinD P fn R) n (enum 0 args) [] w) : Ret P f args w R := by
  refine calls_of_wp_defers hf hb ?_
  rw [hn, fr_init args n (Nat.le_of_ble_eq_true hl)]
  exact h.up
section
variable {P : Program} {w : World} {n : Nat} {l : Slots} {fn : Func} {R : Value → World → Prop} {ds : List Deferred}
/-- Nothing was deferred. -/
theorem retD_0 {v : Value} (hr : (results fn (fr n l)).run P w = .ok v w) (h : R v w) : Po (FinD P fn R) .ret n l [] w := ⟨⟨v, hr, v, rfl, h⟩⟩
/-- One closure was deferred: at a return. -/
theorem retD_1 {f : FuncId} {zs : List Value} {K : Ending → FrameMode → World → Prop} (hf : callOk P f = true) (hc : CallsD P f zs.toArray .returning w K)
    (h : ∀ e u w1, K e u w1 → (∃ v, e = .returned v) ∧ settle u = .returning ∧ ∃ v, (results fn (fr n l)).run P w1 = .ok v w1 ∧ R v w1) :
    Po (FinD P fn R) .ret n l [⟨.fn (.func f) zs.toArray, #[]⟩] w := by
  refine ⟨leaves_cons (by simp) (by simp only [invoke]; rw [run_callFunc hf, Array.empty_append]) (hc.mono ?_)⟩
  intro e u w1 hK
  obtain ⟨⟨v, rfl⟩, hu, v', hr, hR⟩ := h e u w1 hK
  simp only [hu]
  exact ⟨v', hr, v', rfl, hR⟩
/-- One closure was deferred: at a panic. -/
theorem panicD_1 {f : FuncId} {zs : List Value} {K : Ending → FrameMode → World → Prop} {c : List PanicEntry} (hf : callOk P f = true) (hc : CallsD P f zs.toArray (.panicking c) w K)
    (h : ∀ e u w1, K e u w1 → (∃ v, e = .returned v) ∧ settle u = .returning ∧ ∃ v, (results fn (fr n l)).run P w1 = .ok v w1 ∧ R v w1) :
    (FinD P fn R).den (.panic c) (A n l [⟨.fn (.func f) zs.toArray, #[]⟩]) w := by
  refine leaves_cons (by simp) (by simp only [invoke]; rw [run_callFunc hf, Array.empty_append]) (hc.mono ?_)
  intro e u w1 hK
  obtain ⟨⟨v, rfl⟩, hu, v', hr, hR⟩ := h e u w1 hK
  simp only [hu]
  exact ⟨v', hr, v', rfl, hR⟩
variable {q : Pst P} {rest : List Oper} {ops : Array Oper} {ty : TypeId} {pos : String} {af : Array Edge}
theorem s_defer {f : FuncId} {zs : List Value} {c : Operand} {ats : Array TypeId} (hcv : ev n l c = .func (.func f) #[] zs.toArray)
    (h : Wl P ops q rest n l (⟨.fn (.func f) zs.toArray, #[]⟩ :: ds) w) : Wl P ops q (⟨none, .defer ⟨.value c, #[], ats⟩, ty, pos, af, none⟩ :: rest) n l ds w := by
  refine ⟨wpList_plain rfl fun K hK => ?_⟩
  unfold Oper.wp
  have e : (execOp (A n l ds).eval ⟨none, .defer ⟨.value c, #[], ats⟩, ty, pos, af, none⟩).run P w = .ok (.defer ⟨.fn (.func f) zs.toArray, #[]⟩) w := by
    rw [eval_A]
    simp only [execOp, resolve, hcv, Deferred.ofValue]
    simp
  rw [e, Oper.upon_defer]
  exact hK _ _ h.up
end
/-! ### the closure that recovers -/
section
variable {P : Program} {cs cs' : List Frame} {w : World} {n : Nat} {l : Slots} {ds : List Deferred}
theorem wpOpsS_of {ops : Array Oper} {Q : Exit → Act → List Frame → World → Prop} (hL : ¬ LetsOut (fun e a w => Q e a cs w)) : ∀ (L : List Nat) (a : Act) (w : World), wpOps P ops (fun e a w => Q e a cs w) L a w → wpOpsS P ops Q L a cs w := by
  intro L
  induction L with
  | nil => intro a w h; exact h
  | cons i L ih =>
    intro a w h
    unfold wpOpsS
    unfold wpOps at h
    cases ho : ops[i]? with
    | none => rw [ho] at h; exact ih _ _ h
    | some o =>
      rw [ho] at h
      simp only at h ⊢
      split
      · rename_i hw
        rw [if_pos hw] at h
        rcases h with h | h
        · have h2 := Oper.wp_mono (fun a w h => ih a w h) h
          unfold Oper.wp at h2
          generalize (execOp a.eval o).run P w = r at h2
          split
          · exact h2.elim
          · exact h2
        · exact (hL h.2).elim
      · rename_i hw
        rw [if_neg hw] at h
        exact ih _ _ h
theorem wpList_mono {ops : Array Oper} {Q Q' : Exit → Act → World → Prop} (hQ : ∀ e a w, Q e a w → Q' e a w) : ∀ (L : List Oper) (a : Act) (w : World), wpList P ops Q L a w → wpList P ops Q' L a w := by
  intro L
  induction L with
  | nil => intro a w h; exact hQ _ _ _ h
  | cons o L ih =>
    intro a w h
    unfold wpList at h ⊢
    split
    · rename_i hw
      rw [if_pos hw] at h
      rcases h with h | ⟨h1, ⟨a', w', h2⟩⟩
      · refine .inl ?_
        unfold Oper.wp Oper.upon at *
        revert h
        generalize (execOp a.eval o).run P w = r
        intro h
        cases r with
        | ok nx w' =>
          cases nx with
          | value u => exact ih _ _ h
          | skip => exact ih _ _ h
          | defer d => exact ih _ _ h
          | enter f args =>
            refine Calls.mono h fun e w'' he => ?_
            cases e with
            | returned u => exact ih _ _ he
            | panicked c => exact hQ _ _ _ he
            | outgrown => exact (let ⟨a, w, h⟩ := (show LetsOut Q from he); (show LetsOut Q' from ⟨a, w, hQ _ _ _ h⟩))
          | row row args => exact Rows.mono h fun u w'' he => ih _ _ he
          | _ => exact h
        | halt x w' => cases x <;> simp only at h ⊢ <;> first | exact hQ _ _ _ h | exact h
      · exact .inr ⟨h1, a', w', hQ _ _ _ h2⟩
    · rename_i hw
      rw [if_neg hw] at h
      exact ih _ _ h
/-- A region whose first operation recovers. -/
theorem rec_region {i d : Nat} {os : List Oper} {y : Code} {Q : Exit → Act → List Frame → World → Prop} {v : Value} {ats : Array TypeId} {ty : TypeId} {pos : String} {af : Array Edge} (hrec : recoverD cs = some (v, cs') ∨ (recoverD cs = none ∧ cs' = cs ∧ v = .nilIface))
    (hL : ∀ cs, ¬ LetsOut (fun e a w => Q e a cs w))
    (h : Wl P (⟨some d, .call ⟨.builtin .recover, #[], ats⟩, ty, pos, af, none⟩ :: os).toArray (.base fun e a w => Exit.thenS (fun a cs w => y.wp P (fun e a w => Q e a cs w) a w) Q e a cs' w) os n ((d, v) :: l) ds w) :
    (Code.seq (.region i (⟨some d, .call ⟨.builtin .recover, #[], ats⟩, ty, pos, af, none⟩ :: os).toArray false) y).wpS P Q (A n l ds) cs w := by
  refine wpS_seq (wpS_region ?_)
  have hr : List.range (⟨some d, .call ⟨.builtin .recover, #[], ats⟩, ty, pos, af, none⟩ :: os).toArray.size = 0 :: List.range' 1 os.length := by
    simp [List.range_eq_range', List.range'_succ]
  rw [hr]
  unfold wpOpsS
  simp only [List.getElem?_toArray, List.getElem?_cons_zero]
  rw [if_pos (by simp [Region.wanted])]
  have e : (execOp (A n l ds).eval ⟨some d, .call ⟨.builtin .recover, #[], ats⟩, ty, pos, af, none⟩).run P w = .ok .recover w := by
    simp only [execOp, resolve, invoke]
    rfl
  rw [e]
  simp only
  have hL' : ¬ LetsOut (fun e a w => Exit.thenS (y.wpS P Q) Q e a cs' w) := fun ⟨a, w, hq⟩ => hL cs' ⟨a, w, hq⟩
  have key : wpOpsS P (⟨some d, .call ⟨.builtin .recover, #[], ats⟩, ty, pos, af, none⟩ :: os).toArray (Exit.thenS (y.wpS P Q) Q) (List.range' 1 os.length) (A n ((d, v) :: l) ds) cs' w := by
    refine wpOpsS_of hL' _ _ _ ?_
    rw [wpOps_eq_wpList os 1 (fun j => by simp [Nat.add_comm 1 j])]
    refine wpList_mono ?_ _ _ _ h.up
    intro e a w hq
    cases e with
    | normal => exact wpS_of_wp hq
    | ret => exact hq
    | exit i => exact hq
    | goto i => exact hq
    | panic c => exact hq
    | outgrown => exact hq
  rcases hrec with hrec | ⟨hrec, rfl, rfl⟩
  · rw [hrec]; simp only [put_A]; exact key
  · rw [hrec]; simp only [put_A]; exact key
theorem rec_nil {y : Code} {Q : Exit → Act → List Frame → World → Prop} (h : Wc P y (.base fun e a w => Q e a cs' w) n l ds w) :
    Po (P := P) (.base fun e a w => Exit.thenS (fun a cs w => y.wp P (fun e a w => Q e a cs w) a w) Q e a cs' w) .normal n l ds w := ⟨h.up⟩
theorem postS {fn : Func} {c₀ : Frame} {R : Ending → FrameMode → World → Prop} {u : FrameMode} {v : Value} (hr : (results fn (fr n l)).run P w = .ok v w) (h : R (.returned v) u w) :
    Po (P := P) (.base fun e a w => bodyPostS P fn c₀ cs R e a ({ c₀ with mode := u } :: cs) w) .normal n l [] w := ⟨⟨rfl, u, rfl, v, hr, h⟩⟩
end
end Go.Proofs.YtgnkdeapifbgeaaDoor.Fw
