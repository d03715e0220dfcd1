/- What the proofs of this seat lean on, part 4. -/
import Derived.Test.YtfnbgbeinmekgaaGreatDoorPd3
import Derived.Recover
namespace Go.Proofs.YtfnbgbeinmekgaaGreatDoor.Fw
open Go Go.RowKit
set_option linter.unusedVariables false
/-- The post of a call that returns as R says, or panics as F says. -/
def eP (R : Value → World → Prop) (F : List PanicEntry → World → Prop) : Ending → World → Prop
  | .returned v, w => R v w
  | .panicked c, w => F c w
  | .outgrown, _ => False
def RetP (P : Program) (f : FuncId) (args : List Value) (w : World) (R : Value → World → Prop) (F : List PanicEntry → World → Prop) : Prop := Calls P f args.toArray w (eP R F)
theorem eP_mono {R R' : Value → World → Prop} {F F' : List PanicEntry → World → Prop} (hr : ∀ v w', R v w' → R' v w') (hf : ∀ c w', F c w' → F' c w') : ∀ e w, eP R F e w → eP R' F' e w := by
  intro e w h
  cases e with
  | returned v => exact hr v w h
  | panicked c => exact hf c w h
  | outgrown => exact h
theorem RetP.mono {P : Program} {f : FuncId} {args : List Value} {w : World} {R R' : Value → World → Prop} {F F' : List PanicEntry → World → Prop} (h : RetP P f args w R F) (hr : ∀ v w', R v w' → R' v w') (hf : ∀ c w', F c w' → F' c w') : RetP P f args w R' F' :=
  Calls.mono h (eP_mono hr hf)
theorem RetP.ret {P : Program} {f : FuncId} {args : List Value} {w : World} {R : Value → World → Prop} {F : List PanicEntry → World → Prop} (h : RetP P f args w R F) (hF : ∀ c w, ¬ F c w) : Ret P f args w R :=
  Calls.mono h fun e w' r => by
    cases e with
    | returned v => exact ⟨v, rfl, r⟩
    | panicked c => exact (hF _ _ r).elim
    | outgrown => exact r.elim
def FinP (P : Program) (fn : Func) (R : Value → World → Prop) (F : List PanicEntry → World → Prop) : Pst P := .base (bodyPost P fn (eP R F))
theorem retP_enter {P : Program} {f : FuncId} {fn : Func} {c : Code} {args : List Value} {w : World} {R : Value → World → Prop} {F : List PanicEntry → World → Prop} {n : Nat}
    (hf : P.funcs[f]? = some fn) (hb : fn.body = some c) (hn : fn.ntmps = n) (hl : Nat.ble args.length n = true)
    (h : Wc P c (FinP P fn R F) n (enum 0 args) [] w) : RetP P f args w R F := by
  refine calls_of_wp hf hb ?_
  rw [hn, fr_init args n (Nat.le_of_ble_eq_true hl)]
  exact h.up
section
variable {P : Program} {fn : Func} {n : Nat} {l : Slots} {w : World} {v v' : Value} {R : Value → World → Prop} {F : List PanicEntry → World → Prop} {t u : Tmp}
theorem postP_ret (hr : (results fn (fr n l)).run P w = .ok v w) (h : R v w) : Po (FinP P fn R F) .ret n l [] w := ⟨⟨rfl, v, hr, h⟩⟩
theorem postP_end (hr : (results fn (fr n l)).run P w = .ok v w) (h : R v w) : Po (FinP P fn R F) .normal n l [] w := ⟨⟨rfl, v, hr, h⟩⟩
theorem retP_1 (hr : fn.results = #[.tmp t]) (hv : mvv (lk n l t) = some v) (h : R v w) : Po (FinP P fn R F) .ret n l [] w := postP_ret (res_tmp hr (mvv_eq hv)) h
theorem endP_0 (hr : fn.results = #[]) (h : R (.tuple #[]) w) : Po (FinP P fn R F) .normal n l [] w := postP_end (by rw [results_none hr]) h
end
/-- A panic goes through to the function's end. -/
class Pn {P : Program} (q : Pst P) (ds : List Deferred) (F : outParam (List PanicEntry → World → Prop)) : Prop where
  out : ∀ c a w, a.defers = ds → F c w → q.den (.panic c) a w
section
variable {P : Program} {fn : Func} {R : Value → World → Prop} {F : List PanicEntry → World → Prop} {q : Pst P} {ds : List Deferred}
instance : Pn (FinP P fn R F) [] F := ⟨fun c a w hd h => ⟨hd, h⟩⟩
instance {y : Code} [h : Pn q ds F] : Pn (.sq y q) ds F := ⟨fun c a w hd hf => h.out c a w hd hf⟩
instance {i : Nat} [h : Pn q ds F] : Pn (.bk i q) ds F := ⟨fun c a w hd hf => h.out c a w hd hf⟩
instance {K : Act → World → Prop} [h : Pn q ds F] : Pn (.lp K q) ds F := ⟨fun c a w hd hf => h.out c a w hd hf⟩
end
section
variable {P : Program} {w : World} {q : Pst P} {n : Nat} {l : Slots} {ds : List Deferred} {rest : List Oper} {ops : Array Oper} {d : Nat} {op : Op} {ty : TypeId} {pos : String} {af : Array Edge} {F F' : List PanicEntry → World → Prop}
theorem s_enterP {f : FuncId} {vs : List Value} {R : Value → World → Prop} (hr : Rn P (ev n l) ⟨some d, op, ty, pos, af, none⟩ w (.ok (.enter f vs.toArray) w)) (hc : RetP P f vs w R F')
    (hp : ∀ c w1, F' c w1 → q.den (.panic c) (A n l ds) w1)
    (h : ∀ v w1, R v w1 → Wl P ops q rest n ((d, v) :: l) ds w1) : Wl P ops q (⟨some d, op, ty, pos, af, none⟩ :: rest) n l ds w := by
  refine ⟨wpList_plain rfl fun K hK => ?_⟩
  unfold Oper.wp
  rw [eval_A, hr.eq, Oper.upon_enter]
  refine Calls.mono hc ?_
  intro e w1 he
  cases e with
  | returned v =>
    simp only [put_A]
    exact hK _ _ (h _ _ he).up
  | panicked c => exact hp c w1 he
  | outgrown => exact he.elim
theorem s_callP [hq : Pn q ds F] {f : FuncId} {c : Operand} {xs : List Operand} {vs us zs : List Value} {ats : Array TypeId} {R : Value → World → Prop} (hf : callOk P f = true) (hcv : ev n l c = .func (.func f) us.toArray zs.toArray) (hxs : evs (ev n l) xs = some vs)
    (hc : RetP P f (us ++ vs ++ zs) w R F') (hp : ∀ c w1, F' c w1 → F c w1) (h : ∀ v w1, R v w1 → Wl P ops q rest n ((d, v) :: l) ds w1) :
    Wl P ops q (⟨some d, .call ⟨.value c, xs.toArray, ats⟩, ty, pos, af, none⟩ :: rest) n l ds w :=
  s_enterP (run_call hf hcv hxs) hc (fun c w1 h1 => hq.out c _ w1 rfl (hp c w1 h1)) h
/-- A call that panics. -/
theorem s_callX [hq : Pn q ds F] {f : FuncId} {c : Operand} {xs : List Operand} {vs us zs : List Value} {ats : Array TypeId} (hf : callOk P f = true) (hcv : ev n l c = .func (.func f) us.toArray zs.toArray) (hxs : evs (ev n l) xs = some vs)
    (hc : RetP P f (us ++ vs ++ zs) w (fun _ _ => False) F') (hp : ∀ c w1, F' c w1 → F c w1) :
    Wl P ops q (⟨some d, .call ⟨.value c, xs.toArray, ats⟩, ty, pos, af, none⟩ :: rest) n l ds w :=
  s_callP hf hcv hxs hc hp fun _ _ h => h.elim
/-- A throw. -/
theorem s_panic [hq : Pn q ds F] {x : Operand} {t : TypeId} {v : Value} {d' : Option Nat} (hx : mvv (ev n l x) = some (.iface t v)) (h : F [{ v := .iface t v, recovered := false }] w) :
    Wl P ops q (⟨d', .panic x, ty, pos, af, none⟩ :: rest) n l ds w := by
  refine ⟨wpList_plain rfl fun K hK => ?_⟩
  unfold Oper.wp
  have e : (execOp (A n l ds).eval ⟨d', .panic x, ty, pos, af, none⟩).run P w = .halt (.panic (.iface t v)) w := by
    rw [eval_A]
    simp only [execOp, mvv_eq hx]
    rfl
  rw [e, Oper.upon_panic]
  exact hq.out _ _ w rfl h
end
end Go.Proofs.YtfnbgbeinmekgaaGreatDoor.Fw
namespace Go.Proofs.YtfnbgbeinmekgaaGreatDoor.Fw
open Go Go.RowKit
set_option linter.unusedVariables false
section
variable {P : Program} {ops : Array Oper} {S : World → Prop} {z : Nat}
theorem wpL_of_P {Q : Exit → Act → World → Prop} (hz : Waits ops z) (hs : Region.noSelect ops = true) (hQ : ∀ c a d v w, Q (.panic c) (a.put d v) w → Q (.panic c) a w) : ∀ (ord : List (Nat × Bool)) (L : List (Nat × Bool × Oper)) (listed : Array Bool) (a : Act) (w : World),
    Dc ops listed → okOrd ops ord listed = true → L.map (fun x => (x.1, x.2.1)) = ord → (∀ x ∈ L, ops[x.1]? = some x.2.2) → wpO P ops Q S z L a w → wpL P ops Q S z L.length listed a w := by
  intro ord
  induction ord with
  | nil =>
    intro L listed a w hd ho hL hops h
    have : L = [] := by simpa using hL
    subst this
    exact ⟨by simpa [okOrd] using ho, h⟩
  | cons x ord ih =>
    intro L listed a w hd ho hL hops h
    cases L with
    | nil => simp at hL
    | cons y L =>
      obtain ⟨i, noisy, o⟩ := y
      simp only [List.map_cons, List.cons.injEq] at hL
      obtain ⟨rfl, hL⟩ := hL
      have hoi : ops[i]? = some o := hops _ (List.mem_cons_self ..)
      have hops' : ∀ x ∈ L, ops[x.1]? = some x.2.2 := fun x hx => hops x (List.mem_cons_of_mem _ hx)
      simp only [okOrd, Bool.and_eq_true] at ho
      obtain ⟨ho1, ho2⟩ := ho
      cases noisy with
      | true =>
        simp only at ho1
        have hr : Region.ready .any ops listed = [i] := by
          split at ho1
          · rename_i j hj; have := Nat.eq_of_beq_eq_true ho1; subst this; exact hj
          · cases ho1
        have hmem : i ∈ Region.ready .any ops listed := by rw [hr]; exact List.mem_singleton.2 rfl
        refine ⟨fun e => (by rw [hr] at e; cases e), fun j hj => ?_⟩
        rw [hr] at hj
        have := List.mem_singleton.1 hj
        subst this
        unfold wpOp
        simp only [hoi]
        unfold wpO at h
        split
        · rename_i hw
          rw [if_pos hw] at h
          refine .inl ?_
          unfold Oper.wp Oper.upon at *
          revert h
          generalize (execOp a.eval o).run P w = r
          intro h
          cases r with
          | ok nx w' =>
            cases nx with
            | value u => exact ⟨h.1, ih L _ _ _ (hd.step hmem) ho2 hL hops' h.2⟩
            | skip => exact ⟨h.1, ih L _ _ _ (hd.step hmem) ho2 hL hops' h.2⟩
            | defer d => exact ⟨h.1, ih L _ _ _ (hd.step hmem) ho2 hL hops' h.2⟩
            | enter f args =>
              refine Calls.mono h fun e w'' he => ?_
              cases e with
              | returned u => exact ⟨he.1, ih L _ _ _ (hd.step hmem) ho2 hL hops' he.2⟩
              | panicked c => exact he
              | outgrown => exact he
            | row row args => exact Rows.mono h fun u w'' he => ⟨he.1, ih L _ _ _ (hd.step hmem) ho2 hL hops' he.2⟩
            | _ => exact h
          | halt x w' => cases x <;> simp only at h ⊢ <;> exact h
        · rename_i hw
          rw [if_neg hw] at h
          exact ⟨fun _ => h.1, ih L _ _ _ (hd.step hmem) ho2 hL hops' h.2⟩
      | false =>
        simp only [Bool.and_eq_true] at ho1
        obtain ⟨hf, hc⟩ := ho1
        obtain ⟨hS, v, hy, h⟩ := h
        have hmem : i ∈ Region.ready .any ops listed := by simpa using hc
        exact wpL_first hz hoi (Region.noSelect_spec hs) (fun c a w h => hQ c _ _ _ w h) L.length listed a w hd (Region.free_spec hoi hf) hmem hy hS (ih L _ _ _ (hd.step hmem) ho2 hL hops' h)
theorem wpO_mono {Q Q' : Exit → Act → World → Prop} (hQ : ∀ e a w, Q e a w → Q' e a w) : ∀ (L : List (Nat × Bool × Oper)) (a : Act) (w : World), wpO P ops Q S z L a w → wpO P ops Q' S z L a w := by
  intro L
  induction L with
  | nil => intro a w h; exact hQ _ _ _ h
  | cons x L ih =>
    intro a w h
    obtain ⟨i, noisy, o⟩ := x
    cases noisy with
    | false =>
      obtain ⟨hS, v, hy, h⟩ := h
      exact ⟨hS, v, hy, ih _ _ h⟩
    | true =>
      unfold wpO at h ⊢
      split
      · rename_i hw
        rw [if_pos hw] at h
        unfold Oper.wp Oper.upon at *
        revert h
        generalize (execOp a.eval o).run P w = r
        intro h
        cases r with
        | ok nx w' =>
          cases nx with
          | value u => exact ⟨h.1, ih _ _ h.2⟩
          | skip => exact ⟨h.1, ih _ _ h.2⟩
          | defer d => exact ⟨h.1, ih _ _ h.2⟩
          | enter f args =>
            refine Calls.mono h fun e w'' he => ?_
            cases e with
            | returned u => exact ⟨he.1, ih _ _ he.2⟩
            | panicked c => exact hQ _ _ _ he
            | outgrown => exact (let ⟨a, w, h⟩ := (show LetsOut Q from he); (show LetsOut Q' from ⟨a, w, hQ _ _ _ h⟩))
          | row row args => exact Rows.mono h fun u w'' he => ⟨he.1, ih _ _ he.2⟩
          | _ => exact h
        | halt x w' => cases x <;> simp only at h ⊢ <;> first | exact hQ _ _ _ h | exact h
      · rename_i hw
        rw [if_neg hw] at h
        exact ⟨h.1, ih _ _ h.2⟩
end
/-- A panic's post doesn't look at slots. -/
class Pi {P : Program} (q : Pst P) : Prop where
  out : ∀ c a d v w, q.den (.panic c) (a.put d v) w → q.den (.panic c) a w
section
variable {P : Program} {fn : Func} {R : Value → World → Prop} {F : List PanicEntry → World → Prop} {q : Pst P}
instance : Pi (FinP P fn R F) := ⟨fun c a d v w h => by
  obtain ⟨h1, h2⟩ := h
  exact ⟨by cases d <;> exact h1, h2⟩⟩
instance {y : Code} [h : Pi q] : Pi (.sq y q) := ⟨fun c a d v w hd => h.out c a d v w hd⟩
instance {i : Nat} [h : Pi q] : Pi (.bk i q) := ⟨fun c a d v w hd => h.out c a d v w hd⟩
instance {K : Act → World → Prop} [h : Pi q] : Pi (.lp K q) := ⟨fun c a d v w hd => h.out c a d v w hd⟩
end
/-- As Wo, with calls that may panic. -/
structure Wv (P : Program) (ops : Array Oper) (q : Pst P) (S : World → Prop) (z : Nat) (L : List (Nat × Bool × Oper)) (n : Nat) (l : Slots) (ds : List Deferred) (w : World) : Prop where
  up : wpO P ops q.den S z L (A n l ds) w
section
variable {P : Program} {w : World} {n : Nat} {l : Slots} {ds : List Deferred} {S : World → Prop} {z : Nat} {q : Pst P}
theorem k_hP [hp : Pi q] {i : Nat} {os : List Oper} (S : World → Prop) (ord : List (Nat × Bool)) {L : List (Nat × Bool × Oper)} (z : Nat) (hm : P.follows .mixedOrders = true) (hz : Waits os.toArray z) (hs : Region.noSelect os.toArray = true)
    (ho : okOrd os.toArray ord (Array.replicate os.toArray.size false) = true) (hn : Nat.beq ord.length os.length = true) (hL : ordL os ord = some L) (hw : ∀ w1, Kp No w w1 → w1.heap = w.heap → Wv P os.toArray q S z L n l ds w1) : Wc P (.region i os.toArray true) q n l ds w := by
  refine ⟨wp_region_any hm (wpAny_of_L (S := S) (z := z) _ _ _ _ ?_)⟩
  obtain ⟨h1, h2⟩ := ordL_map hL
  have hn' := Nat.eq_of_beq_eq_true hn
  have hlen : L.length = os.toArray.size := by rw [← h1] at hn'; simpa using hn'
  have := wpL_of_P hz hs hp.out ord L _ _ _ (Dc.start _) ho h1 (fun x hx => by simpa using h2 x hx) (hw w.drew (Kp.drew w) rfl).up
  rw [hlen] at this
  exact this
variable {ty : TypeId} {pos : String} {af : Array Edge} {v : Value} {rest : List (Nat × Bool × Oper)} {ops : Array Oper} {d i : Nat} {op : Op} {F F' : List PanicEntry → World → Prop}
theorem v_o (h : Wo P ops q S z rest n l ds w) : Wv P ops q S z rest n l ds w := ⟨wpO_mono (fun e a w h => by cases e <;> first | exact h | exact (h : False).elim) _ _ _ h.up⟩
theorem v_v (hS : S w) (hr : ∀ w, S w → Rn P (ev n l) ⟨some d, op, ty, pos, af, none⟩ w (.ok (.value v) w)) (h : Wv P ops q S z rest n ((d, v) :: l) ds w) :
    Wv P ops q S z ((i, false, ⟨some d, op, ty, pos, af, none⟩) :: rest) n l ds w := by
  refine ⟨hS, v, .inl ⟨by simp [Region.wanted], fun w hw => by rw [eval_A]; exact (hr w hw).eq⟩, ?_⟩
  rw [put_A]; exact h.up
theorem v_call [hq : Pn q ds F] {f : FuncId} {c : Operand} {xs : List Operand} {vs us zs : List Value} {ats : Array TypeId} {R : Value → World → Prop} (hf : callOk P f = true) (hcv : ev n l c = .func (.func f) us.toArray zs.toArray) (hxs : evs (ev n l) xs = some vs)
    (hc : RetP P f (us ++ vs ++ zs) w R F') (hp : ∀ c w1, F' c w1 → F c w1) (h : ∀ v w1, R v w1 → (i ≠ z → S w1) ∧ Wo P ops q S z rest n ((d, v) :: l) ds w1) :
    Wv P ops q S z ((i, true, ⟨some d, .call ⟨.value c, xs.toArray, ats⟩, ty, pos, af, none⟩) :: rest) n l ds w := by
  refine ⟨?_⟩
  unfold wpO
  rw [if_pos (by simp [Region.wanted])]
  unfold Oper.wp
  rw [eval_A, (run_call hf hcv hxs).eq, Oper.upon_enter]
  refine Calls.mono hc ?_
  intro e w1 he
  cases e with
  | returned v =>
    simp only [put_A]
    exact ⟨(h _ _ he).1, (v_o (h _ _ he).2).up⟩
  | panicked c => exact hq.out c _ w1 rfl (hp c w1 he)
  | outgrown => exact he.elim
end
end Go.Proofs.YtfnbgbeinmekgaaGreatDoor.Fw
