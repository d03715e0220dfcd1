/- Own walk lemmas over any program: a region that draws its order and makes or changes memory, walked in one order that its edges allow. -/
import Derived.Test.YtlkipdfipaipbaaDoorFt
import Derived.OrdersHeld
namespace Go.Proofs.YtlkipdfipaipbaaDoor.Fw
open Go Go.RowKit
set_option linter.unusedSimpArgs false
set_option linter.unusedVariables false
section
variable {P : Program} {ops : Array Oper} {Q : Exit → Act → World → Prop} {S : World → Prop} {z : Nat}
/-- What has come up is behind what it waits for. -/
def Dc (ops : Array Oper) (listed : Array Bool) : Prop := ∀ j o, ops[j]? = some o → listed.getD j true = true → ∀ e ∈ o.after, Region.binds .any e = true → listed.getD e.on false = true
theorem Dc.start (ops : Array Oper) : Dc ops (Array.replicate ops.size false) := by
  intro j o hj h
  have hlt : j < ops.size := (Array.getElem?_eq_some_iff.1 hj).1
  simp [hlt] at h
theorem Dc.step {listed : Array Bool} {i : Nat} (h : Dc ops listed) (hr : i ∈ Region.ready .any ops listed) : Dc ops (listed.setIfInBounds i true) := by
  intro j o hj hl e he hb
  by_cases hij : i = j
  · subst hij
    obtain ⟨_, o', ho', hall⟩ := mem_ready.1 hr
    rw [hj] at ho'
    cases ho'
    exact getD_set_true (hall e he hb)
  · rw [getD_set_ne true hij] at hl
    exact getD_set_true (h j o hj hl e he hb)
/-- z waits for all others. -/
def Waits (ops : Array Oper) (z : Nat) : Prop := ∀ listed, Dc ops listed → z ∈ Region.ready .any ops listed → ∀ k, k < ops.size → k ≠ z → listed.getD k true = true
def lastB (ops : Array Oper) : Bool :=
  (List.range ops.size).all fun k => Nat.beq (k + 1) ops.size || (List.range ops.size).any fun j => Nat.blt k j && (match ops[j]? with | some o => o.after.any fun e => Region.binds .any e && Nat.beq e.on k | none => false)
theorem waits_of_last (h : lastB ops = true) : Waits ops (ops.size - 1) := by
  intro listed hd hr
  have key : ∀ d k, ops.size - 1 - k = d → k < ops.size → k ≠ ops.size - 1 → listed.getD k true = true := by
    intro d
    induction d using Nat.strongRecOn with
    | _ d ih =>
      intro k hk hlt hne
      have h1 := List.all_eq_true.1 h k (List.mem_range.2 hlt)
      have h0 : Nat.beq (k + 1) ops.size = false := by
        rw [Bool.eq_false_iff]; intro e; have := Nat.eq_of_beq_eq_true e; omega
      rw [h0, Bool.false_or] at h1
      obtain ⟨j, hj, h2⟩ := List.any_eq_true.1 h1
      have hj' := List.mem_range.1 hj
      rw [Bool.and_eq_true] at h2
      obtain ⟨h3, h4⟩ := h2
      have hkj : k < j := by simpa [Nat.blt_eq] using h3
      cases ho : ops[j]? with
      | none => simp [ho] at h4
      | some o =>
        simp only [ho] at h4
        obtain ⟨e, he, h5⟩ := Array.any_eq_true'.1 h4
        rw [Bool.and_eq_true] at h5
        obtain ⟨hb, hon⟩ := h5
        have hon := Nat.eq_of_beq_eq_true hon
        have hf : listed.getD k false = true := by
          by_cases hjz : j = ops.size - 1
          · subst hjz
            obtain ⟨_, o', ho', hall⟩ := mem_ready.1 hr
            rw [ho] at ho'
            cases ho'
            have := hall e he hb
            rwa [hon] at this
          · have hl := ih (ops.size - 1 - j) (by omega) j rfl hj' hjz
            have := hd j o ho hl e he hb
            rwa [hon] at this
        rcases Nat.lt_or_ge k listed.size with hs | hs
        · simpa [hs] using hf
        · simp [hs]
  intro k hk hne
  exact key _ k rfl hk hne
theorem waits_none : Waits ops ops.size := by
  intro listed _ hr
  obtain ⟨_, o, ho, _⟩ := mem_ready.1 hr
  have := (Array.getElem?_eq_some_iff.1 ho).1
  omega
/-- Whatever order is picked from here on; S holds behind each operation, but behind z. -/
def wpL (P : Program) (ops : Array Oper) (Q : Exit → Act → World → Prop) (S : World → Prop) (z : Nat) : Nat → Array Bool → Act → World → Prop
  | 0, listed, a, w => Region.ready .any ops listed = [] ∧ Q .normal a w
  | fuel + 1, listed, a, w =>
    (Region.ready .any ops listed = [] → Q .normal a w) ∧
    ∀ i ∈ Region.ready .any ops listed, wpOp P ops Q i (fun a' w' => (i ≠ z → S w') ∧ wpL P ops Q S z fuel (listed.setIfInBounds i true) a' w') a w
theorem wpAny_of_L : ∀ (fuel : Nat) (listed : Array Bool) (a : Act) (w : World), wpL P ops Q S z fuel listed a w → wpAny P .any ops Q fuel listed a w
  | 0, _, _, _, h => h
  | fuel + 1, _, _, _, h => ⟨h.1, fun i hi => wpOp_mono (fun a' w' h' => wpAny_of_L fuel _ a' w' h'.2) (h.2 i hi)⟩
theorem wpL_first {i : Nat} {oi : Oper} {v : Value} (hz : Waits ops z) (hi : ops[i]? = some oi) (hsel : ∀ (j : Nat) (o : Oper) cs b, ops[j]? = some o → o.op ≠ .select cs b)
    (hQ : ∀ c a w, Q (.panic c) (a.put oi.dst v) w → Q (.panic c) a w) :
    ∀ (fuel : Nat) (listed : Array Bool) (a : Act) (w : World), Dc ops listed →
      (∀ j oj, ops[j]? = some oj → j ≠ i → listed.getD j true = false → (∀ e ∈ oj.after, Region.binds .any e = true → e.on ≠ i) → oi.apart ops oj = true) →
      i ∈ Region.ready .any ops listed → YieldsIf P ops S oi v a → S w →
      wpL P ops Q S z fuel (listed.setIfInBounds i true) (a.put oi.dst v) w → wpL P ops Q S z (fuel + 1) listed a w := by
  intro fuel
  induction fuel with
  | zero =>
    intro listed a w _ _ hr hy hS H
    refine ⟨fun h => (by rw [h] at hr; cases hr), fun j hj => ?_⟩
    by_cases hji : j = i
    · subst hji; exact hy.wpOp hi hS ⟨fun _ => hS, H⟩
    · have := ready_mono hj hji
      rw [H.1] at this
      cases this
  | succ fuel ih =>
    intro listed a w hd hfree hr hy hS H
    refine ⟨fun h => (by rw [h] at hr; cases hr), fun j hj => ?_⟩
    by_cases hji : j = i
    · subst hji; exact hy.wpOp hi hS ⟨fun _ => hS, H⟩
    · have hjz : j ≠ z := by
        intro e
        subst e
        have h1 := hz listed hd hj i (Array.getElem?_eq_some_iff.1 hi).1 (Ne.symm hji)
        have h2 := (mem_ready.1 hr).1
        rw [h1] at h2
        cases h2
      have h1 := wpOp_mono (fun a' w' h3 => (⟨h3.1 hjz, h3.2⟩ : S w' ∧ _)) (H.2 j (ready_mono hj hji))
      obtain ⟨hjun, oj, hoj, hall⟩ := mem_ready.1 hj
      have hnot : ∀ e ∈ oj.after, Region.binds .any e = true → e.on ≠ i := fun e he hb heq => by
        have h1 := hall e he hb
        have h0 := (mem_ready.1 hr).1
        rw [heq] at h1
        rcases Nat.lt_or_ge i listed.size with h' | h'
        · simp [h'] at h0 h1; rw [h0] at h1; cases h1
        · simp [Array.getElem?_eq_none h'] at h1
      have h2 := wpOp_putIf hoj (hfree j oj hoj hji hjun hnot) (fun cs b => hsel i oi cs b hi) (fun cs b => hsel j oj cs b hoj) hQ hy h1
      have hfree' : ∀ k ok, ops[k]? = some ok → k ≠ i → (listed.setIfInBounds j true).getD k true = false →
          (∀ e ∈ ok.after, Region.binds .any e = true → e.on ≠ i) → oi.apart ops ok = true := fun k ok hk hki hun hno => by
        refine hfree k ok hk hki ?_ hno
        by_cases hjk : j = k
        · subst hjk; exact hjun
        · rw [getD_set_ne true hjk] at hun; exact hun
      refine wpOp_mono (fun a' w' h3 => ⟨fun _ => h3.2.1, ih (listed.setIfInBounds j true) a' w' (hd.step hj) hfree' (ready_mono hr (Ne.symm hji)) h3.1 h3.2.1 ?_⟩) h2
      rw [Array.setIfInBounds_comm _ _ hji]
      exact h3.2.2
/-- One order: the operations' places, and whether each makes or changes memory (or else only looks, and yields the same wherever S holds). -/
def okOrd (ops : Array Oper) : List (Nat × Bool) → Array Bool → Bool
  | [], listed => (Region.ready .any ops listed).isEmpty
  | (i, noisy) :: rest, listed => (match noisy with
    | true => (match Region.ready .any ops listed with | [j] => Nat.beq i j | _ => false)
    | false => Region.free .any ops listed i && (Region.ready .any ops listed).contains i) && okOrd ops rest (listed.setIfInBounds i true)
/-- The walk in that order. -/
def wpO (P : Program) (ops : Array Oper) (Q : Exit → Act → World → Prop) (S : World → Prop) (z : Nat) : List (Nat × Bool × Oper) → Act → World → Prop
  | [], a, w => Q .normal a w
  | (i, true, o) :: rest, a, w => if Region.wanted o (yielded ops a.tmps) then o.wp P a w (fun a' w' => (i ≠ z → S w') ∧ wpO P ops Q S z rest a' w') Q else S w ∧ wpO P ops Q S z rest (a.put o.dst undef) w
  | (i, false, o) :: rest, a, w => S w ∧ ∃ v, YieldsIf P ops S o v a ∧ wpO P ops Q S z rest (a.put o.dst v) w
theorem wpL_of_O (hz : Waits ops z) (hs : Region.noSelect ops = true) (hQ : ∀ c a b w, Q (.panic c) a w → Q (.panic c) b w) : ∀ (ord : List (Nat × Bool)) (L : List (Nat × Bool × Oper)) (listed : Array Bool) (a : Act) (w : World),
    Dc ops listed → okOrd ops ord listed = true → L.map (fun x => (x.1, x.2.1)) = ord → (∀ x ∈ L, ops[x.1]? = some x.2.2) → wpO P ops Q S z L a w → wpL P ops Q S z L.length listed a w := by
  intro ord
  induction ord with
  | nil =>
    intro L listed a w hd ho hL hops h
    have : L = [] := by simpa using hL
    subst this
    exact ⟨by simpa [okOrd] using ho, h⟩
  | cons x ord ih =>
    intro L listed a w hd ho hL hops h
    cases L with
    | nil => simp at hL
    | cons y L =>
      obtain ⟨i, noisy, o⟩ := y
      simp only [List.map_cons, List.cons.injEq] at hL
      obtain ⟨rfl, hL⟩ := hL
      have hoi : ops[i]? = some o := hops _ (List.mem_cons_self ..)
      have hops' : ∀ x ∈ L, ops[x.1]? = some x.2.2 := fun x hx => hops x (List.mem_cons_of_mem _ hx)
      simp only [okOrd, Bool.and_eq_true] at ho
      obtain ⟨ho1, ho2⟩ := ho
      cases noisy with
      | true =>
        simp only at ho1
        have hr : Region.ready .any ops listed = [i] := by
          split at ho1
          · rename_i j hj; have := Nat.eq_of_beq_eq_true ho1; subst this; exact hj
          · cases ho1
        have hmem : i ∈ Region.ready .any ops listed := by rw [hr]; exact List.mem_singleton.2 rfl
        refine ⟨fun e => (by rw [hr] at e; cases e), fun j hj => ?_⟩
        rw [hr] at hj
        have := List.mem_singleton.1 hj
        subst this
        unfold wpOp
        simp only [hoi]
        unfold wpO at h
        split
        · rename_i hw
          rw [if_pos hw] at h
          refine .inl ?_
          unfold Oper.wp Oper.upon at *
          revert h
          generalize (execOp a.eval o).run P w = r
          intro h
          cases r with
          | ok nx w' =>
            cases nx with
            | value u => exact ⟨h.1, ih L _ _ _ (hd.step hmem) ho2 hL hops' h.2⟩
            | skip => exact ⟨h.1, ih L _ _ _ (hd.step hmem) ho2 hL hops' h.2⟩
            | defer d => exact ⟨h.1, ih L _ _ _ (hd.step hmem) ho2 hL hops' h.2⟩
            | enter f args =>
              refine Calls.mono h fun e w'' he => ?_
              cases e with
              | returned u => exact ⟨he.1, ih L _ _ _ (hd.step hmem) ho2 hL hops' he.2⟩
              | panicked c => exact he
              | outgrown => exact he
            | row row args => exact Rows.mono h fun u w'' he => ⟨he.1, ih L _ _ _ (hd.step hmem) ho2 hL hops' he.2⟩
            | _ => exact h
          | halt x w' => cases x <;> simp only at h ⊢ <;> exact h
        · rename_i hw
          rw [if_neg hw] at h
          exact ⟨fun _ => h.1, ih L _ _ _ (hd.step hmem) ho2 hL hops' h.2⟩
      | false =>
        simp only [Bool.and_eq_true] at ho1
        obtain ⟨hf, hc⟩ := ho1
        obtain ⟨hS, v, hy, h⟩ := h
        have hmem : i ∈ Region.ready .any ops listed := by simpa using hc
        exact wpL_first hz hoi (Region.noSelect_spec hs) (fun c a w h => hQ c _ _ w h) L.length listed a w hd (Region.free_spec hoi hf) hmem hy hS (ih L _ _ _ (hd.step hmem) ho2 hL hops' h)
end
section
variable {P : Program} {w : World} {Q : Exit → Act → World → Prop} {n : Nat} {l : Slots} {ds : List Deferred} {S : World → Prop} {z : Nat}
/-- The operations in the order's places. -/
def ordL (os : List Oper) : List (Nat × Bool) → Option (List (Nat × Bool × Oper))
  | [] => some []
  | (i, b) :: r => match os[i]?, ordL os r with
    | some o, some L => some ((i, b, o) :: L)
    | _, _ => none
theorem ordL_map {os : List Oper} : ∀ {ord : List (Nat × Bool)} {L : List (Nat × Bool × Oper)}, ordL os ord = some L → L.map (fun x => (x.1, x.2.1)) = ord ∧ ∀ x ∈ L, os[x.1]? = some x.2.2 := by
  intro ord
  induction ord with
  | nil => intro L h; simp [ordL] at h; subst h; simp
  | cons p r ih =>
    intro L h
    obtain ⟨i, b⟩ := p
    simp only [ordL] at h
    split at h
    · rename_i o L' h1 h2
      simp only [Option.some.injEq] at h
      subst h
      obtain ⟨h3, h4⟩ := ih h2
      exact ⟨by simp [h3], fun x hx => by
        rcases List.mem_cons.1 hx with rfl | hx
        · exact h1
        · exact h4 x hx⟩
    · cases h
/-- The post, but 'never' at a panic. -/
def NoP (Q : Exit → Act → World → Prop) : Exit → Act → World → Prop
  | .panic _, _, _ => False
  | e, a, w => Q e a w
structure Wo (P : Program) (ops : Array Oper) (q : Pst P) (S : World → Prop) (z : Nat) (L : List (Nat × Bool × Oper)) (n : Nat) (l : Slots) (ds : List Deferred) (w : World) : Prop where
  up : wpO P ops (NoP q.den) S z L (A n l ds) w
variable {q : Pst P}
theorem k_h {i : Nat} {os : List Oper} (S : World → Prop) (ord : List (Nat × Bool)) {L : List (Nat × Bool × Oper)} (z : Nat) (hm : P.follows .mixedOrders = true) (hz : Waits os.toArray z) (hs : Region.noSelect os.toArray = true)
    (ho : okOrd os.toArray ord (Array.replicate os.toArray.size false) = true) (hn : Nat.beq ord.length os.length = true) (hL : ordL os ord = some L) (hw : ∀ w1, Kp No w w1 → w1.heap = w.heap → Wo P os.toArray q S z L n l ds w1) : Wc P (.region i os.toArray true) q n l ds w := by
  refine ⟨Code.wp_mono (Q := NoP q.den) (fun e a w h => by cases e <;> first | exact h | exact (h : False).elim) ?_⟩
  refine wp_region_any hm (wpAny_of_L (S := S) (z := z) _ _ _ _ ?_)
  obtain ⟨h1, h2⟩ := ordL_map hL
  have hn' := Nat.eq_of_beq_eq_true hn
  have hlen : L.length = os.toArray.size := by rw [← h1] at hn'; simpa using hn'
  have := wpL_of_O hz hs (fun c a b w h => h) ord L _ _ _ (Dc.start _) ho h1 (fun x hx => by simpa using h2 x hx) (hw w.drew (Kp.drew w) rfl).up
  rw [hlen] at this
  exact this
variable {ty : TypeId} {pos : String} {af : Array Edge} {v : Value} {rest : List (Nat × Bool × Oper)} {ops : Array Oper} {d i : Nat} {op : Op}
theorem h_nil (h : Po q .normal n l ds w) : Wo P ops q S z [] n l ds w := ⟨h.up⟩
theorem h_re {L : List (Nat × Bool × Oper)} (t : Nat) {v v' : Value} (hy : look l t = v) (hv : v = v') (h : Wo P ops q S z L n ((t, v') :: l) ds w) : Wo P ops q S z L n l ds w := by
  subst hv; exact ⟨by rw [A_pre hy]; exact h.up⟩
theorem h_v (hS : S w) (hr : ∀ w, S w → Rn P (ev n l) ⟨some d, op, ty, pos, af, none⟩ w (.ok (.value v) w)) (h : Wo P ops q S z rest n ((d, v) :: l) ds w) :
    Wo P ops q S z ((i, false, ⟨some d, op, ty, pos, af, none⟩) :: rest) n l ds w := by
  refine ⟨hS, v, .inl ⟨by simp [Region.wanted], fun w hw => by rw [eval_A]; exact (hr w hw).eq⟩, ?_⟩
  rw [put_A]; exact h.up
/-- A quiet one where the others' order leaves it no choice. -/
theorem h_w (hr : Rn P (ev n l) ⟨some d, op, ty, pos, af, none⟩ w (.ok (.value v) w)) (hS : i ≠ z → S w) (h : Wo P ops q S z rest n ((d, v) :: l) ds w) :
    Wo P ops q S z ((i, true, ⟨some d, op, ty, pos, af, none⟩) :: rest) n l ds w := by
  refine ⟨?_⟩
  unfold wpO
  rw [if_pos (by simp [Region.wanted])]
  unfold Oper.wp
  rw [eval_A, hr.eq, Oper.upon_value, put_A]
  exact ⟨hS, h.up⟩
theorem h_nb {r : Addr → Value} {cs : List Value} {T : TypeId} (hr : Rn P (ev n l) ⟨some d, op, ty, pos, af, none⟩ w (.ok (.value (r ⟨w.heap.size, 0, none⟩)) (w.alloc (.cells cs.toArray T))))
    (h : ∀ b w1, Nb w b cs T w1 → (i ≠ z → S w1) ∧ Wo P ops q S z rest n ((d, r ⟨b, 0, none⟩) :: l) ds w1) :
    Wo P ops q S z ((i, true, ⟨some d, op, ty, pos, af, none⟩) :: rest) n l ds w := by
  refine ⟨?_⟩
  unfold wpO
  rw [if_pos (by simp [Region.wanted])]
  unfold Oper.wp
  rw [eval_A, hr.eq, Oper.upon_value, put_A]
  exact ⟨(h _ _ (nb_alloc w cs T)).1, (h _ _ (nb_alloc w cs T)).2.up⟩
theorem h_box {T : TypeId} {x : Operand} {u : Value} {cs : List Value} (hx : mvv (ev n l x) = some u) (hc : cellsL u = cs)
    (h : ∀ b w1, Nb w b cs T w1 → (i ≠ z → S w1) ∧ Wo P ops q S z rest n ((d, .pointer (some ⟨b, 0, none⟩)) :: l) ds w1) :
    Wo P ops q S z ((i, true, ⟨some d, .box T x, ty, pos, af, none⟩) :: rest) n l ds w := h_nb (r := fun a => .pointer (some a)) (r_box hx hc) h
theorem h_bs {t : TypeId} {len : Nat} {parts : List (Nat × Operand)} {cs : List Value} {e : TypeId} (hb : bsv P (ev n l) t len parts = some (cs, e))
    (h : ∀ b w1, Nb w b cs e w1 → (i ≠ z → S w1) ∧ Wo P ops q S z rest n ((d, .slice (some ⟨b, 0, none⟩) len len) :: l) ds w1) :
    Wo P ops q S z ((i, true, ⟨some d, .buildSlice t len parts.toArray, ty, pos, af, none⟩) :: rest) n l ds w := h_nb (r := fun a => .slice (some a) len len) (r_bs hb) h
theorem h_st {t : TypeId} {x y : Operand} {b o : Nat} {u : Value} {cs vs : List Value} {T : TypeId} (hx : ev n l x = .pointer (some ⟨b, o, none⟩)) (hy : mvv (ev n l y) = some u) (hvs : cellsL u = vs) (hs : szT P t = some vs.length) (h1 : vs.all Value.oneCell' = true)
    (hb : w.heap[b]? = some (.cells cs.toArray T (0, 0))) (ho : o + vs.length ≤ cs.length)
    (h : ∀ w1, Sb w b (setAt cs o vs) T w1 → (i ≠ z → S w1) ∧ Wo P ops q S z rest n l ds w1) :
    Wo P ops q S z ((i, true, ⟨none, .store t x y, ty, pos, af, none⟩) :: rest) n l ds w := by
  refine ⟨?_⟩
  unfold wpO
  rw [if_pos (by simp [Region.wanted])]
  unfold Oper.wp
  rw [eval_A, (r_st hx hy hvs hs h1 hb ho).eq, Oper.upon_skip, put_A_none]
  exact ⟨(h _ (sb_setRow hb)).1, (h _ (sb_setRow hb)).2.up⟩
theorem h_call {f : FuncId} {c : Operand} {xs : List Operand} {vs us zs : List Value} {ats : Array TypeId} {R : Value → World → Prop} (hf : callOk P f = true) (hcv : ev n l c = .func (.func f) us.toArray zs.toArray) (hxs : evs (ev n l) xs = some vs)
    (hc : Ret P f (us ++ vs ++ zs) w R) (h : ∀ v w1, R v w1 → (i ≠ z → S w1) ∧ Wo P ops q S z rest n ((d, v) :: l) ds w1) :
    Wo P ops q S z ((i, true, ⟨some d, .call ⟨.value c, xs.toArray, ats⟩, ty, pos, af, none⟩) :: rest) n l ds w := by
  refine ⟨?_⟩
  unfold wpO
  rw [if_pos (by simp [Region.wanted])]
  unfold Oper.wp
  rw [eval_A, (run_call hf hcv hxs).eq, Oper.upon_enter]
  refine Calls.mono hc ?_
  rintro e w1 ⟨v, rfl, hR⟩
  simp only [put_A]
  exact ⟨(h _ _ hR).1, (h _ _ hR).2.up⟩
theorem h_go {v1 : Value} {w1 : World} (hr : Rn P (ev n l) ⟨some d, op, ty, pos, af, none⟩ w (.ok (.value v1) w1)) (h : (i ≠ z → S w1) ∧ Wo P ops q S z rest n ((d, v1) :: l) ds w1) :
    Wo P ops q S z ((i, true, ⟨some d, op, ty, pos, af, none⟩) :: rest) n l ds w := by
  refine ⟨?_⟩
  unfold wpO
  rw [if_pos (by simp [Region.wanted])]
  unfold Oper.wp
  rw [eval_A, hr.eq, Oper.upon_value, put_A]
  exact ⟨h.1, h.2.up⟩
theorem h_app {s x : Operand} {t e : TypeId} {ti : TypeInfo} {zv : Value} {size bytes base k m c : Nat} {v0 : Value} {xs news : List Value} {bx ox : Nat} (ht : P.underlying t = some (.slice e)) (hi : P.info? e = some ti) (hz : ti.zero = some zv)
    (hsize : ti.size = size) (hby : ti.bytes = bytes) (hzs : (cellsL zv).length = size) (hsz : Nat.blt 0 size = true) (hs : ev n l s = v0) (own : w.ownsRow base e size v0 k xs) (hx : ev n l x = .slice (some ⟨bx, ox, none⟩) m c)
    (hnews : ∀ j u, news[j]? = some u → w.cell? ⟨bx, ox + j, none⟩ = some u) (hl : news.length = m * size) (h1 : news.all Value.oneCell' = true) (hb : (k + m) * bytes ≤ 140737488355328) (hb' : k + m ≤ 9223372036854775807) (hbase : base ≤ w.heap.size)
    (h : ∀ v w1, Ap w base e size v0 (k + m) (xs ++ news) v w1 → (i ≠ z → S w1) ∧ Wo P ops q S z rest n ((d, v) :: l) ds w1) :
    Wo P ops q S z ((i, true, ⟨some d, .call ⟨.builtin .append, #[s, x], #[t, t]⟩, ty, pos, af, none⟩) :: rest) n l ds w := by
  obtain ⟨v, w1, hr, ha⟩ := run_app (P := P) (ty := ty) (c := c) (ad := ⟨bx, ox, none⟩) ht hi hz hsize hby hzs hsz own (fun j u hj => by rw [addr_add]; exact hnews j u hj) hl h1 hb hb' hbase
  exact h_go (r_app (e := e) hs hx hr) (h v w1 ha)
end
end Go.Proofs.YtlkipdfipaipbaaDoor.Fw
