/- Own walk lemmas over any program: rounds of a range over a function, and iterators. -/
import Derived.Test.YtlkipdfipaipbaaDoorFb
import Derived.RangeFuncOwn
import Derived.RangeFuncLeaves
namespace Go.Proofs.YtlkipdfipaipbaaDoor.Fw
open Go Go.RowKit
set_option linter.unusedSimpArgs false
set_option linter.unusedVariables false
/-- Nothing is fenced; r: of which loop's round the frame is. -/
def WF (r : Option Nat) : Fence := { fn := fun _ => True, depth := none, alive := false, round := r }
theorem WF_none : WF none = Fence.wide := rfl
def Pst.denI {P : Program} (L : Nat) : Pst P → (Exit → Act → World → Prop)
  | .base Q => Q
  | .sq y q => Exit.then (y.wpIn (WF (some L)) 0 P (q.denI L)) (q.denI L)
  | .bk i q => Exit.inBlock i (q.denI L)
  | .lp K q => Exit.then K (q.denI L)
structure Rc (P : Program) (L : Nat) (c : Code) (q : Pst P) (n : Nat) (l : Slots) (w : World) : Prop where
  up : c.wpIn (WF (some L)) 0 P (q.denI L) (A n l []) w
structure Rp {P : Program} (L : Nat) (q : Pst P) (e : Exit) (n : Nat) (l : Slots) (w : World) : Prop where
  up : q.denI L e (A n l []) w
structure Rl (P : Program) (r : Option Nat) (ops : Array Oper) (Q : Exit → Act → World → Prop) (LL : List Oper) (n : Nat) (l : Slots) (ds : List Deferred) (w : World) : Prop where
  up : wpListIn (WF r) 0 P ops Q LL (A n l ds) w
section control
variable {P : Program} {L : Nat} {q : Pst P} {w : World} {n : Nat} {l : Slots} {x y : Code}
theorem i_seq (h : Rc P L x (.sq y q) n l w) : Rc P L (.seq x y) q n l w := ⟨wpIn_seq h.up⟩
theorem i_blk {i : Nat} (h : Rc P L x (.bk i q) n l w) : Rc P L (.block i x) q n l w := ⟨wpIn_block h.up⟩
theorem i_reg {i : Nat} {os : List Oper} (h : Rl P (some L) os.toArray (q.denI L) os n l [] w) : Rc P L (.region i os.toArray false) q n l w := ⟨wpIn_region_lit h.up⟩
theorem i_ret (h : Rp L q .ret n l w) : Rc P L .ret q n l w := ⟨wpIn_ret h.up⟩
theorem i_skip (h : Rp L q .normal n l w) : Rc P L .skip q n l w := ⟨wpIn_skip h.up⟩
theorem i_exit {i : Nat} (h : Rp L q (.exit i) n l w) : Rc P L (.exit i) q n l w := ⟨wpIn_exit h.up⟩
theorem i_nil {ops : Array Oper} (h : Rp L q .normal n l w) : Rl P (some L) ops (q.denI L) [] n l [] w := ⟨h.up⟩
theorem i_n (h : Rc P L y q n l w) : Rp L (.sq y q) .normal n l w := ⟨h.up⟩
theorem i_x {i : Nat} (h : Rp L q (.exit i) n l w) : Rp L (.sq y q) (.exit i) n l w := ⟨h.up⟩
theorem i_r (h : Rp L q .ret n l w) : Rp L (.sq y q) .ret n l w := ⟨h.up⟩
theorem j_n {i : Nat} (h : Rp L q .normal n l w) : Rp L (.bk i q) .normal n l w := ⟨h.up⟩
theorem j_r {i : Nat} (h : Rp L q .ret n l w) : Rp L (.bk i q) .ret n l w := ⟨h.up⟩
theorem j_y {i j : Nat} (e : Nat.beq j i = true) (h : Rp L q .normal n l w) : Rp L (.bk i q) (.exit j) n l w := by
  have := Nat.eq_of_beq_eq_true e; subst this; exact ⟨by simpa [Pst.denI, Exit.inBlock] using h.up⟩
theorem j_z {i j : Nat} (e : Nat.beq j i = false) (h : Rp L q (.exit j) n l w) : Rp L (.bk i q) (.exit j) n l w := by
  have : j ≠ i := fun h => by subst h; simp at e
  exact ⟨by simpa [Pst.denI, Exit.inBlock, this] using h.up⟩
theorem ic_t {c : Operand} (hc : ev n l c = .bool true) (h : Rc P L x q n l w) : Rc P L (.cond c x y) q n l w := ⟨wpIn_cond_true (by rw [eval_A]; exact hc) h.up⟩
theorem ic_f {c : Operand} (hc : ev n l c = .bool false) (h : Rc P L y q n l w) : Rc P L (.cond c x y) q n l w := ⟨wpIn_cond_false (by rw [eval_A]; exact hc) h.up⟩
theorem ic_b {c : Operand} {b : Bool} (hc : ev n l c = .bool b) (ht : b = true → Rc P L x q n l w) (hf : b = false → Rc P L y q n l w) : Rc P L (.cond c x y) q n l w :=
  ⟨wpIn_cond_split (by rw [eval_A]; exact hc) (fun h => (ht h).up) (fun h => (hf h).up)⟩
theorem ic_dec {c : Operand} {p : Prop} {i : Decidable p} (hc : ev n l c = .bool (@decide p i)) (ht : p → Rc P L x q n l w) (hf : ¬ p → Rc P L y q n l w) : Rc P L (.cond c x y) q n l w :=
  ic_b hc (fun h => ht (of_decide_eq_true h)) (fun h => hf (of_decide_eq_false h))
theorem ic_eq {c : Operand} {a b : Int} (hc : ev n l c = .bool (a == b)) (ht : a = b → Rc P L x q n l w) (hf : ¬ a = b → Rc P L y q n l w) : Rc P L (.cond c x y) q n l w :=
  ic_b hc (fun h => ht (by simpa using h)) (fun h => hf (by simpa using h))
theorem ic_ne {c : Operand} {a b : Int} (hc : ev n l c = .bool (a != b)) (ht : ¬ a = b → Rc P L x q n l w) (hf : a = b → Rc P L y q n l w) : Rc P L (.cond c x y) q n l w :=
  ic_b hc (fun h => ht (by simpa using h)) (fun h => hf (by simpa using h))
end control
/-! ### a region's steps, in a round or behind no fence -/
/-- An operation that is no defer statement. -/
def nd : Op → Bool
  | .defer _ => false
  | _ => true
theorem semAt_nd {r : Option Nat} {ρ : Operand → Value} {o : Oper} (h : nd o.op = true) : o.semAt r ρ = execOp ρ o :=
  Oper.semAt_eq r ρ o fun c e => by rw [e] at h; cases h
/-- What a call of yield does: a closure at hand, or a loop's own. -/
def Yc (P : Program) (yv : Value) (vs : List Value) (w : World) (R : Value → World → Prop) : Prop :=
  (∃ f us zs, yv = .func (.func f) (List.toArray us) (List.toArray zs) ∧ callOk P f = true ∧ Ret P f (us ++ vs ++ zs) w R) ∨
  (∃ L, yv = .func (.yield L) #[] #[] ∧ YieldAt Fence.wide 0 P L vs.toArray w fun e w' => ∃ v, e = .returned v ∧ R v w')
theorem Yc.mono {P : Program} {yv : Value} {vs : List Value} {w : World} {R R' : Value → World → Prop} (h : Yc P yv vs w R) (hr : ∀ v w', R v w' → R' v w') : Yc P yv vs w R' := by
  rcases h with ⟨f, us, zs, e, ho, h⟩ | ⟨L, e, h⟩
  · exact .inl ⟨f, us, zs, e, ho, h.mono hr⟩
  · obtain ⟨fn, tmps, as, bo, h1, h2⟩ := h
    exact .inr ⟨L, e, fn, tmps, as, bo, h1, h2.mono fun e w' ⟨v, e1, h⟩ => ⟨v, e1, hr _ _ h⟩⟩
section steps
variable {P : Program} {w : World} {dst : Option Tmp} {ty : TypeId} {pos : String} {af : Array Edge} {g : Option (Nat × Bool)} {v : Value}
variable {r : Option Nat} {ops : Array Oper} {os : List Oper} {rest : List Oper} {Q : Exit → Act → World → Prop} {n : Nat} {l : Slots} {ds : List Deferred} {d : Nat} {op : Op}
theorem y_nil {q : Pst P} (h : Po q .normal n l ds w) : Rl P none ops q.den [] n l ds w := ⟨h.up⟩
theorem k_regI {q : Pst P} {i : Nat} {os : List Oper} (h : Rl P none os.toArray q.den os n l ds w) : Wc P (.region i os.toArray false) q n l ds w :=
  ⟨wpIn_wide.1 (wpIn_region_lit h.up)⟩
theorem i_v (hn : nd op = true) (hr : Rn P (ev n l) ⟨some d, op, ty, pos, af, none⟩ w (.ok (.value v) w)) (h : Rl P r ops Q rest n ((d, v) :: l) ds w) :
    Rl P r ops Q (⟨some d, op, ty, pos, af, none⟩ :: rest) n l ds w := by
  refine ⟨wpListIn_plain rfl fun K hK => ⟨fun _ _ => trivial, ?_⟩⟩
  rw [semAt_nd hn, eval_A, hr.eq, Oper.uponIn_value, put_A]
  exact hK _ _ h.up
theorem i_go {v1 : Value} {w1 : World} (hn : nd op = true) (hr : Rn P (ev n l) ⟨some d, op, ty, pos, af, none⟩ w (.ok (.value v1) w1)) (h : Rl P r ops Q rest n ((d, v1) :: l) ds w1) :
    Rl P r ops Q (⟨some d, op, ty, pos, af, none⟩ :: rest) n l ds w := by
  refine ⟨wpListIn_plain rfl fun K hK => ⟨fun _ _ => trivial, ?_⟩⟩
  rw [semAt_nd hn, eval_A, hr.eq, Oper.uponIn_value, put_A]
  exact hK _ _ h.up
theorem i_nb {rr : Addr → Value} {cs : List Value} {T : TypeId} (hn : nd op = true) (hr : Rn P (ev n l) ⟨some d, op, ty, pos, af, none⟩ w (.ok (.value (rr ⟨w.heap.size, 0, none⟩)) (w.alloc (.cells cs.toArray T))))
    (h : ∀ b w1, Nb w b cs T w1 → Rl P r ops Q rest n ((d, rr ⟨b, 0, none⟩) :: l) ds w1) :
    Rl P r ops Q (⟨some d, op, ty, pos, af, none⟩ :: rest) n l ds w := i_go hn hr (h _ _ (nb_alloc w cs T))
theorem i_box {T : TypeId} {x : Operand} {u : Value} {cs : List Value} (hx : mvv (ev n l x) = some u) (hc : cellsL u = cs)
    (h : ∀ b w1, Nb w b cs T w1 → Rl P r ops Q rest n ((d, .pointer (some ⟨b, 0, none⟩)) :: l) ds w1) :
    Rl P r ops Q (⟨some d, .box T x, ty, pos, af, none⟩ :: rest) n l ds w := i_nb (rr := fun a => .pointer (some a)) rfl (r_box hx hc) h
theorem i_al {T : TypeId} {cs : List Value} (hz : zeroL P T = some cs)
    (h : ∀ b w1, Nb w b cs T w1 → Rl P r ops Q rest n ((d, .pointer (some ⟨b, 0, none⟩)) :: l) ds w1) :
    Rl P r ops Q (⟨some d, .alloc T, ty, pos, af, none⟩ :: rest) n l ds w := i_nb (rr := fun a => .pointer (some a)) rfl (r_al hz) h
theorem i_bs {t : TypeId} {len : Nat} {parts : List (Nat × Operand)} {cs : List Value} {e : TypeId} (hb : bsv P (ev n l) t len parts = some (cs, e))
    (h : ∀ b w1, Nb w b cs e w1 → Rl P r ops Q rest n ((d, .slice (some ⟨b, 0, none⟩) len len) :: l) ds w1) :
    Rl P r ops Q (⟨some d, .buildSlice t len parts.toArray, ty, pos, af, none⟩ :: rest) n l ds w := i_nb (rr := fun a => .slice (some a) len len) rfl (r_bs hb) h
theorem i_st {t : TypeId} {x y : Operand} {b o : Nat} {u : Value} {cs vs : List Value} {T : TypeId} (hx : ev n l x = .pointer (some ⟨b, o, none⟩)) (hy : mvv (ev n l y) = some u) (hvs : cellsL u = vs) (hs : szT P t = some vs.length) (h1 : vs.all Value.oneCell' = true)
    (hb : w.heap[b]? = some (.cells cs.toArray T (0, 0))) (ho : o + vs.length ≤ cs.length)
    (h : ∀ w1, Sb w b (setAt cs o vs) T w1 → Rl P r ops Q rest n l ds w1) :
    Rl P r ops Q (⟨none, .store t x y, ty, pos, af, none⟩ :: rest) n l ds w := by
  refine ⟨wpListIn_plain rfl fun K hK => ⟨fun _ _ => trivial, ?_⟩⟩
  rw [semAt_nd rfl, eval_A, (r_st hx hy hvs hs h1 hb ho).eq, Oper.uponIn_skip, put_A_none]
  exact hK _ _ (h _ (sb_setRow hb)).up
theorem calls_up {f : FuncId} {vs : List Value} {R : Value → World → Prop} {a : Act} {next : Act → World → Prop} {r : Option Nat} {o : Oper} (hc : Ret P f vs w R) (h : ∀ v w', R v w' → next (a.put o.dst v) w') :
    (o.uponIn (WF r) 0 P a next Q (.ok (.enter f vs.toArray) w)) := by
  rw [Oper.uponIn_enter]
  refine ⟨fun e => (by cases e), ?_⟩
  refine CallsIn.mono (R := fun e w' => ∃ v, e = .returned v ∧ R v w') ?_ ?_
  · have := callsIn_wide (n := 0).2 hc
    cases r <;> exact this
  · rintro e w1 ⟨v, rfl, hR⟩
    exact h _ _ hR
theorem i_call {f : FuncId} {c : Operand} {xs : List Operand} {vs us zs : List Value} {ats : Array TypeId} {R : Value → World → Prop} (hf : callOk P f = true) (hcv : ev n l c = .func (.func f) us.toArray zs.toArray) (hxs : evs (ev n l) xs = some vs)
    (hc : Ret P f (us ++ vs ++ zs) w R) (h : ∀ v w1, R v w1 → Rl P r ops Q rest n ((d, v) :: l) ds w1) :
    Rl P r ops Q (⟨some d, .call ⟨.value c, xs.toArray, ats⟩, ty, pos, af, none⟩ :: rest) n l ds w := by
  refine ⟨wpListIn_plain rfl fun K hK => ⟨fun _ _ => trivial, ?_⟩⟩
  rw [semAt_nd rfl, eval_A, (run_call hf hcv hxs).eq]
  refine calls_up hc fun v w1 hR => ?_
  simp only [put_A]
  exact hK _ _ (h _ _ hR).up
theorem run_ycall {L : Nat} {c : Operand} {ρ : Operand → Value} {xs : List Operand} {vs : List Value} {ats : Array TypeId} {nx : Next} (hc : ρ c = .func (.yield L) #[] #[]) (hxs : evs ρ xs = some vs) (hy : (Instr.yield L vs.toArray).run P w = .ok nx w) :
    (execOp ρ ⟨dst, .call ⟨.value c, xs.toArray, ats⟩, ty, pos, af, g⟩).run P w = .ok nx w := by
  have he := evs_eq hxs
  have hA : (#[] ++ Array.map ρ xs.toArray : Array Value) = vs.toArray := by simp [← he]
  simp only [execOp, resolve, Sem.run_bind, hc, Deferred.ofValue, Sem.run_pure, Result.andThen_ok, invoke]
  rw [hA]
  exact hy
/-- A call of yield. -/
theorem i_yc {c : Operand} {xs : List Operand} {vs : List Value} {yv : Value} {ats : Array TypeId} {R : Value → World → Prop} (hcv : ev n l c = yv) (hxs : evs (ev n l) xs = some vs)
    (hc : Yc P yv vs w R) (h : ∀ v w1, R v w1 → Rl P r ops Q rest n ((d, v) :: l) ds w1) :
    Rl P r ops Q (⟨some d, .call ⟨.value c, xs.toArray, ats⟩, ty, pos, af, none⟩ :: rest) n l ds w := by
  rcases hc with ⟨f, us, zs, rfl, hf, hc⟩ | ⟨L, rfl, fn, tmps, as, bo, hy, hR⟩
  · exact i_call hf hcv hxs hc h
  · refine ⟨wpListIn_plain rfl fun K hK => ⟨fun _ _ => trivial, ?_⟩⟩
    rw [semAt_nd rfl, eval_A, run_ycall hcv hxs hy, Oper.uponIn_round]
    refine ⟨fun e => (by cases e), ?_⟩
    have hR' : RoundIn (WF r) (0 - 1) P L fn tmps as bo w fun e w' => ∃ v, e = .returned v ∧ R v w' := hR
    refine hR'.mono ?_
    rintro e w1 ⟨v, rfl, hv⟩
    simp only [put_A]
    exact hK _ _ (h _ _ hv).up
/-- Guards. -/
theorem i_gn {j : Nat} {b b' : Bool} (hy : ylk os n l j = some (.bool b')) (hb : (b' == b) = false) (h : Rl P r os.toArray Q rest n ((d, undef) :: l) ds w) :
    Rl P r os.toArray Q (⟨some d, op, ty, pos, af, some (j, b)⟩ :: rest) n l ds w := by
  refine ⟨wpListIn_step fun K hK => ?_⟩
  have hb2 : ¬ b' = b := by simpa using hb
  rw [if_neg (by simp [Region.wanted, A, ylk_eq hy, hb2]), put_A]
  exact ⟨fun _ _ => trivial, hK _ _ h.up⟩
theorem i_gv {j : Nat} {b : Bool} (hn : nd op = true) (hy : ylk os n l j = some (.bool b)) (hr : Rn P (ev n l) ⟨some d, op, ty, pos, af, some (j, b)⟩ w (.ok (.value v) w)) (h : Rl P r os.toArray Q rest n ((d, v) :: l) ds w) :
    Rl P r os.toArray Q (⟨some d, op, ty, pos, af, some (j, b)⟩ :: rest) n l ds w := by
  refine ⟨wpListIn_step fun K hK => ?_⟩
  rw [if_pos (by simp [Region.wanted, A, ylk_eq hy])]
  refine ⟨fun _ _ => trivial, ?_⟩
  rw [semAt_nd hn, eval_A, hr.eq, Oper.uponIn_value, put_A]
  exact hK _ _ h.up
theorem i_gcall {j : Nat} {b : Bool} {f : FuncId} {c : Operand} {xs : List Operand} {vs us zs : List Value} {ats : Array TypeId} {R : Value → World → Prop} (hy : ylk os n l j = some (.bool b)) (hf : callOk P f = true) (hcv : ev n l c = .func (.func f) us.toArray zs.toArray) (hxs : evs (ev n l) xs = some vs)
    (hc : Ret P f (us ++ vs ++ zs) w R) (h : ∀ v w1, R v w1 → Rl P r os.toArray Q rest n ((d, v) :: l) ds w1) :
    Rl P r os.toArray Q (⟨some d, .call ⟨.value c, xs.toArray, ats⟩, ty, pos, af, some (j, b)⟩ :: rest) n l ds w := by
  refine ⟨wpListIn_step fun K hK => ?_⟩
  rw [if_pos (by simp [Region.wanted, A, ylk_eq hy])]
  refine ⟨fun _ _ => trivial, ?_⟩
  rw [semAt_nd rfl, eval_A, (run_call hf hcv hxs).eq]
  refine calls_up hc fun v w1 hR => ?_
  simp only [put_A]
  exact hK _ _ (h _ _ hR).up
theorem i_set {LL : List Oper} (t : Nat) {b : Bool} (b' : Bool) (hy : look l t = .bool b) (hb : b = b') (h : Rl P r ops Q LL n ((t, .bool b') :: l) ds w) : Rl P r ops Q LL n l ds w := by
  subst hb; exact ⟨by rw [A_pre hy]; exact h.up⟩
theorem i_re {LL : List Oper} (t : Nat) {v v' : Value} (hy : look l t = v) (hv : v = v') (h : Rl P r ops Q LL n ((t, v') :: l) ds w) : Rl P r ops Q LL n l ds w := by
  subst hv; exact ⟨by rw [A_pre hy]; exact h.up⟩
end steps
/-! ### iterators -/
/-- S' is S and what is new between two worlds; all else is as it was. -/
structure Ex (S S' : Nat → Prop) (w w' : World) : Prop where
  le : ∀ k, S k → S' k
  new : ∀ k, S' k → S k ∨ (w.heap.size ≤ k ∧ k < w'.heap.size)
  kp : Kp S w w'
theorem Ex.refl (S : Nat → Prop) (w : World) : Ex S S w w := ⟨fun _ h => h, fun _ h => .inl h, Kp.refl _ _⟩
theorem Ex.trans {S T U : Nat → Prop} {a b c : World} (h : Ex S T a b) (k : Ex T U b c) : Ex S U a c :=
  ⟨fun i hi => k.le i (h.le i hi), fun i hi => by
    have h1 := h.kp.size
    have h2 := k.kp.size
    rcases k.new i hi with hi | ⟨h3, h4⟩
    · rcases h.new i hi with hi | ⟨h3, h4⟩
      · exact .inl hi
      · exact .inr ⟨h3, by omega⟩
    · exact .inr ⟨by omega, h4⟩,
   h.kp.trans k.kp fun i hi hT => by
    rcases h.new i hT with h1 | ⟨h1, h2⟩
    · exact h1
    · omega⟩
/-- What speaks of the blocks of S alone. -/
def Stb (J : Nat → (Nat → Prop) → World → Prop) : Prop := ∀ i S a b, J i S a → Kp (fun k => ¬ S k) a b → J i S b
/-- An iterator (gf with what it has captured) that hands xs to yield, one by one; T: the blocks that are its own. -/
structure Itr (P : Program) (gf : FuncId) (lb : List Value) (T : Nat → Prop) (xs : List (List Value)) (w0 : World) : Prop where
  run : ∀ (yv : Value) (J Jx : Nat → (Nat → Prop) → World → Prop) (S0 : Nat → Prop) (W : World), mvv yv = some yv → Kp No w0 W → Stb J → Stb Jx → (∀ k, S0 k → k < W.heap.size ∧ ¬ T k) →
    (∀ i S a vs, xs[i]? = some vs → J i S a → (∀ k, S k → k < a.heap.size) → Kp (fun k => S0 k ∨ T k) W a → Yc P yv vs a fun v b => ∃ S', Ex S S' a b ∧ ((v = .bool true ∧ J (i + 1) S' b) ∨ (v = .bool false ∧ Jx (i + 1) S' b))) →
    J 0 S0 W → Ret P gf (yv :: lb) W fun v b => v = .tuple #[] ∧ Kp (fun k => S0 k ∨ T k) W b ∧ ∃ S', (∀ k, S0 k → S' k) ∧ (∀ k, S' k → S0 k ∨ (W.heap.size ≤ k ∧ k < b.heap.size)) ∧ (J xs.length S' b ∨ ∃ i, i ≤ xs.length ∧ Jx i S' b)
theorem Kp.putObj (w : World) (k : Nat) (o : Obj) : Kp (fun i => i = k) w (w.putObj k o) :=
  ⟨rfl, rfl, rfl, by simp, fun i _ hs => World.putObj_heap_other hs⟩
/-- The mark of a range over a function. -/
abbrev mark (D : Nat) : Deferred := { target := .collected D, args := #[] }
/-- What a round's body is asked for. -/
def Rq (P : Program) (J : Nat → (Nat → Prop) → World → Prop) (Jx : Code → Nat → (Nat → Prop) → World → Prop) (i : Nat) (S : Nat → Prop) (a : World) : Pst P := .base fun
  | .normal, _, b => ∃ S', Ex S S' a b ∧ J (i + 1) S' b
  | .ret, _, b => ∃ S', Ex S S' a b ∧ Jx .ret (i + 1) S' b
  | .exit id, _, b => ∃ S', Ex S S' a b ∧ Jx (.exit id) (i + 1) S' b
  | _, _, _ => False
section range
variable {P : Program} {q : Pst P} {w : World} {n : Nat} {l : Slots} {ds : List Deferred}
theorem rq_n {L : Nat} {J : Nat → (Nat → Prop) → World → Prop} {Jx : Code → Nat → (Nat → Prop) → World → Prop} {i : Nat} {S S' : Nat → Prop} {a : World} (he : Ex S S' a w) (h : J (i + 1) S' w) : Rp L (Rq P J Jx i S a) .normal n l w := ⟨⟨S', he, h⟩⟩
theorem rq_r {L : Nat} {J : Nat → (Nat → Prop) → World → Prop} {Jx : Code → Nat → (Nat → Prop) → World → Prop} {i : Nat} {S S' : Nat → Prop} {a : World} (he : Ex S S' a w) (h : Jx .ret (i + 1) S' w) : Rp L (Rq P J Jx i S a) .ret n l w := ⟨⟨S', he, h⟩⟩
theorem rq_x {L id : Nat} {J : Nat → (Nat → Prop) → World → Prop} {Jx : Code → Nat → (Nat → Prop) → World → Prop} {i : Nat} {S S' : Nat → Prop} {a : World} (he : Ex S S' a w) (h : Jx (.exit id) (i + 1) S' w) : Rp L (Rq P J Jx i S a) (.exit id) n l w := ⟨⟨S', he, h⟩⟩
/-- Where the assignments end the round begins. -/
def Bg {P : Program} (L : Nat) (S : Nat → Prop) (a : World) (body : Code) (qb : World → Pst P) (x : Act) (w : World) : Prop := Kp S a w ∧ ∀ w', Kp (fun k => k = L) w w' → body.wpIn (WF (some L)) 0 P ((qb w').denI L) x w'
theorem i_begin {L : Nat} {S : Nat → Prop} {a : World} {body : Code} {qb : World → Pst P} (hk : Kp S a w) (h : ∀ w', Kp (fun k => k = L) w w' → Rc P L body (qb w') n l w') : Rp L (.lp (Bg L S a body qb) q) .normal n l w :=
  ⟨⟨hk, fun w' hk => (h w' hk).up⟩⟩
def prs : Slots → List Tmp → List Value → Slots
  | l, t :: ts, v :: vs => prs ((t, v) :: l) ts vs
  | l, _, _ => l
theorem prs_fold : ∀ (ts : List Tmp) (vs : List Value) (l : Slots), (ts.toArray.zip vs.toArray).foldl (fun t (p, v) => t.setIfInBounds p v) (fr n l) = fr n (prs l ts vs) := by
  intro ts vs l
  rw [← Array.foldl_toList]
  simp only [Array.toList_zip]
  induction ts generalizing vs l with
  | nil => simp [prs]
  | cons t ts ih =>
    cases vs with
    | nil => simp [prs]
    | cons v vs =>
      simp only [List.zip_cons_cons, List.foldl_cons, fr_set, prs]
      exact ih _ _
/-- A range over a function. -/
theorem k_range {g : Operand} {ps : List Tmp} {as body : Code} {gf : FuncId} {lb : List Value} {T S0 : Nat → Prop} {xs : List (List Value)}
    (hg : ev n l g = .func (.func gf) #[] lb.toArray) (hok : callOk P gf = true) (it : Itr P gf lb T xs w)
    (J : Nat → (Nat → Prop) → World → Prop) (Jx : Code → Nat → (Nat → Prop) → World → Prop) (hJ : Stb J) (hJx : ∀ c, Stb (Jx c))
    (hT : ∀ k, T k → k < w.heap.size) (hS : ∀ k, S0 k → k < w.heap.size ∧ ¬ T k) (h0 : J 0 S0 w) (hps : ∀ vs ∈ xs, vs.length = ps.length)
    (hbody : ∀ L i S a vs, xs[i]? = some vs → J i S a → (∀ k, S k → k < a.heap.size) → Kp (fun k => S0 k ∨ T k) w a → ¬ S L → L < a.heap.size → w.heap.size ≤ L →
      Rc P L as (.lp (Bg L S a body (fun w' => Rq P J Jx i S w')) (.base fun _ _ _ => False)) n (prs l ps vs) a)
    (hdone : ∀ D S b, J xs.length S b → Kp (fun k => S0 k ∨ T k) w b → b.heap[D]? = some (.deferred (some [])) → w.heap.size ≤ D → ¬ S D → Po q .normal n l (mark D :: ds) b)
    (hret : ∀ D S b i, i ≤ xs.length → Jx .ret i S b → Kp (fun k => S0 k ∨ T k) w b → b.heap[D]? = some (.deferred (some [])) → w.heap.size ≤ D → ¬ S D → Po q .ret n l (mark D :: ds) b)
    (hexit : ∀ id D S b i, i ≤ xs.length → Jx (.exit id) i S b → Kp (fun k => S0 k ∨ T k) w b → b.heap[D]? = some (.deferred (some [])) → w.heap.size ≤ D → ¬ S D → Po q (.exit id) n l (mark D :: ds) b) :
    Wc P (.rangeFunc g ps.toArray as body) q n l ds w := by
  refine ⟨wpIn_wide (n := 0).1 (wpIn_rangeFunc ?_)⟩
  intro fn _
  obtain ⟨rec, hrec⟩ : ∃ rec : LoopState → Option Code → Loop, rec = fun st pe => { state := st, pending := pe, fn, tmps := fr n l, params := ps.toArray, assign := as, body, defers := w.heap.size } := ⟨_, rfl⟩
  obtain ⟨W1, hW1⟩ : ∃ W1, (w.alloc (.deferred (some []))).alloc (.loop (rec .ready none)) = W1 := ⟨_, rfl⟩
  have hL1 : W1.heap[w.heap.size + 1]? = some (.loop (rec .ready none)) := by
    rw [← hW1]; have := World.alloc_heap_new (w.alloc (.deferred (some []))) (.loop (rec .ready none)); rwa [World.size_alloc] at this
  have hK1 : W1.heap[w.heap.size]? = some (.deferred (some [])) := by
    rw [← hW1]; exact (Below.heap_alloc _ _ _ (by simp)).trans (World.alloc_heap_new w _)
  have k1 : Kp No w W1 := by rw [← hW1]; exact (Kp.alloc _ _).no (Kp.alloc _ _)
  have z1 : W1.heap.size = w.heap.size + 2 := by rw [← hW1]; simp
  refine ⟨w.heap.size + 1, [mark w.heap.size], W1, { target := .fn (.func gf) lb.toArray, args := #[.func (.yield (w.heap.size + 1)) #[] #[]] }, W1, gf,
    #[.func (.yield (w.heap.size + 1)) #[] #[]] ++ lb.toArray, W1, ?_, ?_, ?_, ?_, fun e => (by cases e), ?_⟩
  · rw [← hW1, hrec]; exact run_enterLoop_outer _ _ _ _ _
  · have hev : (A n l ds).eval g = .func (.func gf) #[] lb.toArray := by rw [eval_A]; exact hg
    simp only [resolve, hev]
    simp [go_sem]
  · intro f' hf'; trivial
  · simp [invoke, go_sem, run_callFunc hok]
  have hcall := it.run (.func (.yield (w.heap.size + 1)) #[] #[])
    (fun i S a => ∃ S1, (∀ k, S k ↔ S1 k ∨ k = w.heap.size ∨ k = w.heap.size + 1) ∧ ¬ S1 w.heap.size ∧ ¬ S1 (w.heap.size + 1) ∧ (∀ k, S1 k → S0 k ∨ w.heap.size ≤ k) ∧ J i S1 a ∧ a.heap[w.heap.size + 1]? = some (.loop (rec .ready none)) ∧ a.heap[w.heap.size]? = some (.deferred (some [])))
    (fun i S a => ∃ c S1, (∀ k, S k ↔ S1 k ∨ k = w.heap.size ∨ k = w.heap.size + 1) ∧ ¬ S1 w.heap.size ∧ ¬ S1 (w.heap.size + 1) ∧ (∀ k, S1 k → S0 k ∨ w.heap.size ≤ k) ∧ Jx c i S1 a ∧ (c = .ret ∨ ∃ id, c = .exit id) ∧ a.heap[w.heap.size + 1]? = some (.loop (rec .done (some c))) ∧ a.heap[w.heap.size]? = some (.deferred (some [])))
    (fun k => S0 k ∨ k = w.heap.size ∨ k = w.heap.size + 1) W1 rfl k1
    (by
      rintro i S a b ⟨S1, h1, h2, h3, h4, h5, h6, h7⟩ hk
      exact ⟨S1, h1, h2, h3, h4, hJ _ _ _ _ h5 (hk.mono fun k _ h hs => h ((h1 k).2 (.inl hs))), hk.get h6 (fun h => h ((h1 _).2 (.inr (.inr rfl)))), hk.get h7 (fun h => h ((h1 _).2 (.inr (.inl rfl))))⟩)
    (by
      rintro i S a b ⟨c, S1, h1, h2, h3, h4, h5, h8, h6, h7⟩ hk
      exact ⟨c, S1, h1, h2, h3, h4, hJx c _ _ _ _ h5 (hk.mono fun k _ h hs => h ((h1 k).2 (.inl hs))), h8, hk.get h6 (fun h => h ((h1 _).2 (.inr (.inr rfl)))), hk.get h7 (fun h => h ((h1 _).2 (.inr (.inl rfl))))⟩)
    (by
      rintro k (h | rfl | rfl)
      · exact ⟨by have := (hS k h).1; omega, (hS k h).2⟩
      · exact ⟨by omega, fun h => by have := hT _ h; omega⟩
      · exact ⟨by omega, fun h => by have := hT _ h; omega⟩)
    ?_ ⟨S0, fun k => Iff.rfl, fun h => by have := (hS _ h).1; omega, fun h => by have := (hS _ h).1; omega, fun k h => .inl h, hJ _ _ _ _ h0 (k1.mono fun _ _ h => h.elim), hL1, hK1⟩
  · have hcall2 := callsIn_wide (n := 0 - 1).2 hcall
    have e1 : (#[.func (.yield (w.heap.size + 1)) #[] #[]] ++ lb.toArray : Array Value) = (Value.func (.yield (w.heap.size + 1)) #[] #[] :: lb).toArray := by simp
    rw [e1]
    refine hcall2.mono ?_
    rintro e b ⟨v, rfl, rfl, hkb, S', hle, hnew, hor⟩
    have kwb : ∀ b', Kp (fun k => k = w.heap.size + 1) b b' → Kp (fun k => S0 k ∨ T k) w b' := fun b' hb' =>
      ⟨hb'.os.trans (hkb.os.trans k1.os), hb'.tape.trans (hkb.tape.trans k1.tape), hb'.output.trans (hkb.output.trans k1.output), by have := hb'.size; have := hkb.size; omega, fun k hk hs => by
        have h1 := k1.block k hk (fun h => h)
        have h2 := hkb.block k (by omega) (by
          rintro ((h | h | h) | h)
          · exact hs (.inl h)
          · omega
          · omega
          · exact hs (.inr h))
        have h3 := hb'.block k (by have := hkb.size; omega) (by show ¬ k = w.heap.size + 1; omega)
        rw [h3, h2, h1]⟩
    rcases hor with ⟨S1, h1, h2, h3, h4, h5, h6, h7⟩ | ⟨i, hi, c, S1, h1, h2, h3, h4, h5, h8, h6, h7⟩
    · have hk2 := Kp.putObj b (w.heap.size + 1) (.loop { state := .exhausted, pending := none, fn, tmps := fr n l, params := ps.toArray, assign := as, body, defers := w.heap.size })
      refine ⟨none, _, by have := run_endLoop (P := P) h6 (by rw [hrec]; simp); rw [hrec] at this; exact this, ?_⟩
      exact (hdone w.heap.size S1 _ (hJ _ _ _ _ h5 (hk2.mono fun k _ h hs => h3 (by rw [← h]; exact hs))) (kwb _ hk2) (hk2.get h7 (by show ¬ w.heap.size = w.heap.size + 1; omega)) (Nat.le_refl _) h2).up
    · have hk2 := Kp.putObj b (w.heap.size + 1) (.loop { state := .exhausted, pending := some c, fn, tmps := fr n l, params := ps.toArray, assign := as, body, defers := w.heap.size })
      have hJc := hJx c _ _ _ _ h5 (hk2.mono fun k _ h hs => h3 (by rw [← h]; exact hs))
      have hD := hk2.get h7 (by show ¬ w.heap.size = w.heap.size + 1; omega)
      refine ⟨some c, _, by have := run_endLoop (P := P) h6 (by rw [hrec]; simp); rw [hrec] at this; exact this, ?_⟩
      rcases h8 with rfl | ⟨id, rfl⟩
      · exact wpIn_ret (hret w.heap.size S1 _ i hi hJc (kwb _ hk2) hD (Nat.le_refl _) h2).up
      · exact wpIn_exit (hexit id w.heap.size S1 _ i hi hJc (kwb _ hk2) hD (Nat.le_refl _) h2).up
  · rintro i S a vs hvs ⟨S1, h1, h2, h3, h4, h5, h6, h7⟩ hlt hka
    have kwa : Kp (fun k => S0 k ∨ T k) w a :=
      ⟨hka.os.trans k1.os, hka.tape.trans k1.tape, hka.output.trans k1.output, by have := hka.size; omega, fun k hk hs => by
        have h1 := k1.block k hk (fun h => h)
        have h2 := hka.block k (by omega) (by
          rintro ((h | h | h) | h)
          · exact hs (.inl h)
          · omega
          · omega
          · exact hs (.inr h))
        rw [h2, h1]⟩
    have hlen := hps vs (List.mem_of_getElem? hvs)
    have hLa := lt_of_get h6
    have hy := run_yield (P := P) (args := vs.toArray) h6 (by rw [hrec]; simpa using hlen)
    have hb := (hbody (w.heap.size + 1) i S1 a vs hvs h5 (fun k hk => hlt k ((h1 k).2 (.inl hk))) kwa h3 hLa (by omega)).up
    refine .inr ⟨w.heap.size + 1, rfl, fn, _, as, body, by rw [hrec] at hy; exact hy, ?_⟩
    refine roundIn_of_wpIn (F := Fence.wide) (n := 0) trivial ?_
    rw [prs_fold]
    refine wpIn_mono hb ?_
    rintro e a1 w1 hp
    cases e with
    | normal =>
      obtain ⟨hk1, hp⟩ := hp
      have hr1 := hk1.get h6 h3
      have hD1 := hk1.get h7 h2
      refine ⟨_, run_beginRound hr1 (by rw [hrec]), ?_⟩
      have hk2 := Kp.putObj w1 (w.heap.size + 1) (.loop { rec .ready none with state := .busy })
      have hr2 : (w1.putObj (w.heap.size + 1) (.loop { rec .ready none with state := .busy })).heap[w.heap.size + 1]? = some (.loop { rec .ready none with state := .busy }) := World.putObj_heap_same (lt_of_get hr1)
      have hD2 := hk2.get hD1 (by show ¬ w.heap.size = w.heap.size + 1; omega)
      refine wpIn_mono (hp _ hk2) ?_
      have fin : ∀ (jump : Option Code) (b : World) (S' : Nat → Prop), Ex S1 S' (w1.putObj (w.heap.size + 1) (.loop { rec .ready none with state := .busy })) b →
          (Instr.endRound (w.heap.size + 1) jump).run P b = .ok (.bool jump.isNone) (b.putObj (w.heap.size + 1) (.loop (rec (if jump.isNone then .ready else .done) jump))) ∧
          (b.putObj (w.heap.size + 1) (.loop (rec (if jump.isNone then .ready else .done) jump))).heap[w.heap.size + 1]? = some (.loop (rec (if jump.isNone then .ready else .done) jump)) ∧
          (b.putObj (w.heap.size + 1) (.loop (rec (if jump.isNone then .ready else .done) jump))).heap[w.heap.size]? = some (.deferred (some [])) ∧
          Kp (fun k => ¬ S' k) b (b.putObj (w.heap.size + 1) (.loop (rec (if jump.isNone then .ready else .done) jump))) ∧ ¬ S' w.heap.size ∧ ¬ S' (w.heap.size + 1) ∧ (∀ k, S' k → S0 k ∨ w.heap.size ≤ k) ∧
          Ex S (fun k => S' k ∨ k = w.heap.size ∨ k = w.heap.size + 1) a (b.putObj (w.heap.size + 1) (.loop (rec (if jump.isNone then .ready else .done) jump))) := by
        intro jump b S' hex
        have hr3 := hex.kp.get hr2 h3
        have hD3 := hex.kp.get hD2 h2
        have hne := run_endRound (P := P) jump hr3
        have hz1 := hk1.size
        have hz2 := hex.kp.size
        have hz3 : (w1.putObj (w.heap.size + 1) (.loop { rec .ready none with state := .busy })).heap.size = w1.heap.size := by simp
        have hs1 : ¬ S' w.heap.size := fun h => by
          rcases hex.new _ h with h | ⟨h, _⟩
          · exact h2 h
          · have := lt_of_get hD1; omega
        have hs2 : ¬ S' (w.heap.size + 1) := fun h => by
          rcases hex.new _ h with h | ⟨h, _⟩
          · exact h3 h
          · omega
        have hk3 := Kp.putObj b (w.heap.size + 1) (.loop (rec (if jump.isNone then .ready else .done) jump))
        refine ⟨by rw [hrec] at hne ⊢; exact hne, World.putObj_heap_same (lt_of_get hr3), hk3.get hD3 (by show ¬ w.heap.size = w.heap.size + 1; omega), hk3.mono (fun k _ h hs => hs2 (by rw [← h]; exact hs)), hs1, hs2, fun k hk => ?_, ⟨fun k hk => ?_, fun k hk => ?_, ?_⟩⟩
        · rcases hex.new _ hk with h | ⟨h, _⟩
          · exact h4 k h
          · exact .inr (by omega)
        · rcases (h1 k).1 hk with h | h
          · exact .inl (hex.le k h)
          · exact .inr h
        · rcases hk with h | h
          · rcases hex.new _ h with h | ⟨h, h'⟩
            · exact .inl ((h1 k).2 (.inl h))
            · exact .inr ⟨by omega, by simp; omega⟩
          · exact .inl ((h1 k).2 (.inr h))
        · refine ⟨hex.kp.os.trans hk1.os, hex.kp.tape.trans hk1.tape, hex.kp.output.trans hk1.output, by simp; omega, fun k hk hs => ?_⟩
          have n1 : k ≠ w.heap.size + 1 := fun e => hs ((h1 k).2 (.inr (.inr e)))
          have n2 : ¬ S1 k := fun e => hs ((h1 k).2 (.inl e))
          rw [World.putObj_heap_other n1, hex.kp.block k (by omega) n2, World.putObj_heap_other n1, hk1.block k hk n2]
      rintro e a3 w3 hp3
      cases e with
      | normal =>
        obtain ⟨S', hex, hj⟩ := hp3
        obtain ⟨f1, f2, f3, f4, f5, f6, f7, f8⟩ := fin none w3 S' hex
        exact ⟨_, _, f1, _, rfl, _, f8, .inl ⟨rfl, S', fun _ => Iff.rfl, f5, f6, f7, hJ _ _ _ _ hj f4, f2, f3⟩⟩
      | ret =>
        obtain ⟨S', hex, hj⟩ := hp3
        obtain ⟨f1, f2, f3, f4, f5, f6, f7, f8⟩ := fin (some .ret) w3 S' hex
        exact ⟨_, _, f1, _, rfl, _, f8, .inr ⟨rfl, .ret, S', fun _ => Iff.rfl, f5, f6, f7, hJx _ _ _ _ _ hj f4, .inl rfl, f2, f3⟩⟩
      | exit id =>
        obtain ⟨S', hex, hj⟩ := hp3
        obtain ⟨f1, f2, f3, f4, f5, f6, f7, f8⟩ := fin (some (.exit id)) w3 S' hex
        exact ⟨_, _, f1, _, rfl, _, f8, .inr ⟨rfl, .exit id, S', fun _ => Iff.rfl, f5, f6, f7, hJx _ _ _ _ _ hj f4, .inr ⟨id, rfl⟩, f2, f3⟩⟩
      | _ => exact hp3.elim
    | _ => exact hp.elim
/-- Where ways meet behind the next piece of code. -/
theorem k_cut2 {x y z : Code} {σ : Type} (live : σ → Slots) (inv : σ → World → Prop) (hx : Wc P x (.sq y (.lp (Meet n ds live inv) q)) n l ds w) (hy : ∀ s l w, inv s w → Wc P z q n (live s ++ l) ds w) : Wc P x (.sq y (.sq z q)) n l ds w := by
  have key : ∀ a' w', Meet n ds live inv a' w' → z.wp P q.den a' w' := by
    rintro a' w' ⟨s, l', rfl, hag, hi⟩
    have := (hy s l' w' hi).up
    rw [← A_ag (live s) hag] at this
    exact this
  have k1 : ∀ e a' w', (Pst.lp (Meet n ds live inv) q).den e a' w' → (Pst.sq z q).den e a' w' := by
    intro e a' w' hq
    cases e with
    | normal => exact key _ _ hq
    | _ => exact hq
  refine ⟨wp_mono hx.up ?_⟩
  intro e a' w' hq
  cases e with
  | normal => exact wp_mono hq k1
  | _ => exact hq
/-- The end of a function that ranges over a function. -/
def FinM (P : Program) (fn : Func) (R : Value → World → Prop) : Pst P := .base (bodyPostM Fence.wide 0 P fn fun e w' => ∃ v, e = .returned v ∧ R v w')
theorem ret_enterM {f : FuncId} {fn : Func} {c : Code} {args : List Value} {R : Value → World → Prop}
    (hf : P.funcs[f]? = some fn) (hb : fn.body = some c) (hn : fn.ntmps = n) (hl : Nat.ble args.length n = true)
    (h : Wc P c (FinM P fn R) n (enum 0 args) [] w) : Ret P f args w R := by
  refine callsIn_wide.1 (callsIn_of_wp_marks (F := Fence.wide) (n := 0) hf hb trivial ?_)
  rw [hn, fr_init args n (Nat.le_of_ble_eq_true hl)]
  exact wpIn_wide.2 h.up
theorem postM_0 {fn : Func} {v : Value} {R : Value → World → Prop} (hr : (results fn (fr n l)).run P w = .ok v w) (h : R v w) : Po (FinM P fn R) .ret n l [] w :=
  ⟨⟨v, hr, v, rfl, h⟩⟩
theorem postM_0n {fn : Func} {v : Value} {R : Value → World → Prop} (hr : (results fn (fr n l)).run P w = .ok v w) (h : R v w) : Po (FinM P fn R) .normal n l [] w :=
  ⟨⟨v, hr, v, rfl, h⟩⟩
theorem postM_1 {fn : Func} {v : Value} {R : Value → World → Prop} {D : Nat} (hD : w.heap[D]? = some (.deferred (some []))) (h : ∀ w', Kp (fun k => k = D) w w' → (results fn (fr n l)).run P w' = .ok v w' ∧ R v w') :
    Po (FinM P fn R) .ret n l [mark D] w := by
  have := h _ (Kp.putObj w D (.deferred none))
  exact ⟨⟨by simp, .inl ⟨D, _, rfl, run_takeDeferred hD, v, this.1, v, rfl, this.2⟩⟩⟩
theorem postM_1n {fn : Func} {v : Value} {R : Value → World → Prop} {D : Nat} (hD : w.heap[D]? = some (.deferred (some []))) (h : ∀ w', Kp (fun k => k = D) w w' → (results fn (fr n l)).run P w' = .ok v w' ∧ R v w') :
    Po (FinM P fn R) .normal n l [mark D] w := by
  have := h _ (Kp.putObj w D (.deferred none))
  exact ⟨⟨by simp, .inl ⟨D, _, rfl, run_takeDeferred hD, v, this.1, v, rfl, this.2⟩⟩⟩
end range
/-! ### regions that draw their order, where two that make memory may come first -/
section orders
variable {P : Program} {w : World} {q : Pst P} {S : World → Prop} {z fuel : Nat} {n : Nat} {l : Slots} {ds : List Deferred} {listed : Array Bool} {i d : Nat} {ty : TypeId} {pos : String} {af : Array Edge} {v : Value} {op : Op}
structure Wt (P : Program) (ops : Array Oper) (q : Pst P) (S : World → Prop) (z fuel : Nat) (listed : Array Bool) (n : Nat) (l : Slots) (ds : List Deferred) (w : World) : Prop where
  up : Dc ops listed → wpL P ops (NoP q.den) S z fuel listed (A n l ds) w
structure Ws (P : Program) (ops : Array Oper) (q : Pst P) (S : World → Prop) (z fuel : Nat) (listed : Array Bool) (i : Nat) (n : Nat) (l : Slots) (ds : List Deferred) (w : World) : Prop where
  up : Dc ops (listed.setIfInBounds i true) → wpOp P ops (NoP q.den) i (fun a' w' => (i ≠ z → S w') ∧ wpL P ops (NoP q.den) S z fuel (listed.setIfInBounds i true) a' w') (A n l ds) w
theorem k_ht {r : Nat} {os : List Oper} (S : World → Prop) (z : Nat) (hm : P.follows .mixedOrders = true) (h : ∀ w1, Kp No w w1 → w1.heap = w.heap → Wt P os.toArray q S z os.toArray.size (Array.replicate os.toArray.size false) n l ds w1) : Wc P (.region r os.toArray true) q n l ds w := by
  refine ⟨Code.wp_mono (Q := NoP q.den) (fun e a w h => by cases e <;> first | exact h | exact (h : False).elim) ?_⟩
  refine wp_region_any hm (wpAny_of_L (S := S) (z := z) _ _ _ _ ?_)
  exact (h w.drew (Kp.drew w) rfl).up (Dc.start _)
variable {ops : Array Oper}
theorem t_1 (hr : Region.ready .any ops listed = [i]) (h : Ws P ops q S z fuel listed i n l ds w) : Wt P ops q S z (fuel + 1) listed n l ds w := by
  refine ⟨fun hd => ⟨fun e => (by rw [hr] at e; cases e), fun j hj => ?_⟩⟩
  have hj' := hj
  rw [hr] at hj'
  have := List.mem_singleton.1 hj'
  subst this
  exact h.up (hd.step hj)
theorem t_2 {i2 : Nat} (hr : Region.ready .any ops listed = [i, i2]) (h : Ws P ops q S z fuel listed i n l ds w) (h2 : Ws P ops q S z fuel listed i2 n l ds w) : Wt P ops q S z (fuel + 1) listed n l ds w := by
  refine ⟨fun hd => ⟨fun e => (by rw [hr] at e; cases e), fun j hj => ?_⟩⟩
  have hj' := hj
  rw [hr] at hj'
  rcases List.mem_cons.1 hj' with e | hj'
  · subst e; exact h.up (hd.step hj)
  · have := List.mem_singleton.1 hj'
    subst this
    exact h2.up (hd.step hj)
theorem t_q (hz : Waits ops z) (hs : Region.noSelect ops = true) (hi : ops[i]? = some ⟨some d, op, ty, pos, af, none⟩) (hf : Region.free .any ops listed i = true) (hc : (Region.ready .any ops listed).contains i = true) (hS : S w)
    (hr : ∀ w, S w → Rn P (ev n l) ⟨some d, op, ty, pos, af, none⟩ w (.ok (.value v) w)) (h : Wt P ops q S z fuel (listed.setIfInBounds i true) n ((d, v) :: l) ds w) : Wt P ops q S z (fuel + 1) listed n l ds w := by
  refine ⟨fun hd => ?_⟩
  have hmem : i ∈ Region.ready .any ops listed := by simpa using hc
  refine wpL_first (v := v) hz hi (Region.noSelect_spec hs) (fun c a w h => h) fuel listed _ w hd (Region.free_spec hi hf) hmem (.inl ⟨by simp [Region.wanted], fun w hw => by rw [eval_A]; exact (hr w hw).eq⟩) hS ?_
  rw [put_A]
  exact h.up (hd.step hmem)
theorem ts_v {w1 : World} (hi : ops[i]? = some ⟨some d, op, ty, pos, af, none⟩) (hr : Rn P (ev n l) ⟨some d, op, ty, pos, af, none⟩ w (.ok (.value v) w1)) (hS : i ≠ z → S w1) (h : Wt P ops q S z fuel (listed.setIfInBounds i true) n ((d, v) :: l) ds w1) : Ws P ops q S z fuel listed i n l ds w := by
  refine ⟨fun hd => ?_⟩
  unfold wpOp
  simp only [hi]
  rw [if_pos (by simp [Region.wanted])]
  refine .inl ?_
  unfold Oper.wp
  rw [eval_A, hr.eq, Oper.upon_value, put_A]
  exact ⟨hS, h.up hd⟩
theorem ts_nb {r : Addr → Value} {cs : List Value} {T : TypeId} (hi : ops[i]? = some ⟨some d, op, ty, pos, af, none⟩) (hr : Rn P (ev n l) ⟨some d, op, ty, pos, af, none⟩ w (.ok (.value (r ⟨w.heap.size, 0, none⟩)) (w.alloc (.cells cs.toArray T))))
    (h : ∀ b w1, Nb w b cs T w1 → (i ≠ z → S w1) ∧ Wt P ops q S z fuel (listed.setIfInBounds i true) n ((d, r ⟨b, 0, none⟩) :: l) ds w1) : Ws P ops q S z fuel listed i n l ds w :=
  ts_v hi hr (h _ _ (nb_alloc w cs T)).1 (h _ _ (nb_alloc w cs T)).2
theorem t_o {os : List Oper} {ord : List (Nat × Bool)} {L : List (Nat × Bool × Oper)} (hz : Waits os.toArray z) (hs : Region.noSelect os.toArray = true) (ho : okOrd os.toArray ord listed = true) (hL : ordL os ord = some L) (hn : Nat.beq ord.length fuel = true)
    (h : Wo P os.toArray q S z L n l ds w) : Wt P os.toArray q S z fuel listed n l ds w := by
  refine ⟨fun hd => ?_⟩
  obtain ⟨h1, h2⟩ := ordL_map hL
  have hlen : L.length = fuel := by rw [← Nat.eq_of_beq_eq_true hn, ← h1, List.length_map]
  have := wpL_of_O hz hs (fun c a b w h => h) ord L listed _ _ hd ho h1 (fun x hx => by simpa using h2 x hx) h.up
  rw [hlen] at this
  exact this
end orders
end Go.Proofs.YtlkipdfipaipbaaDoor.Fw
