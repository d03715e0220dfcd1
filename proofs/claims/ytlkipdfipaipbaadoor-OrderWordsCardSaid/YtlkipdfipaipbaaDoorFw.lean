/- Own walk lemmas over any program: frames as lists of slots, one lemma per operation, worlds as variables with what is kept of them. -/
import Derived.WalkKit
import Derived.WalkLawsBesides
import Derived.Deep.LoopGhost
namespace Go.Proofs.YtlkipdfipaipbaaDoor.Fw
open Go Go.RowKit
set_option linter.unusedSimpArgs false
set_option linter.unusedVariables false

/-! ### frames -/
abbrev Slots := List (Nat × Value)
def look : Slots → Nat → Value
  | [], _ => undef
  | e :: l, t => bif Nat.beq e.1 t then e.2 else look l t
def lk (n : Nat) (l : Slots) (t : Nat) : Value := bif Nat.blt t n then look l t else undef
def fr (n : Nat) (l : Slots) : Array Value := (Array.range n).map (look l)
def A (n : Nat) (l : Slots) (ds : List Deferred) : Act := ⟨fr n l, ds⟩
def ev (n : Nat) (l : Slots) : Operand → Value
  | .tmp t => lk n l t
  | .const v => v
  | .global g => .pointer (some ⟨g, 0, none⟩)
  | .func f => .func (.func f) #[] #[]
theorem fr_size (n : Nat) (l : Slots) : (fr n l).size = n := by simp [fr]
theorem getD_fr (n : Nat) (l : Slots) (t : Nat) : (fr n l).getD t undef = lk n l t := by
  unfold fr lk
  by_cases h : t < n
  · have hb : Nat.blt t n = true := by simpa [Nat.blt_eq] using h
    simp [Array.getD, h, hb]
  · have hb : Nat.blt t n = false := by
      rw [Bool.eq_false_iff]; intro hh; exact h (by simpa [Nat.blt_eq] using hh)
    simp [Array.getD, h, hb]
theorem fr_set (n : Nat) (l : Slots) (t : Nat) (v : Value) : (fr n l).setIfInBounds t v = fr n ((t, v) :: l) := by
  apply Array.ext
  · simp [fr]
  · intro i h1 h2
    simp [fr] at h2
    by_cases e : t = i
    · subst e; simp [fr, look, Array.getElem_setIfInBounds, h2]
    · have hb : Nat.beq t i = false := by
        rw [Bool.eq_false_iff]; intro hh; exact e (Nat.eq_of_beq_eq_true hh)
      simp [fr, look, Array.getElem_setIfInBounds, h2, e, hb]
theorem eval_A (n : Nat) (l : Slots) (ds : List Deferred) : (A n l ds).eval = ev n l := by
  funext o
  cases o with
  | tmp t => exact getD_fr n l t
  | _ => rfl
theorem put_A (n : Nat) (l : Slots) (ds : List Deferred) (d : Nat) (v : Value) : (A n l ds).put (some d) v = A n ((d, v) :: l) ds := by
  simp [Act.put, A, fr_set]
theorem put_A_none (n : Nat) (l : Slots) (ds : List Deferred) (v : Value) : (A n l ds).put none v = A n l ds := rfl
def enum (k : Nat) : List Value → Slots
  | [] => []
  | v :: r => (k, v) :: enum (k + 1) r
theorem look_enum (as : List Value) : ∀ k t, look (enum k as) t = if k ≤ t then (as[t - k]?).getD undef else undef := by
  induction as with
  | nil => intro k t; simp [enum, look]
  | cons v r ih =>
    intro k t
    simp only [enum, look, ih]
    by_cases e : k = t
    · subst e
      have : Nat.beq k k = true := by simp
      simp [this]
    · have hb : Nat.beq k t = false := by
        rw [Bool.eq_false_iff]; intro hh; exact e (Nat.eq_of_beq_eq_true hh)
      simp only [hb, cond_false]
      by_cases h : k ≤ t
      · have h1 : k + 1 ≤ t := by omega
        have h2 : t - k = (t - (k + 1)) + 1 := by omega
        simp [h, h1, h2]
      · have h1 : ¬ k + 1 ≤ t := by omega
        simp [h, h1]
theorem fr_init (as : List Value) (n : Nat) (h : as.length ≤ n) : as.toArray ++ Array.replicate (n - as.toArray.size) undef = fr n (enum 0 as) := by
  apply Array.ext
  · simp [fr]; omega
  · intro i h1 h2
    simp [fr] at h2
    simp only [fr, Array.getElem_map, Array.getElem_range, look_enum, Nat.zero_le, if_true, Nat.sub_zero]
    rw [Array.getElem_append]
    split
    · rename_i hi
      simp at hi
      simp [hi]
    · rename_i hi
      simp at hi
      simp [hi]
theorem A_pre {n : Nat} {l : Slots} {ds : List Deferred} {t : Nat} {v : Value} (h : look l t = v) : A n l ds = A n ((t, v) :: l) ds := by
  unfold A fr
  congr 1
  apply Array.ext
  · simp
  · intro i h1 h2
    simp only [Array.getElem_map, Array.getElem_range, look]
    by_cases e : t = i
    · subst e; simp [h]
    · have hb : Nat.beq t i = false := by
        rw [Bool.eq_false_iff]; intro hh; exact e (Nat.eq_of_beq_eq_true hh)
      simp [hb]
/-- The slots of m hold in l what m says. -/
def Ag (l : Slots) : Slots → Prop
  | [] => True
  | e :: m => look l e.1 = e.2 ∧ Ag l m
theorem look_cons_self {l : Slots} {t : Nat} {v : Value} (h : look l t = v) (u : Nat) : look ((t, v) :: l) u = look l u := by
  simp only [look]
  by_cases e : t = u
  · subst e; simp [h]
  · have hb : Nat.beq t u = false := by
      rw [Bool.eq_false_iff]; intro hh; exact e (Nat.eq_of_beq_eq_true hh)
    simp [hb]
theorem A_ag {n : Nat} {ds : List Deferred} (m : Slots) : ∀ {l : Slots}, Ag l m → A n l ds = A n (m ++ l) ds := by
  have key : ∀ (m : Slots) {l : Slots}, Ag l m → ∀ u, look (m ++ l) u = look l u := by
    intro m
    induction m with
    | nil => intro l _ u; rfl
    | cons e m ih =>
      intro l h u
      obtain ⟨h1, h2⟩ := h
      have := ih h2
      rw [List.cons_append]
      show look ((e.1, e.2) :: (m ++ l)) u = _
      rw [look_cons_self (by rw [this]; exact h1), this]
  intro l h
  have hk := key m h
  unfold A fr
  congr 1
  apply Array.ext
  · simp
  · intro i h1 h2
    simp only [Array.getElem_map, Array.getElem_range, hk]

/-- The value, its head seen. -/
def mvv : Value → Option Value
  | .bool b => some (.bool b)
  | .int k n => some (.int k n)
  | .float k b => some (.float k b)
  | .complex k a b => some (.complex k a b)
  | .string s => some (.string s)
  | .pointer a => some (.pointer a)
  | .slice a n c => some (.slice a n c)
  | .map r => some (.map r)
  | .chan r => some (.chan r)
  | .func f a b => some (.func f a b)
  | .nilFunc => some .nilFunc
  | .iface t v => some (.iface t v)
  | .nilIface => some .nilIface
  | .agg c => some (.agg c)
  | .tuple c => some (.tuple c)
theorem mvv_eq {v u : Value} (h : mvv v = some u) : v = u := by cases v <;> simpa [mvv] using h

/-! ### what is kept of a world -/
/-- w' is w, but for blocks of S and new ones. -/
structure Kp (S : Nat → Prop) (w w' : World) : Prop where
  os : w'.os = w.os
  tape : w'.tape = w.tape
  output : w'.output = w.output
  size : w.heap.size ≤ w'.heap.size
  block : ∀ k, k < w.heap.size → ¬ S k → w'.heap[k]? = w.heap[k]?
/-- No old block. -/
abbrev No : Nat → Prop := fun _ => False
theorem Kp.refl (S : Nat → Prop) (w : World) : Kp S w w := ⟨rfl, rfl, rfl, Nat.le_refl _, fun _ _ _ => rfl⟩
theorem Kp.trans {S T : Nat → Prop} {a b c : World} (h : Kp S a b) (k : Kp T b c) (hT : ∀ i, i < a.heap.size → T i → S i) : Kp S a c :=
  ⟨k.os.trans h.os, k.tape.trans h.tape, k.output.trans h.output, Nat.le_trans h.size k.size,
    fun i hi hs => (k.block i (Nat.lt_of_lt_of_le hi h.size) (fun ht => hs (hT i hi ht))).trans (h.block i hi hs)⟩
theorem Kp.no {S : Nat → Prop} {a b c : World} (h : Kp S a b) (k : Kp No b c) : Kp S a c := h.trans k fun _ _ h => h.elim
theorem Kp.mono {S T : Nat → Prop} {a b : World} (h : Kp S a b) (hT : ∀ i, i < a.heap.size → S i → T i) : Kp T a b :=
  ⟨h.os, h.tape, h.output, h.size, fun i hi hs => h.block i hi fun hS => hs (hT i hi hS)⟩
theorem Kp.below {w w' : World} (h : Kp No w w') : Below w.heap.size w w' := ⟨h.os, h.tape, h.output, h.size, fun k hk => h.block k hk id⟩
theorem Kp.of_below {w w' : World} (h : Below w.heap.size w w') : Kp No w w' := ⟨h.os, h.tape, h.output, h.size, fun k hk _ => h.block k hk⟩
theorem Kp.of_grown {w w' : World} {r : Option Nat} (h : w.grownBy w' r) : Kp (fun k => some k = r) w w' := ⟨h.os, h.tape, h.output, h.size, fun k hk hs => h.block k hk hs⟩
theorem Kp.drewN (w : World) (n : Nat) : Kp No w (w.drewN n) := ⟨rfl, rfl, rfl, Nat.le_refl _, fun _ _ _ => rfl⟩
theorem Kp.drew (w : World) : Kp No w w.drew := ⟨rfl, rfl, rfl, Nat.le_refl _, fun _ _ _ => rfl⟩
theorem Kp.alloc (w : World) (o : Obj) : Kp No w (w.alloc o) := Kp.of_below ((Below.refl _ _).alloc (Nat.le_refl _) o)
theorem Kp.setCell (w : World) (a : Addr) (v : Value) : Kp (fun k => k = a.block) w (w.setCell a v) :=
  ⟨rfl, rfl, rfl, by simp [World.setCell], fun k _ hs => Below.heap_setCell _ _ _ _ hs⟩
theorem lt_of_get {w : World} {b : Nat} {o : Obj} (h : w.heap[b]? = some o) : b < w.heap.size := by
  rcases Nat.lt_or_ge b w.heap.size with h1 | h1
  · exact h1
  · rw [Array.getElem?_eq_none h1] at h; cases h
theorem Kp.get {S : Nat → Prop} {w w' : World} {b : Nat} {o : Obj} (k : Kp S w w') (h : w.heap[b]? = some o) (hn : ¬ S b) : w'.heap[b]? = some o :=
  (k.block b (lt_of_get h) hn).trans h
theorem Kp.get0 {w w' : World} {b : Nat} {o : Obj} (k : Kp No w w') (h : w.heap[b]? = some o) : w'.heap[b]? = some o := k.get h id
theorem blk_of_cell {w : World} {a : Addr} {v : Value} (h : w.cell? a = some v) : ∃ o, w.heap[a.block]? = some o := by
  cases e : w.heap[a.block]? with
  | none => simp [World.cell?, e] at h
  | some o => exact ⟨o, rfl⟩
theorem Kp.cell {S : Nat → Prop} {w w' : World} {a : Addr} {v : Value} (k : Kp S w w') (h : w.cell? a = some v) (hn : ¬ S a.block) : w'.cell? a = some v := by
  obtain ⟨o, ho⟩ := blk_of_cell h
  have h1 := k.get ho hn
  rw [← h]
  exact World.cell?_of_block (by rw [h1, ho])
theorem Kp.cell0 {w w' : World} {a : Addr} {v : Value} (k : Kp No w w') (h : w.cell? a = some v) : w'.cell? a = some v := k.cell h id
theorem cell_of_blk {w : World} {b o : Nat} {cs : List Value} {T : TypeId} {fz : Nat × Nat} {v : Value} (h : w.heap[b]? = some (.cells cs.toArray T fz)) (hv : cs[o]? = some v) : w.cell? ⟨b, o, none⟩ = some v := by
  simp [World.cell?, h, hv]

/-! ### calls that return -/
/-- What is asked behind a piece of code: at the function's end, or what follows in a sequence, a block, a loop. -/
inductive Pst (P : Program) : Type
  | base (Q : Exit → Act → World → Prop)
  | sq (y : Code) (q : Pst P)
  | bk (i : Nat) (q : Pst P)
  | lp (K : Act → World → Prop) (q : Pst P)
def Pst.den {P : Program} : Pst P → (Exit → Act → World → Prop)
  | .base Q => Q
  | .sq y q => Exit.then (y.wp P q.den) q.den
  | .bk i q => Exit.inBlock i q.den
  | .lp K q => Exit.then K q.den
structure Wc (P : Program) (c : Code) (q : Pst P) (n : Nat) (l : Slots) (ds : List Deferred) (w : World) : Prop where
  up : c.wp P q.den (A n l ds) w
structure Po {P : Program} (q : Pst P) (e : Exit) (n : Nat) (l : Slots) (ds : List Deferred) (w : World) : Prop where
  up : q.den e (A n l ds) w
structure Wl (P : Program) (ops : Array Oper) (q : Pst P) (L : List Oper) (n : Nat) (l : Slots) (ds : List Deferred) (w : World) : Prop where
  up : wpList P ops q.den L (A n l ds) w

/-- The call returns a value, and leaves a world, as R says. -/
def Ret (P : Program) (f : FuncId) (args : List Value) (w : World) (R : Value → World → Prop) : Prop :=
  Calls P f args.toArray w fun e w' => ∃ v, e = .returned v ∧ R v w'
theorem Ret.mono {P : Program} {f : FuncId} {args : List Value} {w : World} {R R' : Value → World → Prop} (h : Ret P f args w R) (hr : ∀ v w', R v w' → R' v w') : Ret P f args w R' :=
  Calls.mono h fun _ _ ⟨v, e, r⟩ => ⟨v, e, hr _ _ r⟩
def Fin (P : Program) (fn : Func) (R : Value → World → Prop) : Pst P := .base (bodyPost P fn fun e w' => ∃ v, e = .returned v ∧ R v w')
theorem ret_enter {P : Program} {f : FuncId} {fn : Func} {c : Code} {args : List Value} {w : World} {R : Value → World → Prop} {n : Nat}
    (hf : P.funcs[f]? = some fn) (hb : fn.body = some c) (hn : fn.ntmps = n) (hl : Nat.ble args.length n = true)
    (h : Wc P c (Fin P fn R) n (enum 0 args) [] w) : Ret P f args w R := by
  refine calls_of_wp hf hb ?_
  rw [hn, fr_init args n (Nat.le_of_ble_eq_true hl)]
  exact h.up
theorem res_tmp {P : Program} {fn : Func} {t : Tmp} {n : Nat} {l : Slots} {w : World} {v : Value} (hr : fn.results = #[.tmp t]) (hv : lk n l t = v) : (results fn (fr n l)).run P w = .ok v w := by
  rw [results_tmp hr, getD_fr, hv]
theorem post_ret {P : Program} {fn : Func} {n : Nat} {l : Slots} {w : World} {v : Value} {R : Value → World → Prop} (hr : (results fn (fr n l)).run P w = .ok v w) (h : R v w) :
    Po (Fin P fn R) .ret n l [] w := ⟨⟨rfl, v, hr, v, rfl, h⟩⟩
theorem post_end {P : Program} {fn : Func} {n : Nat} {l : Slots} {w : World} {v : Value} {R : Value → World → Prop} (hr : (results fn (fr n l)).run P w = .ok v w) (h : R v w) :
    Po (Fin P fn R) .normal n l [] w := ⟨⟨rfl, v, hr, v, rfl, h⟩⟩
theorem ret_1 {P : Program} {fn : Func} {t : Tmp} {n : Nat} {l : Slots} {w : World} {v : Value} {R : Value → World → Prop} (hr : fn.results = #[.tmp t]) (hv : mvv (lk n l t) = some v) (h : R v w) :
    Po (Fin P fn R) .ret n l [] w := post_ret (res_tmp hr (mvv_eq hv)) h
theorem end_0 {P : Program} {fn : Func} {n : Nat} {l : Slots} {w : World} {R : Value → World → Prop} (hr : fn.results = #[]) (h : R (.tuple #[]) w) :
    Po (Fin P fn R) .normal n l [] w := post_end (by rw [results_none hr]) h
theorem ret_0 {P : Program} {fn : Func} {n : Nat} {l : Slots} {w : World} {R : Value → World → Prop} (hr : fn.results = #[]) (h : R (.tuple #[]) w) :
    Po (Fin P fn R) .ret n l [] w := post_ret (by rw [results_none hr]) h
theorem ret_2 {P : Program} {fn : Func} {t u : Tmp} {n : Nat} {l : Slots} {w : World} {v v' : Value} {R : Value → World → Prop} (hr : fn.results = #[.tmp t, .tmp u]) (hv : mvv (lk n l t) = some v) (hv' : mvv (lk n l u) = some v') (h : R (.tuple #[v, v']) w) :
    Po (Fin P fn R) .ret n l [] w := post_ret (by rw [results_tmp2 hr, getD_fr, getD_fr, mvv_eq hv, mvv_eq hv']) h
theorem results_tmp3 {fn : Func} {t u x : Tmp} (h : fn.results = #[.tmp t, .tmp u, .tmp x]) (tmps : Array Value) (P : Program) (w : World) :
    (results fn tmps).run P w = .ok (.tuple #[tmps.getD t undef, tmps.getD u undef, tmps.getD x undef]) w := by
  simp [results, h]
theorem ret_3 {P : Program} {fn : Func} {t u x : Tmp} {n : Nat} {l : Slots} {w : World} {v v' v'' : Value} {R : Value → World → Prop} (hr : fn.results = #[.tmp t, .tmp u, .tmp x]) (hv : mvv (lk n l t) = some v) (hv' : mvv (lk n l u) = some v') (hv'' : mvv (lk n l x) = some v'') (h : R (.tuple #[v, v', v'']) w) :
    Po (Fin P fn R) .ret n l [] w := post_ret (by rw [results_tmp3 hr, getD_fr, getD_fr, getD_fr, mvv_eq hv, mvv_eq hv', mvv_eq hv'']) h

/-! ### control -/
section control
variable {P : Program} {q : Pst P} {w : World} {n : Nat} {l : Slots} {ds : List Deferred} {x y : Code}
theorem k_seq (h : Wc P x (.sq y q) n l ds w) : Wc P (.seq x y) q n l ds w := ⟨wp_seq h.up⟩
theorem k_blk {i : Nat} (h : Wc P x (.bk i q) n l ds w) : Wc P (.block i x) q n l ds w := ⟨wp_block h.up⟩
theorem k_reg {i : Nat} {os : List Oper} (h : Wl P os.toArray q os n l ds w) : Wc P (.region i os.toArray false) q n l ds w := ⟨wp_region_lit h.up⟩
theorem k_ret (h : Po q .ret n l ds w) : Wc P .ret q n l ds w := ⟨wp_ret h.up⟩
theorem k_skip (h : Po q .normal n l ds w) : Wc P .skip q n l ds w := ⟨wp_skip h.up⟩
theorem k_exit {i : Nat} (h : Po q (.exit i) n l ds w) : Wc P (.exit i) q n l ds w := ⟨wp_exit h.up⟩
theorem k_label {i : Nat} (h : Po q .normal n l ds w) : Wc P (.label i) q n l ds w := ⟨wp_label h.up⟩
theorem k_nil {ops : Array Oper} (h : Po q .normal n l ds w) : Wl P ops q [] n l ds w := ⟨h.up⟩
theorem k_n (h : Wc P y q n l ds w) : Po (.sq y q) .normal n l ds w := ⟨h.up⟩
theorem k_x {i : Nat} (h : Po q (.exit i) n l ds w) : Po (.sq y q) (.exit i) n l ds w := ⟨h.up⟩
theorem k_r (h : Po q .ret n l ds w) : Po (.sq y q) .ret n l ds w := ⟨h.up⟩
theorem b_n {i : Nat} (h : Po q .normal n l ds w) : Po (.bk i q) .normal n l ds w := ⟨h.up⟩
theorem b_r {i : Nat} (h : Po q .ret n l ds w) : Po (.bk i q) .ret n l ds w := ⟨h.up⟩
theorem b_y {i j : Nat} (e : Nat.beq j i = true) (h : Po q .normal n l ds w) : Po (.bk i q) (.exit j) n l ds w := by
  have := Nat.eq_of_beq_eq_true e; subst this; exact ⟨by simpa [Pst.den, Exit.inBlock] using h.up⟩
theorem b_z {i j : Nat} (e : Nat.beq j i = false) (h : Po q (.exit j) n l ds w) : Po (.bk i q) (.exit j) n l ds w := by
  have : j ≠ i := fun h => by subst h; simp at e
  exact ⟨by simpa [Pst.den, Exit.inBlock, this] using h.up⟩
theorem l_n {K : Act → World → Prop} (h : K (A n l ds) w) : Po (.lp K q) .normal n l ds w := ⟨h⟩
theorem l_x {K : Act → World → Prop} {i : Nat} (h : Po q (.exit i) n l ds w) : Po (.lp K q) (.exit i) n l ds w := ⟨h.up⟩
theorem l_r {K : Act → World → Prop} (h : Po q .ret n l ds w) : Po (.lp K q) .ret n l ds w := ⟨h.up⟩
theorem c_t {c : Operand} (hc : ev n l c = .bool true) (h : Wc P x q n l ds w) : Wc P (.cond c x y) q n l ds w := ⟨wp_cond_true (by rw [eval_A]; exact hc) h.up⟩
theorem c_f {c : Operand} (hc : ev n l c = .bool false) (h : Wc P y q n l ds w) : Wc P (.cond c x y) q n l ds w := ⟨wp_cond_false (by rw [eval_A]; exact hc) h.up⟩
theorem c_dec {c : Operand} {p : Prop} {i : Decidable p} (hc : ev n l c = .bool (@decide p i)) (ht : p → Wc P x q n l ds w) (hf : ¬ p → Wc P y q n l ds w) : Wc P (.cond c x y) q n l ds w :=
  ⟨wp_cond_split (by rw [eval_A]; exact hc) (fun h => (ht (of_decide_eq_true h)).up) (fun h => (hf (of_decide_eq_false h)).up)⟩
theorem c_eq {c : Operand} {a b : Int} (hc : ev n l c = .bool (a == b)) (ht : a = b → Wc P x q n l ds w) (hf : ¬ a = b → Wc P y q n l ds w) : Wc P (.cond c x y) q n l ds w :=
  ⟨wp_cond_split (by rw [eval_A]; exact hc) (fun h => (ht (by simpa using h)).up) (fun h => (hf (by simpa using h)).up)⟩
theorem c_ne {c : Operand} {a b : Int} (hc : ev n l c = .bool (a != b)) (ht : ¬ a = b → Wc P x q n l ds w) (hf : a = b → Wc P y q n l ds w) : Wc P (.cond c x y) q n l ds w :=
  ⟨wp_cond_split (by rw [eval_A]; exact hc) (fun h => (ht (by simpa using h)).up) (fun h => (hf (by simpa using h)).up)⟩
theorem c_b {c : Operand} {b : Bool} (hc : ev n l c = .bool b) (ht : b = true → Wc P x q n l ds w) (hf : b = false → Wc P y q n l ds w) : Wc P (.cond c x y) q n l ds w :=
  ⟨wp_cond_split (by rw [eval_A]; exact hc) (fun h => (ht h).up) (fun h => (hf h).up)⟩
/-- What a round hands on. -/
def Hand {σ : Type} (n : Nat) (ds : List Deferred) (live : σ → Slots) (inv : σ → World → Prop) (μ : σ → Nat) (s : σ) (a : Act) (w : World) : Prop := ∃ s' l', a = A n l' ds ∧ Ag l' (live s') ∧ inv s' w ∧ μ s' < μ s
theorem k_loop {σ : Type} (live : σ → Slots) (inv : σ → World → Prop) (μ : σ → Nat) (s0 : σ) (h0 : Ag l (live s0)) (i0 : inv s0 w)
    (body : ∀ s l w, inv s w → Wc P x (.lp (Hand n ds live inv μ s) q) n (live s ++ l) ds w) : Wc P (.loop x) q n l ds w := by
  refine ⟨Go.wp_loop_ghost (fun k a w => ∃ s l', a = A n l' ds ∧ Ag l' (live s) ∧ inv s w ∧ μ s = k) (μ s0) ⟨s0, l, rfl, h0, i0, rfl⟩ ?_⟩
  rintro k a w ⟨s, l', rfl, hag, hi, rfl⟩
  rw [A_ag (live s) hag]
  refine wp_mono (body s l' w hi).up ?_
  intro e a' w' hq
  cases e with
  | normal =>
    obtain ⟨s', l'', e1, e2, e3, e4⟩ := hq
    exact ⟨μ s', e4, s', l'', e1, e2, e3, rfl⟩
  | _ => exact hq
/-- The end of a round. -/
theorem l_next {σ : Type} {live : σ → Slots} {inv : σ → World → Prop} {μ : σ → Nat} {s : σ} (s' : σ) (h1 : Ag l (live s')) (h2 : inv s' w) (h3 : μ s' < μ s) : Po (.lp (Hand n ds live inv μ s) q) .normal n l ds w :=
  ⟨⟨s', l, rfl, h1, h2, h3⟩⟩
/-- Where ways meet again: what is known of the slots and the world. -/
def Meet {σ : Type} (n : Nat) (ds : List Deferred) (live : σ → Slots) (inv : σ → World → Prop) (a : Act) (w : World) : Prop := ∃ s' l', a = A n l' ds ∧ Ag l' (live s') ∧ inv s' w
theorem k_cut {σ : Type} (live : σ → Slots) (inv : σ → World → Prop) (hx : Wc P x (.lp (Meet n ds live inv) q) n l ds w) (hy : ∀ s l w, inv s w → Wc P y q n (live s ++ l) ds w) : Wc P (.seq x y) q n l ds w := by
  refine ⟨wp_seq (wp_mono hx.up ?_)⟩
  intro e a' w' hq
  cases e with
  | normal =>
    obtain ⟨s, l', rfl, hag, hi⟩ := hq
    have := (hy s l' w' hi).up
    rw [← A_ag (live s) hag] at this
    exact this
  | _ => exact hq
theorem k_cutc {σ : Type} (live : σ → Slots) (inv : σ → World → Prop) (hx : Wc P x (.lp (Meet n ds live inv) q) n l ds w) (hy : ∀ s l w, inv s w → Wc P y q n (live s ++ l) ds w) : Wc P x (.sq y q) n l ds w := by
  refine ⟨wp_mono hx.up ?_⟩
  intro e a' w' hq
  cases e with
  | normal =>
    obtain ⟨s, l', rfl, hag, hi⟩ := hq
    have := (hy s l' w' hi).up
    rw [← A_ag (live s) hag] at this
    exact this
  | _ => exact hq
theorem l_cut {σ : Type} {live : σ → Slots} {inv : σ → World → Prop} (s' : σ) (h1 : Ag l (live s')) (h2 : inv s' w) : Po (.lp (Meet n ds live inv) q) .normal n l ds w := ⟨⟨s', l, rfl, h1, h2⟩⟩
end control
/-! ### slices of whole numbers that come in -/
def IsInts (k : IntKind) (w : World) (a : Option Addr) (len cap : Nat) (zs : List Int) : Prop :=
  (a = none ∧ len = 0 ∧ cap = 0 ∧ zs = []) ∨
  ∃ x, a = some x ∧ len ≤ cap ∧ cap ≤ maxLen ∧ zs.length = cap ∧ (∀ i, i < zs.length → w.cell? (x.add i) = some (.int k (zs.getD i 0))) ∧ ∀ n ∈ zs, (Lit.int k n).wf = true
/-- Its elements alone. -/
theorem IsInts.elems {k : IntKind} {w : World} {a : Option Addr} {len cap : Nat} {zs : List Int} (h : IsInts k w a len cap zs) :
    ∃ ls : List Int, ls.length = len ∧ len ≤ cap ∧ (∀ n ∈ ls, (Lit.int k n).wf = true) ∧ (len ≠ 0 → ∃ b o, a = some ⟨b, o, none⟩ ∧ ∀ i n, ls[i]? = some n → w.cell? ⟨b, o + i, none⟩ = some (.int k n)) := by
  rcases h with ⟨rfl, rfl, rfl, rfl⟩ | ⟨⟨b, o, s⟩, rfl, hl, hm, hz, hc, hw⟩
  · exact ⟨[], rfl, Nat.le_refl _, fun n h => (by cases h), fun h => absurd rfl h⟩
  · refine ⟨zs.take len, by simp; omega, hl, fun n h => hw n (List.mem_of_mem_take h), fun h0 => ?_⟩
    have h1 := hc 0 (by omega)
    have hs : s = none := by simpa [Addr.add] using World.cell?_spot h1
    subst hs
    refine ⟨b, o, rfl, fun i n hi => ?_⟩
    rw [List.getElem?_take] at hi
    split at hi
    · have hlt : i < zs.length := (List.getElem?_eq_some_iff.1 hi).1
      have := hc i hlt
      have e : (⟨b, o, none⟩ : Addr).add i = ⟨b, o + i, none⟩ := by unfold Addr.add; split <;> simp_all
      rw [e] at this
      rw [this, List.getD_eq_getElem?_getD, hi]; rfl
    · cases hi
/-! ### rows of things of one size -/
theorem flat_length {α : Type} {f : α → List Value} {sz : Nat} (hf : ∀ x, (f x).length = sz) : ∀ xs : List α, (xs.flatMap f).length = xs.length * sz := by
  intro xs
  induction xs with
  | nil => simp
  | cons x r ih => simp [List.flatMap_cons, hf, ih, Nat.succ_mul, Nat.add_comm]
theorem flat_get {α : Type} {f : α → List Value} {sz : Nat} (hf : ∀ x, (f x).length = sz) : ∀ (xs : List α) (i j : Nat) (x : α), xs[i]? = some x → j < sz → (xs.flatMap f)[i * sz + j]? = (f x)[j]? := by
  intro xs
  induction xs with
  | nil => intro i j x h; simp at h
  | cons y r ih =>
    intro i j x h hj
    rw [List.flatMap_cons]
    cases i with
    | zero =>
      simp only [List.getElem?_cons_zero, Option.some.injEq] at h
      subst h
      rw [Nat.zero_mul, Nat.zero_add, List.getElem?_append_left (by rw [hf]; exact hj)]
    | succ i =>
      rw [List.getElem?_append_right (by rw [hf, Nat.succ_mul]; omega)]
      simp only [List.getElem?_cons_succ] at h
      rw [← ih i j x h hj]
      congr 1
      rw [hf, Nat.succ_mul]
      omega
theorem flat_take {α : Type} {f : α → List Value} {sz : Nat} (hf : ∀ x, (f x).length = sz) : ∀ (xs : List α) (i : Nat), (xs.flatMap f).take (i * sz) = (xs.take i).flatMap f := by
  intro xs
  induction xs with
  | nil => intro i; simp
  | cons x r ih =>
    intro i
    cases i with
    | zero => simp
    | succ i =>
      have e : (i + 1) * sz = (f x).length + i * sz := by rw [hf, Nat.succ_mul]; omega
      rw [List.flatMap_cons, e, List.take_length_add_append, ih, List.take_succ_cons, List.flatMap_cons]
theorem flat_drop {α : Type} {f : α → List Value} {sz : Nat} (hf : ∀ x, (f x).length = sz) : ∀ (xs : List α) (i : Nat), (xs.flatMap f).drop (i * sz) = (xs.drop i).flatMap f := by
  intro xs
  induction xs with
  | nil => intro i; simp
  | cons x r ih =>
    intro i
    cases i with
    | zero => simp
    | succ i =>
      have e : (i + 1) * sz = (f x).length + i * sz := by rw [hf, Nat.succ_mul]; omega
      rw [List.flatMap_cons, e, List.drop_length_add_append, ih, List.drop_succ_cons]
/-- What an owned row's slice reads as. -/
theorem own_read {w : World} {base : Nat} {e : TypeId} {size : Nat} {s : Value} {n : Nat} {cs : List Value} (h : w.ownsRow base e size s n cs) :
    ∃ a c, s = .slice a n c ∧ n ≤ c ∧ (a = none → n = 0) ∧ ∀ ad, a = some ad → ∃ g, ad = ⟨g, 0, none⟩ ∧ base ≤ g ∧ g < w.heap.size ∧ ∀ j u, cs[j]? = some u → w.cell? ⟨g, 0 + j, none⟩ = some u := by
  obtain ⟨hl, h⟩ := h
  rcases h with ⟨rfl, rfl⟩ | ⟨g, cap, cur, rfl, hg, hb, hn, hm, hs, ht⟩
  · exact ⟨none, 0, rfl, Nat.le_refl _, fun _ => rfl, fun ad h => (by cases h)⟩
  · refine ⟨some ⟨g, 0, none⟩, cap, rfl, hn, fun h => (by cases h), fun ad h => ?_⟩
    cases h
    refine ⟨g, rfl, hg, lt_of_get hb, fun j u hj => ?_⟩
    have : cur.toList[j]? = some u := by
      rw [← ht, List.getElem?_take] at hj
      split at hj
      · exact hj
      · cases hj
    simp [World.cell?, hb, ← this]
theorem own_kp {S : Nat → Prop} {w w' : World} {base : Nat} {e : TypeId} {size : Nat} {s : Value} {n : Nat} {cs : List Value} (h : w.ownsRow base e size s n cs) (k : Kp S w w') (hS : ∀ g, s.ownBlock = some g → ¬ S g) : w'.ownsRow base e size s n cs := by
  obtain ⟨hl, h⟩ := h
  refine ⟨hl, ?_⟩
  rcases h with h | ⟨g, cap, cur, rfl, hg, hb, hn, hm, hs, ht⟩
  · exact .inl h
  · exact .inr ⟨g, cap, cur, rfl, hg, k.get hb (hS g rfl), hn, hm, hs, ht⟩
theorem own_lt {w : World} {base : Nat} {e : TypeId} {size : Nat} {s : Value} {n : Nat} {cs : List Value} (h : w.ownsRow base e size s n cs) {g : Nat} (hg : s.ownBlock = some g) : base ≤ g ∧ g < w.heap.size := by
  obtain ⟨hl, h⟩ := h
  rcases h with ⟨rfl, _⟩ | ⟨g', cap, cur, rfl, hg', hb, _⟩
  · cases hg
  · simp only [Value.ownBlock, Option.some.injEq] at hg
    subst hg
    exact ⟨hg', lt_of_get hb⟩
end Go.Proofs.YtlkipdfipaipbaaDoor.Fw
