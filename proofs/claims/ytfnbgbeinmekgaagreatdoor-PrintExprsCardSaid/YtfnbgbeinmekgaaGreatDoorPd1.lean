/- What the proofs of this seat lean on, part 1. -/
import Derived.WalkKit
import Derived.WalkLawsBesides
import Derived.Deep.LoopGhost
import Derived.Deep.Quiet
import Derived.OrdersHeld
import Derived.SliceStrings
import Derived.Lib.Bytealg
import Derived.Lib.Slices
import Derived.Laws.StructEq
import Derived.Laws.BytesArg
import Derived.RangeFuncOwn
import Derived.RangeFuncLeaves
import Derived.OpenShut
import Derived.LaidMore
import Derived.Lib.SmallJoins
import Derived.ProofKit
namespace Go.Proofs.YtfnbgbeinmekgaaGreatDoor.Fw
open Go Go.RowKit
set_option linter.unusedSimpArgs false
set_option linter.unusedVariables false
abbrev Slots := List (Nat × Value)
def look : Slots → Nat → Value
  | [], _ => undef
  | e :: l, t => bif Nat.beq e.1 t then e.2 else look l t
def lk (n : Nat) (l : Slots) (t : Nat) : Value := bif Nat.blt t n then look l t else undef
def fr (n : Nat) (l : Slots) : Array Value := (Array.range n).map (look l)
def A (n : Nat) (l : Slots) (ds : List Deferred) : Act := ⟨fr n l, ds⟩
def ev (n : Nat) (l : Slots) : Operand → Value
  | .tmp t => lk n l t
  | .const v => v
  | .global g => .pointer (some ⟨g, 0, none⟩)
  | .func f => .func (.func f) #[] #[]
theorem getD_fr (n : Nat) (l : Slots) (t : Nat) : (fr n l).getD t undef = lk n l t := by
  unfold fr lk
  by_cases h : t < n
  · have hb : Nat.blt t n = true := by simpa [Nat.blt_eq] using h
    simp [Array.getD, h, hb]
  · have hb : Nat.blt t n = false := by
      rw [Bool.eq_false_iff]; intro hh; exact h (by simpa [Nat.blt_eq] using hh)
    simp [Array.getD, h, hb]
theorem fr_set (n : Nat) (l : Slots) (t : Nat) (v : Value) : (fr n l).setIfInBounds t v = fr n ((t, v) :: l) := by
  apply Array.ext
  · simp [fr]
  · intro i h1 h2
    simp [fr] at h2
    by_cases e : t = i
    · subst e; simp [fr, look, Array.getElem_setIfInBounds, h2]
    · have hb : Nat.beq t i = false := by
        rw [Bool.eq_false_iff]; intro hh; exact e (Nat.eq_of_beq_eq_true hh)
      simp [fr, look, Array.getElem_setIfInBounds, h2, e, hb]
theorem eval_A (n : Nat) (l : Slots) (ds : List Deferred) : (A n l ds).eval = ev n l := by
  funext o
  cases o with
  | tmp t => exact getD_fr n l t
  | _ => rfl
theorem put_A (n : Nat) (l : Slots) (ds : List Deferred) (d : Nat) (v : Value) : (A n l ds).put (some d) v = A n ((d, v) :: l) ds := by
  simp [Act.put, A, fr_set]
theorem put_A_none (n : Nat) (l : Slots) (ds : List Deferred) (v : Value) : (A n l ds).put none v = A n l ds := rfl
def enum (k : Nat) : List Value → Slots
  | [] => []
  | v :: r => (k, v) :: enum (k + 1) r
theorem look_enum (as : List Value) : ∀ k t, look (enum k as) t = if k ≤ t then (as[t - k]?).getD undef else undef := by
  induction as with
  | nil => intro k t; simp [enum, look]
  | cons v r ih =>
    intro k t
    simp only [enum, look, ih]
    by_cases e : k = t
    · subst e
      have : Nat.beq k k = true := by simp
      simp [this]
    · have hb : Nat.beq k t = false := by
        rw [Bool.eq_false_iff]; intro hh; exact e (Nat.eq_of_beq_eq_true hh)
      simp only [hb, cond_false]
      by_cases h : k ≤ t
      · have h1 : k + 1 ≤ t := by omega
        have h2 : t - k = (t - (k + 1)) + 1 := by omega
        simp [h, h1, h2]
      · have h1 : ¬ k + 1 ≤ t := by omega
        simp [h, h1]
theorem fr_init (as : List Value) (n : Nat) (h : as.length ≤ n) : as.toArray ++ Array.replicate (n - as.toArray.size) undef = fr n (enum 0 as) := by
  apply Array.ext
  · simp [fr]; omega
  · intro i h1 h2
    simp [fr] at h2
    simp only [fr, Array.getElem_map, Array.getElem_range, look_enum, Nat.zero_le, if_true, Nat.sub_zero]
    rw [Array.getElem_append]
    split
    · rename_i hi
      simp at hi
      simp [hi]
    · rename_i hi
      simp at hi
      simp [hi]
theorem A_pre {n : Nat} {l : Slots} {ds : List Deferred} {t : Nat} {v : Value} (h : look l t = v) : A n l ds = A n ((t, v) :: l) ds := by
  unfold A fr
  congr 1
  apply Array.ext
  · simp
  · intro i h1 h2
    simp only [Array.getElem_map, Array.getElem_range, look]
    by_cases e : t = i
    · subst e; simp [h]
    · have hb : Nat.beq t i = false := by
        rw [Bool.eq_false_iff]; intro hh; exact e (Nat.eq_of_beq_eq_true hh)
      simp [hb]
/-- The slots of m hold in l what m says. -/
def Ag (l : Slots) : Slots → Prop
  | [] => True
  | e :: m => look l e.1 = e.2 ∧ Ag l m
theorem look_cons_self {l : Slots} {t : Nat} {v : Value} (h : look l t = v) (u : Nat) : look ((t, v) :: l) u = look l u := by
  simp only [look]
  by_cases e : t = u
  · subst e; simp [h]
  · have hb : Nat.beq t u = false := by
      rw [Bool.eq_false_iff]; intro hh; exact e (Nat.eq_of_beq_eq_true hh)
    simp [hb]
theorem A_ag {n : Nat} {ds : List Deferred} (m : Slots) : ∀ {l : Slots}, Ag l m → A n l ds = A n (m ++ l) ds := by
  have key : ∀ (m : Slots) {l : Slots}, Ag l m → ∀ u, look (m ++ l) u = look l u := by
    intro m
    induction m with
    | nil => intro l _ u; rfl
    | cons e m ih =>
      intro l h u
      obtain ⟨h1, h2⟩ := h
      have := ih h2
      rw [List.cons_append]
      show look ((e.1, e.2) :: (m ++ l)) u = _
      rw [look_cons_self (by rw [this]; exact h1), this]
  intro l h
  have hk := key m h
  unfold A fr
  congr 1
  apply Array.ext
  · simp
  · intro i h1 h2
    simp only [Array.getElem_map, Array.getElem_range, hk]
/-- The value, its head seen. -/
def mvv : Value → Option Value
  | .bool b => some (.bool b)
  | .int k n => some (.int k n)
  | .float k b => some (.float k b)
  | .complex k a b => some (.complex k a b)
  | .string s => some (.string s)
  | .pointer a => some (.pointer a)
  | .slice a n c => some (.slice a n c)
  | .map r => some (.map r)
  | .chan r => some (.chan r)
  | .func f a b => some (.func f a b)
  | .nilFunc => some .nilFunc
  | .iface t v => some (.iface t v)
  | .nilIface => some .nilIface
  | .agg c => some (.agg c)
  | .tuple c => some (.tuple c)
theorem mvv_eq {v u : Value} (h : mvv v = some u) : v = u := by cases v <;> simpa [mvv] using h
/-- w' is w, but for blocks of S and new ones. -/
structure Kp (S : Nat → Prop) (w w' : World) : Prop where
  os : w'.os = w.os
  tape : w'.tape = w.tape
  output : w'.output = w.output
  size : w.heap.size ≤ w'.heap.size
  block : ∀ k, k < w.heap.size → ¬ S k → w'.heap[k]? = w.heap[k]?
/-- No old block. -/
abbrev No : Nat → Prop := fun _ => False
theorem Kp.refl (S : Nat → Prop) (w : World) : Kp S w w := ⟨rfl, rfl, rfl, Nat.le_refl _, fun _ _ _ => rfl⟩
theorem Kp.trans {S T : Nat → Prop} {a b c : World} (h : Kp S a b) (k : Kp T b c) (hT : ∀ i, i < a.heap.size → T i → S i) : Kp S a c :=
  ⟨k.os.trans h.os, k.tape.trans h.tape, k.output.trans h.output, Nat.le_trans h.size k.size,
    fun i hi hs => (k.block i (Nat.lt_of_lt_of_le hi h.size) (fun ht => hs (hT i hi ht))).trans (h.block i hi hs)⟩
theorem Kp.no {S : Nat → Prop} {a b c : World} (h : Kp S a b) (k : Kp No b c) : Kp S a c := h.trans k fun _ _ h => h.elim
theorem Kp.mono {S T : Nat → Prop} {a b : World} (h : Kp S a b) (hT : ∀ i, i < a.heap.size → S i → T i) : Kp T a b :=
  ⟨h.os, h.tape, h.output, h.size, fun i hi hs => h.block i hi fun hS => hs (hT i hi hS)⟩
theorem Kp.below {w w' : World} (h : Kp No w w') : Below w.heap.size w w' := ⟨h.os, h.tape, h.output, h.size, fun k hk => h.block k hk id⟩
theorem Kp.of_below {w w' : World} (h : Below w.heap.size w w') : Kp No w w' := ⟨h.os, h.tape, h.output, h.size, fun k hk _ => h.block k hk⟩
theorem Kp.of_grown {w w' : World} {r : Option Nat} (h : w.grownBy w' r) : Kp (fun k => some k = r) w w' := ⟨h.os, h.tape, h.output, h.size, fun k hk hs => h.block k hk hs⟩
theorem Kp.drew (w : World) : Kp No w w.drew := ⟨rfl, rfl, rfl, Nat.le_refl _, fun _ _ _ => rfl⟩
theorem Kp.alloc (w : World) (o : Obj) : Kp No w (w.alloc o) := Kp.of_below ((Below.refl _ _).alloc (Nat.le_refl _) o)
theorem lt_of_get {w : World} {b : Nat} {o : Obj} (h : w.heap[b]? = some o) : b < w.heap.size := by
  rcases Nat.lt_or_ge b w.heap.size with h1 | h1
  · exact h1
  · rw [Array.getElem?_eq_none h1] at h; cases h
theorem Kp.get {S : Nat → Prop} {w w' : World} {b : Nat} {o : Obj} (k : Kp S w w') (h : w.heap[b]? = some o) (hn : ¬ S b) : w'.heap[b]? = some o :=
  (k.block b (lt_of_get h) hn).trans h
theorem Kp.get0 {w w' : World} {b : Nat} {o : Obj} (k : Kp No w w') (h : w.heap[b]? = some o) : w'.heap[b]? = some o := k.get h id
theorem blk_of_cell {w : World} {a : Addr} {v : Value} (h : w.cell? a = some v) : ∃ o, w.heap[a.block]? = some o := by
  cases e : w.heap[a.block]? with
  | none => simp [World.cell?, e] at h
  | some o => exact ⟨o, rfl⟩
theorem Kp.cell {S : Nat → Prop} {w w' : World} {a : Addr} {v : Value} (k : Kp S w w') (h : w.cell? a = some v) (hn : ¬ S a.block) : w'.cell? a = some v := by
  obtain ⟨o, ho⟩ := blk_of_cell h
  have h1 := k.get ho hn
  rw [← h]
  exact World.cell?_of_block (by rw [h1, ho])
theorem Kp.cell0 {w w' : World} {a : Addr} {v : Value} (k : Kp No w w') (h : w.cell? a = some v) : w'.cell? a = some v := k.cell h id
theorem cell_of_blk {w : World} {b o : Nat} {cs : List Value} {T : TypeId} {fz : Nat × Nat} {v : Value} (h : w.heap[b]? = some (.cells cs.toArray T fz)) (hv : cs[o]? = some v) : w.cell? ⟨b, o, none⟩ = some v := by
  simp [World.cell?, h, hv]
/-- What is asked behind a piece of code: at the function's end, or what follows in a sequence, a block, a loop. -/
inductive Pst (P : Program) : Type
  | base (Q : Exit → Act → World → Prop)
  | sq (y : Code) (q : Pst P)
  | bk (i : Nat) (q : Pst P)
  | lp (K : Act → World → Prop) (q : Pst P)
def Pst.den {P : Program} : Pst P → (Exit → Act → World → Prop)
  | .base Q => Q
  | .sq y q => Exit.then (y.wp P q.den) q.den
  | .bk i q => Exit.inBlock i q.den
  | .lp K q => Exit.then K q.den
structure Wc (P : Program) (c : Code) (q : Pst P) (n : Nat) (l : Slots) (ds : List Deferred) (w : World) : Prop where
  up : c.wp P q.den (A n l ds) w
structure Po {P : Program} (q : Pst P) (e : Exit) (n : Nat) (l : Slots) (ds : List Deferred) (w : World) : Prop where
  up : q.den e (A n l ds) w
structure Wl (P : Program) (ops : Array Oper) (q : Pst P) (L : List Oper) (n : Nat) (l : Slots) (ds : List Deferred) (w : World) : Prop where
  up : wpList P ops q.den L (A n l ds) w
/-- The call returns a value, and leaves a world, as R says. -/
def Ret (P : Program) (f : FuncId) (args : List Value) (w : World) (R : Value → World → Prop) : Prop :=
  Calls P f args.toArray w fun e w' => ∃ v, e = .returned v ∧ R v w'
theorem Ret.mono {P : Program} {f : FuncId} {args : List Value} {w : World} {R R' : Value → World → Prop} (h : Ret P f args w R) (hr : ∀ v w', R v w' → R' v w') : Ret P f args w R' :=
  Calls.mono h fun _ _ ⟨v, e, r⟩ => ⟨v, e, hr _ _ r⟩
def Fin (P : Program) (fn : Func) (R : Value → World → Prop) : Pst P := .base (bodyPost P fn fun e w' => ∃ v, e = .returned v ∧ R v w')
theorem ret_enter {P : Program} {f : FuncId} {fn : Func} {c : Code} {args : List Value} {w : World} {R : Value → World → Prop} {n : Nat}
    (hf : P.funcs[f]? = some fn) (hb : fn.body = some c) (hn : fn.ntmps = n) (hl : Nat.ble args.length n = true)
    (h : Wc P c (Fin P fn R) n (enum 0 args) [] w) : Ret P f args w R := by
  refine calls_of_wp hf hb ?_
  rw [hn, fr_init args n (Nat.le_of_ble_eq_true hl)]
  exact h.up
theorem res_tmp {P : Program} {fn : Func} {t : Tmp} {n : Nat} {l : Slots} {w : World} {v : Value} (hr : fn.results = #[.tmp t]) (hv : lk n l t = v) : (results fn (fr n l)).run P w = .ok v w := by
  rw [results_tmp hr, getD_fr, hv]
theorem post_ret {P : Program} {fn : Func} {n : Nat} {l : Slots} {w : World} {v : Value} {R : Value → World → Prop} (hr : (results fn (fr n l)).run P w = .ok v w) (h : R v w) :
    Po (Fin P fn R) .ret n l [] w := ⟨⟨rfl, v, hr, v, rfl, h⟩⟩
theorem post_end {P : Program} {fn : Func} {n : Nat} {l : Slots} {w : World} {v : Value} {R : Value → World → Prop} (hr : (results fn (fr n l)).run P w = .ok v w) (h : R v w) :
    Po (Fin P fn R) .normal n l [] w := ⟨⟨rfl, v, hr, v, rfl, h⟩⟩
theorem ret_1 {P : Program} {fn : Func} {t : Tmp} {n : Nat} {l : Slots} {w : World} {v : Value} {R : Value → World → Prop} (hr : fn.results = #[.tmp t]) (hv : mvv (lk n l t) = some v) (h : R v w) :
    Po (Fin P fn R) .ret n l [] w := post_ret (res_tmp hr (mvv_eq hv)) h
theorem end_0 {P : Program} {fn : Func} {n : Nat} {l : Slots} {w : World} {R : Value → World → Prop} (hr : fn.results = #[]) (h : R (.tuple #[]) w) :
    Po (Fin P fn R) .normal n l [] w := post_end (by rw [results_none hr]) h
theorem ret_0 {P : Program} {fn : Func} {n : Nat} {l : Slots} {w : World} {R : Value → World → Prop} (hr : fn.results = #[]) (h : R (.tuple #[]) w) :
    Po (Fin P fn R) .ret n l [] w := post_ret (by rw [results_none hr]) h
theorem ret_2 {P : Program} {fn : Func} {t u : Tmp} {n : Nat} {l : Slots} {w : World} {v v' : Value} {R : Value → World → Prop} (hr : fn.results = #[.tmp t, .tmp u]) (hv : mvv (lk n l t) = some v) (hv' : mvv (lk n l u) = some v') (h : R (.tuple #[v, v']) w) :
    Po (Fin P fn R) .ret n l [] w := post_ret (by rw [results_tmp2 hr, getD_fr, getD_fr, mvv_eq hv, mvv_eq hv']) h
theorem results_tmp3 {fn : Func} {t u x : Tmp} (h : fn.results = #[.tmp t, .tmp u, .tmp x]) (tmps : Array Value) (P : Program) (w : World) :
    (results fn tmps).run P w = .ok (.tuple #[tmps.getD t undef, tmps.getD u undef, tmps.getD x undef]) w := by
  simp [results, h]
theorem ret_3 {P : Program} {fn : Func} {t u x : Tmp} {n : Nat} {l : Slots} {w : World} {v v' v'' : Value} {R : Value → World → Prop} (hr : fn.results = #[.tmp t, .tmp u, .tmp x]) (hv : mvv (lk n l t) = some v) (hv' : mvv (lk n l u) = some v') (hv'' : mvv (lk n l x) = some v'') (h : R (.tuple #[v, v', v'']) w) :
    Po (Fin P fn R) .ret n l [] w := post_ret (by rw [results_tmp3 hr, getD_fr, getD_fr, getD_fr, mvv_eq hv, mvv_eq hv', mvv_eq hv'']) h
section control
variable {P : Program} {q : Pst P} {w : World} {n : Nat} {l : Slots} {ds : List Deferred} {x y : Code}
theorem k_seq (h : Wc P x (.sq y q) n l ds w) : Wc P (.seq x y) q n l ds w := ⟨wp_seq h.up⟩
theorem k_blk {i : Nat} (h : Wc P x (.bk i q) n l ds w) : Wc P (.block i x) q n l ds w := ⟨wp_block h.up⟩
theorem k_reg {i : Nat} {os : List Oper} (h : Wl P os.toArray q os n l ds w) : Wc P (.region i os.toArray false) q n l ds w := ⟨wp_region_lit h.up⟩
theorem k_ret (h : Po q .ret n l ds w) : Wc P .ret q n l ds w := ⟨wp_ret h.up⟩
theorem k_skip (h : Po q .normal n l ds w) : Wc P .skip q n l ds w := ⟨wp_skip h.up⟩
theorem k_exit {i : Nat} (h : Po q (.exit i) n l ds w) : Wc P (.exit i) q n l ds w := ⟨wp_exit h.up⟩
theorem k_nil {ops : Array Oper} (h : Po q .normal n l ds w) : Wl P ops q [] n l ds w := ⟨h.up⟩
theorem k_n (h : Wc P y q n l ds w) : Po (.sq y q) .normal n l ds w := ⟨h.up⟩
theorem k_x {i : Nat} (h : Po q (.exit i) n l ds w) : Po (.sq y q) (.exit i) n l ds w := ⟨h.up⟩
theorem k_r (h : Po q .ret n l ds w) : Po (.sq y q) .ret n l ds w := ⟨h.up⟩
theorem b_n {i : Nat} (h : Po q .normal n l ds w) : Po (.bk i q) .normal n l ds w := ⟨h.up⟩
theorem b_r {i : Nat} (h : Po q .ret n l ds w) : Po (.bk i q) .ret n l ds w := ⟨h.up⟩
theorem b_y {i j : Nat} (e : Nat.beq j i = true) (h : Po q .normal n l ds w) : Po (.bk i q) (.exit j) n l ds w := by
  have := Nat.eq_of_beq_eq_true e; subst this; exact ⟨by simpa [Pst.den, Exit.inBlock] using h.up⟩
theorem b_z {i j : Nat} (e : Nat.beq j i = false) (h : Po q (.exit j) n l ds w) : Po (.bk i q) (.exit j) n l ds w := by
  have : j ≠ i := fun h => by subst h; simp at e
  exact ⟨by simpa [Pst.den, Exit.inBlock, this] using h.up⟩
theorem l_x {K : Act → World → Prop} {i : Nat} (h : Po q (.exit i) n l ds w) : Po (.lp K q) (.exit i) n l ds w := ⟨h.up⟩
theorem l_r {K : Act → World → Prop} (h : Po q .ret n l ds w) : Po (.lp K q) .ret n l ds w := ⟨h.up⟩
theorem c_t {c : Operand} (hc : ev n l c = .bool true) (h : Wc P x q n l ds w) : Wc P (.cond c x y) q n l ds w := ⟨wp_cond_true (by rw [eval_A]; exact hc) h.up⟩
theorem c_f {c : Operand} (hc : ev n l c = .bool false) (h : Wc P y q n l ds w) : Wc P (.cond c x y) q n l ds w := ⟨wp_cond_false (by rw [eval_A]; exact hc) h.up⟩
theorem c_dec {c : Operand} {p : Prop} {i : Decidable p} (hc : ev n l c = .bool (@decide p i)) (ht : p → Wc P x q n l ds w) (hf : ¬ p → Wc P y q n l ds w) : Wc P (.cond c x y) q n l ds w :=
  ⟨wp_cond_split (by rw [eval_A]; exact hc) (fun h => (ht (of_decide_eq_true h)).up) (fun h => (hf (of_decide_eq_false h)).up)⟩
theorem c_eq {c : Operand} {a b : Int} (hc : ev n l c = .bool (a == b)) (ht : a = b → Wc P x q n l ds w) (hf : ¬ a = b → Wc P y q n l ds w) : Wc P (.cond c x y) q n l ds w :=
  ⟨wp_cond_split (by rw [eval_A]; exact hc) (fun h => (ht (by simpa using h)).up) (fun h => (hf (by simpa using h)).up)⟩
theorem c_ne {c : Operand} {a b : Int} (hc : ev n l c = .bool (a != b)) (ht : ¬ a = b → Wc P x q n l ds w) (hf : a = b → Wc P y q n l ds w) : Wc P (.cond c x y) q n l ds w :=
  ⟨wp_cond_split (by rw [eval_A]; exact hc) (fun h => (ht (by simpa using h)).up) (fun h => (hf (by simpa using h)).up)⟩
theorem c_b {c : Operand} {b : Bool} (hc : ev n l c = .bool b) (ht : b = true → Wc P x q n l ds w) (hf : b = false → Wc P y q n l ds w) : Wc P (.cond c x y) q n l ds w :=
  ⟨wp_cond_split (by rw [eval_A]; exact hc) (fun h => (ht h).up) (fun h => (hf h).up)⟩
/-- What a round hands on. -/
def Hand {σ : Type} (n : Nat) (ds : List Deferred) (live : σ → Slots) (inv : σ → World → Prop) (μ : σ → Nat) (s : σ) (a : Act) (w : World) : Prop := ∃ s' l', a = A n l' ds ∧ Ag l' (live s') ∧ inv s' w ∧ μ s' < μ s
theorem k_loop {σ : Type} (live : σ → Slots) (inv : σ → World → Prop) (μ : σ → Nat) (s0 : σ) (h0 : Ag l (live s0)) (i0 : inv s0 w)
    (body : ∀ s l w, inv s w → Wc P x (.lp (Hand n ds live inv μ s) q) n (live s ++ l) ds w) : Wc P (.loop x) q n l ds w := by
  refine ⟨Go.wp_loop_ghost (fun k a w => ∃ s l', a = A n l' ds ∧ Ag l' (live s) ∧ inv s w ∧ μ s = k) (μ s0) ⟨s0, l, rfl, h0, i0, rfl⟩ ?_⟩
  rintro k a w ⟨s, l', rfl, hag, hi, rfl⟩
  rw [A_ag (live s) hag]
  refine wp_mono (body s l' w hi).up ?_
  intro e a' w' hq
  cases e with
  | normal =>
    obtain ⟨s', l'', e1, e2, e3, e4⟩ := hq
    exact ⟨μ s', e4, s', l'', e1, e2, e3, rfl⟩
  | _ => exact hq
/-- The end of a round. -/
theorem l_next {σ : Type} {live : σ → Slots} {inv : σ → World → Prop} {μ : σ → Nat} {s : σ} (s' : σ) (h1 : Ag l (live s')) (h2 : inv s' w) (h3 : μ s' < μ s) : Po (.lp (Hand n ds live inv μ s) q) .normal n l ds w :=
  ⟨⟨s', l, rfl, h1, h2, h3⟩⟩
/-- Where ways meet again: what is known of the slots and the world. -/
def Meet {σ : Type} (n : Nat) (ds : List Deferred) (live : σ → Slots) (inv : σ → World → Prop) (a : Act) (w : World) : Prop := ∃ s' l', a = A n l' ds ∧ Ag l' (live s') ∧ inv s' w
theorem k_cut {σ : Type} (live : σ → Slots) (inv : σ → World → Prop) (hx : Wc P x (.lp (Meet n ds live inv) q) n l ds w) (hy : ∀ s l w, inv s w → Wc P y q n (live s ++ l) ds w) : Wc P (.seq x y) q n l ds w := by
  refine ⟨wp_seq (wp_mono hx.up ?_)⟩
  intro e a' w' hq
  cases e with
  | normal =>
    obtain ⟨s, l', rfl, hag, hi⟩ := hq
    have := (hy s l' w' hi).up
    rw [← A_ag (live s) hag] at this
    exact this
  | _ => exact hq
theorem k_cutc {σ : Type} (live : σ → Slots) (inv : σ → World → Prop) (hx : Wc P x (.lp (Meet n ds live inv) q) n l ds w) (hy : ∀ s l w, inv s w → Wc P y q n (live s ++ l) ds w) : Wc P x (.sq y q) n l ds w := by
  refine ⟨wp_mono hx.up ?_⟩
  intro e a' w' hq
  cases e with
  | normal =>
    obtain ⟨s, l', rfl, hag, hi⟩ := hq
    have := (hy s l' w' hi).up
    rw [← A_ag (live s) hag] at this
    exact this
  | _ => exact hq
theorem l_cut {σ : Type} {live : σ → Slots} {inv : σ → World → Prop} (s' : σ) (h1 : Ag l (live s')) (h2 : inv s' w) : Po (.lp (Meet n ds live inv) q) .normal n l ds w := ⟨⟨s', l, rfl, h1, h2⟩⟩
end control
theorem flat_get {α : Type} {f : α → List Value} {sz : Nat} (hf : ∀ x, (f x).length = sz) : ∀ (xs : List α) (i j : Nat) (x : α), xs[i]? = some x → j < sz → (xs.flatMap f)[i * sz + j]? = (f x)[j]? := by
  intro xs
  induction xs with
  | nil => intro i j x h; simp at h
  | cons y r ih =>
    intro i j x h hj
    rw [List.flatMap_cons]
    cases i with
    | zero =>
      simp only [List.getElem?_cons_zero, Option.some.injEq] at h
      subst h
      rw [Nat.zero_mul, Nat.zero_add, List.getElem?_append_left (by rw [hf]; exact hj)]
    | succ i =>
      rw [List.getElem?_append_right (by rw [hf, Nat.succ_mul]; omega)]
      simp only [List.getElem?_cons_succ] at h
      rw [← ih i j x h hj]
      congr 1
      rw [hf, Nat.succ_mul]
      omega
/-- What an owned row's slice reads as. -/
theorem own_read {w : World} {base : Nat} {e : TypeId} {size : Nat} {s : Value} {n : Nat} {cs : List Value} (h : w.ownsRow base e size s n cs) :
    ∃ a c, s = .slice a n c ∧ n ≤ c ∧ (a = none → n = 0) ∧ ∀ ad, a = some ad → ∃ g, ad = ⟨g, 0, none⟩ ∧ base ≤ g ∧ g < w.heap.size ∧ ∀ j u, cs[j]? = some u → w.cell? ⟨g, 0 + j, none⟩ = some u := by
  obtain ⟨hl, h⟩ := h
  rcases h with ⟨rfl, rfl⟩ | ⟨g, cap, cur, rfl, hg, hb, hn, hm, hs, ht⟩
  · exact ⟨none, 0, rfl, Nat.le_refl _, fun _ => rfl, fun ad h => (by cases h)⟩
  · refine ⟨some ⟨g, 0, none⟩, cap, rfl, hn, fun h => (by cases h), fun ad h => ?_⟩
    cases h
    refine ⟨g, rfl, hg, lt_of_get hb, fun j u hj => ?_⟩
    have : cur.toList[j]? = some u := by
      rw [← ht, List.getElem?_take] at hj
      split at hj
      · exact hj
      · cases hj
    simp [World.cell?, hb, ← this]
theorem own_kp {S : Nat → Prop} {w w' : World} {base : Nat} {e : TypeId} {size : Nat} {s : Value} {n : Nat} {cs : List Value} (h : w.ownsRow base e size s n cs) (k : Kp S w w') (hS : ∀ g, s.ownBlock = some g → ¬ S g) : w'.ownsRow base e size s n cs := by
  obtain ⟨hl, h⟩ := h
  refine ⟨hl, ?_⟩
  rcases h with h | ⟨g, cap, cur, rfl, hg, hb, hn, hm, hs, ht⟩
  · exact .inl h
  · exact .inr ⟨g, cap, cur, rfl, hg, k.get hb (hS g rfl), hn, hm, hs, ht⟩
theorem own_lt {w : World} {base : Nat} {e : TypeId} {size : Nat} {s : Value} {n : Nat} {cs : List Value} (h : w.ownsRow base e size s n cs) {g : Nat} (hg : s.ownBlock = some g) : base ≤ g ∧ g < w.heap.size := by
  obtain ⟨hl, h⟩ := h
  rcases h with ⟨rfl, _⟩ | ⟨g', cap, cur, rfl, hg', hb, _⟩
  · cases hg
  · simp only [Value.ownBlock, Option.some.injEq] at hg
    subst hg
    exact ⟨hg', lt_of_get hb⟩
end Go.Proofs.YtfnbgbeinmekgaaGreatDoor.Fw
namespace Go.Proofs.YtfnbgbeinmekgaaGreatDoor.Fw
open Go Go.RowKit
set_option linter.unusedSimpArgs false
set_option linter.unusedVariables false
def evs (ρ : Operand → Value) : List Operand → Option (List Value)
  | [] => some []
  | x :: r => match mvv (ρ x) with
    | some v => (match evs ρ r with | some vs => some (v :: vs) | none => none)
    | none => none
theorem evs_eq {ρ : Operand → Value} : ∀ {xs : List Operand} {vs : List Value}, evs ρ xs = some vs → xs.map ρ = vs := by
  intro xs
  induction xs with
  | nil => intro vs h; simpa [evs] using h
  | cons x r ih =>
    intro vs h
    simp only [evs] at h
    split at h
    · rename_i v hv
      split at h
      · rename_i vs' hvs
        simp only [Option.some.injEq] at h
        rw [← h, List.map_cons, mvv_eq hv, ih hvs]
      · cases h
    · cases h
/-- The bits of a whole number's operation. -/
def ibits (op : BinOp) (k : IntKind) (x y : Int) : Int :=
  match op with
  | .and => k.wrap (BitVec.ofInt k.bits x &&& BitVec.ofInt k.bits y).toNat
  | .or => k.wrap (BitVec.ofInt k.bits x ||| BitVec.ofInt k.bits y).toNat
  | .xor => k.wrap (BitVec.ofInt k.bits x ^^^ BitVec.ofInt k.bits y).toNat
  | _ => k.wrap (BitVec.ofInt k.bits x &&& ~~~ BitVec.ofInt k.bits y).toNat
def binI (op : BinOp) (k : IntKind) (a b : Int) : Option Value :=
  match op with
  | .add => some (.int k (k.wrap (a + b)))
  | .sub => some (.int k (k.wrap (a - b)))
  | .mul => some (.int k (k.wrap (a * b)))
  | .and => some (.int k (ibits .and k a b))
  | .or => some (.int k (ibits .or k a b))
  | .xor => some (.int k (ibits .xor k a b))
  | .andNot => some (.int k (ibits .andNot k a b))
  | .eql => some (.bool (a == b))
  | .neq => some (.bool (a != b))
  | .lss => some (.bool (decide (a < b)))
  | .leq => some (.bool (decide (a ≤ b)))
  | .gtr => some (.bool (decide (b < a)))
  | .geq => some (.bool (decide (b ≤ a)))
  | _ => none
def binS (op : BinOp) (a b : ByteArray) : Option Value :=
  match op with
  | .eql => some (.bool (a.toList == b.toList))
  | .neq => some (.bool (!(a.toList == b.toList)))
  | .lss => some (.bool (Op.bytesLess a.toList b.toList))
  | .leq => some (.bool (Op.bytesLess a.toList b.toList || a.toList == b.toList))
  | .gtr => some (.bool (!(Op.bytesLess a.toList b.toList || a.toList == b.toList)))
  | .geq => some (.bool (!(Op.bytesLess a.toList b.toList)))
  | _ => none
def bin (op : BinOp) : Value → Value → Option Value
  | .int k a, .int k' b => if k = k' then binI op k a b else none
  | .string a, .string b => binS op a b
  | _, _ => none
theorem run_bin {P : Program} {op : BinOp} {t : TypeId} {x y : Operand} {u v r : Value} (w : World) (h : bin op u v = some r) :
    (do eqGuard op t x y u v; binOp op t u v : Sem Value).run P w = .ok r w := by
  unfold bin at h
  split at h
  · rename_i k a k' b
    split at h
    · rename_i hk
      subst hk
      cases op <;> simp [binI] at h <;> subst h <;> simp [eqGuard, binOp, Op.intArith, Op.intBits, Op.intCmp, ibits, Sem.run, pure] <;> rfl
    · cases h
  · rename_i a b
    cases op <;> simp [binS] at h <;> subst h <;> simp [eqGuard, binOp, Op.stringOp, Sem.run, pure] <;> rfl
  · cases h
section
variable {P : Program} {w : World} {ρ : Operand → Value} {ds : List Deferred} {dst : Option Tmp} {ty : TypeId} {pos : String} {af : Array Edge} {g : Option (Nat × Bool)} {v : Value}
/-- An operation comes to this. -/
structure Rn (P : Program) (ρ : Operand → Value) (o : Oper) (w : World) (r : Result Next) : Prop where
  eq : (execOp ρ o).run P w = r
theorem r_mv {x : Operand} (h : mvv (ρ x) = some v) : Rn P ρ ⟨dst, .move x, ty, pos, af, g⟩ w (.ok (.value v) w) := by
  rw [← mvv_eq h]; exact ⟨rfl⟩
theorem r_as {x : Operand} (h : mvv (ρ x) = some v) : Rn P ρ ⟨dst, .assign x, ty, pos, af, g⟩ w (.ok (.value v) w) := by
  rw [← mvv_eq h]; exact ⟨rfl⟩
theorem run_v {s : Sem Value} {w' : World} (h : s.run P w = .ok v w') : (do pure (Next.value (← s)) : Sem Next).run P w = .ok (.value v) w' := by
  simp only [Sem.run_bind, h, Result.andThen_ok, Sem.run_pure]
theorem r_bin {op : BinOp} {t t' : TypeId} {x y : Operand} (h : bin op (ρ x) (ρ y) = some v) : Rn P ρ ⟨dst, .binOp op t x y t', ty, pos, af, g⟩ w (.ok (.value v) w) :=
  ⟨run_v (run_bin w h)⟩
theorem wrap_in {n : Int} (h : -9223372036854775808 ≤ n ∧ n ≤ 9223372036854775807) : IntKind.i64.wrap n = n := IntWalk.i64_in n h
theorem r_add {t t' : TypeId} {x y : Operand} {p q : Int} (hx : ρ x = .int .i64 p) (hy : ρ y = .int .i64 q) (hb : -9223372036854775808 ≤ p + q ∧ p + q ≤ 9223372036854775807) :
    Rn P ρ ⟨dst, .binOp .add t x y t', ty, pos, af, g⟩ w (.ok (.value (.int .i64 (p + q))) w) := by
  refine r_bin ?_; simp [hx, hy, bin, binI, wrap_in hb]
theorem r_sub {t t' : TypeId} {x y : Operand} {p q : Int} (hx : ρ x = .int .i64 p) (hy : ρ y = .int .i64 q) (hb : -9223372036854775808 ≤ p - q ∧ p - q ≤ 9223372036854775807) :
    Rn P ρ ⟨dst, .binOp .sub t x y t', ty, pos, af, g⟩ w (.ok (.value (.int .i64 (p - q))) w) := by
  refine r_bin ?_; simp [hx, hy, bin, binI, wrap_in hb]
theorem r_mul {t t' : TypeId} {x y : Operand} {p q : Int} (hx : ρ x = .int .i64 p) (hy : ρ y = .int .i64 q) (hb : -9223372036854775808 ≤ p * q ∧ p * q ≤ 9223372036854775807) :
    Rn P ρ ⟨dst, .binOp .mul t x y t', ty, pos, af, g⟩ w (.ok (.value (.int .i64 (p * q))) w) := by
  refine r_bin ?_; simp [hx, hy, bin, binI, wrap_in hb]
theorem r_rem {t t' : TypeId} {x y : Operand} {k : IntKind} {p q : Int} (hx : ρ x = .int k p) (hy : ρ y = .int k q) (h0 : 0 ≤ p) (hq : q ≠ 0) :
    Rn P ρ ⟨dst, .binOp .rem t x y t', ty, pos, af, g⟩ w (.ok (.value (.int k (p % q))) w) := by
  refine ⟨run_v ?_⟩
  simp [hx, hy, eqGuard, binOp, Op.intDiv, hq, Sem.run, pure]
  rw [← Int.tmod_eq_emod_of_nonneg h0]
theorem r_cat {t t' : TypeId} {x y : Operand} {p q : ByteArray} (hx : ρ x = .string p) (hy : ρ y = .string q) (hb : ((p.size + q.size : Nat) : Int) ≤ 9223372036854775807) :
    Rn P ρ ⟨dst, .binOp .add t x y t', ty, pos, af, g⟩ w (.ok (.value (.string (p ++ q))) w) := by
  refine ⟨run_v ?_⟩
  have e : IntKind.max .i64 = 9223372036854775807 := by decide
  simp only [hx, hy]
  simp only [eqGuard, binOp, Op.stringOp, e]
  have hn : ¬ (((p.size + q.size : Nat) : Int) > 9223372036854775807) := by omega
  simp only [hn, if_false]
  rfl
theorem eq_ptrn (d : Nat) {t e : TypeId} (a : Addr) (ht : P.underlying t = some (.pointer e)) : (Op.equalIn (d + 1) t (.pointer (some a)) (.pointer none)).run P w = .ok false w := by
  rw [Op.equalIn]; simp only [run_underlying ht, Sem.run_bind, Sem.run_pure, Result.andThen_ok]
theorem eq_sln (d : Nat) {t e : TypeId} (a : Option Addr) (n c n' c' : Nat) (ht : P.underlying t = some (.slice e)) : (Op.equalIn (d + 1) t (.slice a n c) (.slice none n' c')).run P w = .ok a.isNone w := by
  cases a with
  | none => rw [Op.equalIn]; simp only [run_underlying ht, Sem.run_bind, Sem.run_pure, Result.andThen_ok]
  | some a => rw [Op.equalIn]; simp only [run_underlying ht, Sem.run_bind, Sem.run_pure, Result.andThen_ok]; rfl
theorem run_eql {t : TypeId} {x y : Operand} {u v : Value} {b : Bool} (hg : (eqGuard .eql t x y u v).run P w = .ok () w) (hbo : binOp .eql t u v = (do pure (.bool (← Op.equal t u v)))) (he : (Op.equal t u v).run P w = .ok b w) :
    (do eqGuard .eql t x y u v; binOp .eql t u v : Sem Value).run P w = .ok (.bool b) w := by
  rw [hbo]; simp only [Sem.run_bind, hg, he, Result.andThen_ok, Sem.run_pure]
theorem run_neq {t : TypeId} {x y : Operand} {u v : Value} {b : Bool} (hg : (eqGuard .neq t x y u v).run P w = .ok () w) (hbo : binOp .neq t u v = (do pure (.bool (!(← Op.equal t u v))))) (he : (Op.equal t u v).run P w = .ok b w) :
    (do eqGuard .neq t x y u v; binOp .neq t u v : Sem Value).run P w = .ok (.bool (!b)) w := by
  rw [hbo]; simp only [Sem.run_bind, hg, he, Result.andThen_ok, Sem.run_pure]
/-- A pointer and nil. -/
theorem r_pne {t t' e : TypeId} {x y : Operand} {a : Addr} (ht : P.underlying t = some (.pointer e)) (hx : ρ x = .pointer (some a)) (hy : ρ y = .pointer none) :
    Rn P ρ ⟨dst, .binOp .neq t x y t', ty, pos, af, g⟩ w (.ok (.value (.bool true)) w) := by
  refine ⟨run_v ?_⟩; rw [hx, hy]; exact run_neq rfl rfl (eq_ptrn 9999 a ht)
theorem r_peq {t t' e : TypeId} {x y : Operand} {a : Addr} (ht : P.underlying t = some (.pointer e)) (hx : ρ x = .pointer (some a)) (hy : ρ y = .pointer none) :
    Rn P ρ ⟨dst, .binOp .eql t x y t', ty, pos, af, g⟩ w (.ok (.value (.bool false)) w) := by
  refine ⟨run_v ?_⟩; rw [hx, hy]; exact run_eql rfl rfl (eq_ptrn 9999 a ht)
/-- A slice and nil. -/
theorem r_seq {t t' e : TypeId} {x y : Operand} {a : Option Addr} {n c n' c' : Nat} (ht : P.underlying t = some (.slice e)) (hx : ρ x = .slice a n c) (hy : ρ y = .slice none n' c') :
    Rn P ρ ⟨dst, .binOp .eql t x y t', ty, pos, af, g⟩ w (.ok (.value (.bool a.isNone)) w) := by
  refine ⟨run_v ?_⟩; rw [hx, hy]; exact run_eql rfl rfl (eq_sln 9999 a n c n' c' ht)
theorem r_not {t : TypeId} {x : Operand} {b : Bool} (hx : ρ x = .bool b) : Rn P ρ ⟨dst, .unOp .not t x, ty, pos, af, g⟩ w (.ok (.value (.bool !b)) w) := by
  refine ⟨run_v ?_⟩; simp only [hx]; rfl
def ncv : Value → Option Value
  | .pointer (some a) => some (.pointer (some a))
  | .func (.func f) a b => some (.func (.func f) a b)
  | .iface t v => some (.iface t v)
  | _ => none
theorem r_nc {x : Operand} (h : ncv (ρ x) = some v) : Rn P ρ ⟨dst, .nilCheck x, ty, pos, af, g⟩ w (.ok (.value v) w) := by
  unfold ncv at h
  split at h <;> simp only [Option.some.injEq, reduceCtorEq] at h <;> (rename_i e; subst h; refine ⟨?_⟩; simp only [execOp, e]; rfl)
theorem r_mf {fn : Fn} {fs cs : List Operand} {xs ys : List Value} (h1 : evs ρ fs = some xs) (h2 : evs ρ cs = some ys) :
    Rn P ρ ⟨dst, .makeFunc fn fs.toArray cs.toArray, ty, pos, af, g⟩ w (.ok (.value (.func fn xs.toArray ys.toArray)) w) := by
  refine ⟨run_v ?_⟩
  rw [← evs_eq h1, ← evs_eq h2]
  simp [Instr.makeFunc, Sem.run, pure]
def exv (v : Value) (i : Nat) : Option Value :=
  match v with
  | .tuple vs => (match vs.toList[i]? with | some u => mvv u | none => none)
  | _ => none
theorem r_ex {x : Operand} {i : Nat} (h : exv (ρ x) i = some v) : Rn P ρ ⟨dst, .extract x i, ty, pos, af, g⟩ w (.ok (.value v) w) := by
  refine ⟨run_v ?_⟩
  unfold exv at h
  split at h
  · rename_i vs e
    split at h
    · rename_i u hu
      have := mvv_eq h; subst this
      have hu' : vs[i]? = some u := by rw [← hu]; simp
      simp [e, Instr.extract, hu', Sem.run, pure]
    · cases h
  · cases h
theorem addr_add (b o n : Nat) : (⟨b, o, none⟩ : Addr).add n = ⟨b, o + n, none⟩ := by
  unfold Addr.add; split <;> simp_all
def faOff (P : Program) (s : TypeId) (f : Nat) : Option Nat :=
  match P.underlying s with
  | some (.struct fs) => (match fs.toList[f]? with
    | some ⟨_, t, off, _, _, _, _⟩ => (match P.info? t with | some i => (bif Nat.beq i.size 0 then none else some off) | none => none)
    | none => none)
  | _ => none
theorem r_fa {s : TypeId} {x : Operand} {f off b o : Nat} (hf : faOff P s f = some off) (hx : ρ x = .pointer (some ⟨b, o, none⟩)) :
    Rn P ρ ⟨dst, .fieldAddr s x f, ty, pos, af, g⟩ w (.ok (.value (.pointer (some ⟨b, o + off, none⟩))) w) := by
  refine ⟨run_v ?_⟩
  unfold faOff at hf
  split at hf
  · rename_i fs hu
    split at hf
    · rename_i nm t off' e1 e2 e3 e4 hfd
      split at hf
      · rename_i i hi
        cases hs : Nat.beq i.size 0 with
        | true => simp [hs] at hf
        | false =>
          simp only [hs, cond_false, Option.some.injEq] at hf
          subst hf
          have hs' : ¬ i.size = 0 := fun e => by simp [e] at hs
          have hfd' : fs[f]? = some ⟨nm, t, off', e1, e2, e3, e4⟩ := by rw [← hfd]; simp
          simp [hx, Instr.fieldAt, run_underlying hu, hfd', Instr.sureAddr, fieldPlace, sizeOf, typeInfo, program, hi, hs', addr_add, Sem.run, Sem.run_bind, Sem.run_pure, Result.andThen_ok]
      · cases hf
    · cases hf
  · cases hf
def aggT (P : Program) (t : TypeId) : Option Bool :=
  match P.underlying t with
  | some (.struct _) => some true
  | some (.array _ _) => some true
  | some _ => some false
  | none => none
theorem run_aggT {t : TypeId} {b : Bool} (h : aggT P t = some b) : (isAgg t).run P w = .ok b w := by
  unfold aggT at h
  split at h
  · rename_i fs hu; cases h; simp [isAgg, run_underlying hu, Sem.run_bind, Sem.run_pure, Result.andThen_ok]
  · rename_i fs hu; cases h; simp [isAgg, run_underlying hu, Sem.run_bind, Sem.run_pure, Result.andThen_ok]
  · rename_i d hn1 hn2 hu
    cases h
    simp only [isAgg, run_underlying hu, Sem.run_bind, Sem.run_pure, Result.andThen_ok]
  · cases h
def szT (P : Program) (t : TypeId) : Option Nat :=
  match P.info? t with
  | some ⟨_, _, n, _, _, _, _, _, _, _⟩ => some n
  | none => none
theorem szT_info {t : TypeId} {n : Nat} (h : szT P t = some n) : ∃ i, P.info? t = some i ∧ i.size = n := by
  unfold szT at h
  split at h
  · rename_i hi; simp only [Option.some.injEq] at h; exact ⟨_, hi, h⟩
  · cases h
theorem run_szT {t : TypeId} {n : Nat} (h : szT P t = some n) : (sizeOf t).run P w = .ok n w := by
  obtain ⟨i, hi, h⟩ := szT_info h
  simp [sizeOf, typeInfo, program, Sem.run, Sem.run_bind, Sem.run_pure, Result.andThen_ok, hi, h]
/-- A load of one cell. -/
theorem r_ld {t : TypeId} {x : Operand} {b o : Nat} (hx : ρ x = .pointer (some ⟨b, o, none⟩)) (ht : aggT P t = some false) (hc : w.cell? ⟨b, o, none⟩ = some v) :
    Rn P ρ ⟨dst, .load t x, ty, pos, af, g⟩ w (.ok (.value v) w) := by
  refine ⟨run_v ?_⟩
  simp [hx, Instr.loadAt, Instr.sureAddr, loadVar, run_aggT ht, hc, Sem.run_bind, Sem.run_pure, Result.andThen_ok]
theorem run_loadCells {b o : Nat} : ∀ (n i : Nat) (acc : Array Value) (vs : List Value), vs.length = n → (∀ j, j < n → w.cell? ⟨b, o + i + j, none⟩ = vs[j]?) →
    (loadCellsFrom ⟨b, o, none⟩ i n acc).run P w = .ok (acc ++ vs.toArray) w := by
  intro n
  induction n with
  | zero => intro i acc vs hl _; have : vs = [] := List.length_eq_zero_iff.1 hl; subst this; simp [loadCellsFrom, Sem.run, pure]
  | succ n ih =>
    intro i acc vs hl h
    cases vs with
    | nil => simp at hl
    | cons v vs =>
      have h0 := h 0 (by omega)
      simp only [Nat.add_zero, List.getElem?_cons_zero] at h0
      simp only [loadCellsFrom, Sem.run_bind, addr_add, run_load, h0, Result.andThen_ok]
      rw [ih (i + 1) (acc.push v) vs (by simpa using hl) (fun j hj => by
        have := h (j + 1) (by omega)
        simp only [List.getElem?_cons_succ] at this
        rw [← this]; congr 2; omega)]
      simp
/-- A load of a struct or array. -/
theorem r_lda {t : TypeId} {x : Operand} {b o n : Nat} {vs : List Value} (hx : ρ x = .pointer (some ⟨b, o, none⟩)) (ht : aggT P t = some true) (hn : szT P t = some n) (hl : vs.length = n)
    (hc : ∀ j, j < n → w.cell? ⟨b, o + j, none⟩ = vs[j]?) :
    Rn P ρ ⟨dst, .load t x, ty, pos, af, g⟩ w (.ok (.value (.agg vs.toArray)) w) := by
  refine ⟨run_v ?_⟩
  simp only [hx, Instr.loadAt, Instr.sureAddr, loadVar, run_aggT ht, run_szT hn, Sem.run_bind, Sem.run_pure, Result.andThen_ok, if_true, loadCells]
  rw [run_loadCells n 0 #[] vs hl (by simpa using hc)]
  simp [Sem.run, pure]
theorem r_ldb {t : TypeId} {x : Operand} {b o n : Nat} {vs cs : List Value} {T : TypeId} {fz : Nat × Nat} (hx : ρ x = .pointer (some ⟨b, o, none⟩)) (ht : aggT P t = some true) (hn : szT P t = some n)
    (hb : w.heap[b]? = some (.cells cs.toArray T fz)) (hv : (cs.drop o).take n = vs) (hl : vs.length = n) :
    Rn P ρ ⟨dst, .load t x, ty, pos, af, g⟩ w (.ok (.value (.agg vs.toArray)) w) := by
  refine r_lda hx ht hn hl fun j hj => ?_
  subst hv
  simp [World.cell?, hb, List.getElem?_take, hj, List.getElem?_drop]
/-- Fields of a struct at hand. -/
def fdv (P : Program) (t : TypeId) (f : Nat) (v : Value) : Option Value :=
  match v with
  | .agg cs => (match P.underlying t with
    | some (.struct fs) => (match fs.toList[f]? with
      | some ⟨_, ft, off, _, _, _, _⟩ => (match aggT P ft with
        | some false => (match cs.toList[off]? with | some u => mvv u | none => none)
        | some true => (match szT P ft with | some n => some (.agg ((cs.toList.drop off).take n).toArray) | none => none)
        | none => none)
      | none => none)
    | _ => none)
  | _ => none
theorem r_fd {t : TypeId} {x : Operand} {f : Nat} (h : fdv P t f (ρ x) = some v) : Rn P ρ ⟨dst, .field t x f, ty, pos, af, g⟩ w (.ok (.value v) w) := by
  refine ⟨run_v ?_⟩
  unfold fdv at h
  split at h
  · rename_i cs e
    split at h
    · rename_i fs hu
      split at h
      · rename_i nm ft off e1 e2 e3 e4 hfd
        have hfd' : fs[f]? = some ⟨nm, ft, off, e1, e2, e3, e4⟩ := by rw [← hfd]; simp
        have hstep : (Instr.field t (.agg cs) f).run P w = (part ft cs off).run P w := by
          simp [Instr.field, run_underlying hu, hfd', asAgg, Sem.run_bind, Sem.run_pure, Result.andThen_ok]
        rw [e, hstep]
        split at h
        · rename_i ha
          split at h
          · rename_i u hu'
            have := mvv_eq h; subst this
            have h3 : cs[off]? = some u := by rw [← hu']; simp
            simp [part, run_aggT ha, h3, Sem.run_bind, Sem.run_pure, Result.andThen_ok]
          · cases h
        · rename_i ha
          split at h
          · rename_i n hn
            simp only [Option.some.injEq] at h
            subst h
            simp only [part, run_aggT ha, run_szT hn, Sem.run_bind, Sem.run_pure, Result.andThen_ok, if_true]
            congr 2
            apply Array.ext'
            simp [List.extract_eq_take_drop, Nat.add_sub_cancel_left]
          · cases h
        · cases h
      · cases h
    · cases h
  · cases h
end
end Go.Proofs.YtfnbgbeinmekgaaGreatDoor.Fw
namespace Go.Proofs.YtfnbgbeinmekgaaGreatDoor.Fw
open Go Go.RowKit
set_option linter.unusedSimpArgs false
set_option linter.unusedVariables false
section
variable {P : Program} {w : World} {ρ : Operand → Value} {dst : Option Tmp} {ty : TypeId} {pos : String} {af : Array Edge} {g : Option (Nat × Bool)} {v : Value}
def cvv (P : Program) (src dst : TypeId) (v : Value) : Option Value :=
  match P.underlying src, P.underlying dst, v with
  | some (.int _), some (.int k), .int _ n => some (.int k (k.wrap n))
  | some .string, some .string, .string s => some (.string s)
  | _, _, _ => none
theorem und_some {t : TypeId} {d : TypeDesc} (h : P.underlying t = some d) : (underlying t).run P w = .ok d w := by
  simp [run_underlying h]
theorem r_cv {s d : TypeId} {x : Operand} (h : cvv P s d (ρ x) = some v) : Rn P ρ ⟨dst, .convert s d x, ty, pos, af, g⟩ w (.ok (.value v) w) := by
  refine ⟨run_v ?_⟩
  unfold cvv at h
  split at h
  · rename_i k' k k'' n h1 h2 h3
    simp only [Option.some.injEq] at h
    subst h
    rw [h3]
    simp [convert, run_underlying h1, run_underlying h2, Conv.intToInt, Sem.run_bind, Sem.run_pure, Result.andThen_ok]
  · rename_i s' h1 h2 h3
    simp only [Option.some.injEq] at h
    subst h
    rw [h3]
    simp [convert, run_underlying h1, run_underlying h2, Sem.run_bind, Sem.run_pure, Result.andThen_ok]
  · cases h
/-- A whole number of one kind, and its own: the number stays. -/
theorem r_cvi {s d : TypeId} {x : Operand} {k k' : IntKind} {n : Int} (h1 : P.underlying s = some (.int k')) (h2 : P.underlying d = some (.int k)) (hx : ρ x = .int k' n) (hb : k.wrap n = n) :
    Rn P ρ ⟨dst, .convert s d x, ty, pos, af, g⟩ w (.ok (.value (.int k n)) w) := by
  refine r_cv ?_; simp [cvv, h1, h2, hx, hb]
def lenv (P : Program) (t : TypeId) (v : Value) : Option Value :=
  match P.underlying t, v with
  | some .string, .string s => some (.int .i64 (s.size : Int))
  | some (.slice _), .slice _ n _ => some (.int .i64 (n : Int))
  | some (.array n _), .agg _ => some (.int .i64 (n : Int))
  | _, _ => none
theorem run_bi {b : Builtin} {xs : List Operand} {ats : Array TypeId} {w' : World} {r : Value} (s : Sem Value)
    (hb : ∀ (cn : Array Bool) (args : Array Value), args = (xs.map ρ).toArray → builtin b ats ty cn args = (do pure (Next.value (← s)))) (hs : s.run P w = .ok r w') :
    Rn P ρ ⟨dst, .call ⟨.builtin b, xs.toArray, ats⟩, ty, pos, af, g⟩ w (.ok (.value r) w') := by
  refine ⟨?_⟩
  simp only [execOp, resolve, Sem.run_bind, Sem.run_pure, Result.andThen_ok, invoke]
  rw [hb _ _ (by simp)]
  exact run_v hs
theorem r_len {t : TypeId} {x : Operand} (h : lenv P t (ρ x) = some v) : Rn P ρ ⟨dst, .call ⟨.builtin .len, #[x], #[t]⟩, ty, pos, af, g⟩ w (.ok (.value v) w) := by
  refine run_bi (xs := [x]) (Builtin.len_ #[t] ty #[ρ x]) (fun cn args e => by subst e; rfl) ?_
  unfold lenv at h
  split at h
  · rename_i s h1 h2; simp only [Option.some.injEq] at h; subst h; rw [h2]; simp [Builtin.len_, run_underlying h1, goInt, Sem.run_bind, Sem.run_pure, Result.andThen_ok]
  · rename_i s n c h1 h2; simp only [Option.some.injEq] at h; subst h; rw [h2]; simp [Builtin.len_, run_underlying h1, goInt, Sem.run_bind, Sem.run_pure, Result.andThen_ok]
  · rename_i n e c h1 h2; simp only [Option.some.injEq] at h; subst h; rw [h2]; simp [Builtin.len_, run_underlying h1, goInt, Sem.run_bind, Sem.run_pure, Result.andThen_ok]
  · cases h
theorem r_min {ats : Array TypeId} {x y : Operand} {k k' : IntKind} {p q : Int} (hx : ρ x = .int k p) (hy : ρ y = .int k' q) :
    Rn P ρ ⟨dst, .call ⟨.builtin .min, #[x, y], ats⟩, ty, pos, af, g⟩ w (.ok (.value (.int k (min p q))) w) := by
  refine run_bi (xs := [x, y]) (Builtin.min_ ats ty #[ρ x, ρ y]) (fun cn args e => by subst e; rfl) ?_
  rw [hx, hy]
  have e : (if q < p then q else p) = min p q := by rw [Int.min_def]; split <;> split <;> omega
  simp [Builtin.min_, List.foldlM, Builtin.min2, Sem.run_bind, Sem.run_pure, Result.andThen_ok, e]
theorem r_max {ats : Array TypeId} {x y : Operand} {k k' : IntKind} {p q : Int} (hx : ρ x = .int k p) (hy : ρ y = .int k' q) :
    Rn P ρ ⟨dst, .call ⟨.builtin .max, #[x, y], ats⟩, ty, pos, af, g⟩ w (.ok (.value (.int k (max p q))) w) := by
  refine run_bi (xs := [x, y]) (Builtin.max_ ats ty #[ρ x, ρ y]) (fun cn args e => by subst e; rfl) ?_
  rw [hx, hy]
  have e : (if q > p then q else p) = max p q := by rw [Int.max_def]; split <;> split <;> omega
  simp [Builtin.max_, List.foldlM, Builtin.max2, Sem.run_bind, Sem.run_pure, Result.andThen_ok, e]
/-- A text's byte. -/
def bt (s : ByteArray) (i : Int) : Int := ((s.data[i.toNat]?).getD 0).toNat
theorem bt_range (s : ByteArray) (i : Int) : 0 ≤ bt s i ∧ bt s i < 256 := by
  unfold bt; have := ((s.data[i.toNat]?).getD 0).toNat_lt; omega
theorem r_ix {t : TypeId} {x y : Operand} {s : ByteArray} {k : IntKind} {i : Int} (ht : P.underlying t = some .string) (hx : ρ x = .string s) (hy : ρ y = .int k i) (h0 : 0 ≤ i) (h1 : i < s.size) :
    Rn P ρ ⟨dst, .index t x y, ty, pos, af, g⟩ w (.ok (.value (.int .u8 (bt s i))) w) := by
  refine ⟨run_v ?_⟩
  rw [hx, hy, run_index_string (P := P) (w := w) (t := t) (s := s) (k := k) (i := i) (h := ht), dif_pos ⟨h0, h1⟩]
  have h2 : i.toNat < s.data.size := by have : s.data.size = s.size := rfl; omega
  simp only [bt, Array.getElem?_eq_getElem h2, Option.getD_some]
  rfl
theorem r_ss {t : TypeId} {x y z : Operand} {s : ByteArray} {k k' : IntKind} {i j : Int} (ht : P.underlying t = some .string) (hx : ρ x = .string s) (hy : ρ y = .int k i) (hz : ρ z = .int k' j) (h0 : 0 ≤ i) (h1 : i ≤ j) (h2 : j ≤ s.size) :
    Rn P ρ ⟨dst, .slice t x (some y) (some z) none, ty, pos, af, g⟩ w (.ok (.value (.string (s.extract i.toNat j.toNat))) w) := by
  refine ⟨run_v ?_⟩
  simp only [Option.map_some, Option.map_none, hx, hy, hz, Instr.sliceAt, Sem.run_bind, und_some ht, Result.andThen_ok]
  exact run_slice_string (P := P) (w := w) (t := t) (s := s) (k := k) (k' := k') (i := i) (j := j) (h := ht) (h0 := h0) (h1 := h1) (h2 := h2)
theorem r_sl {t : TypeId} {x y : Operand} {s : ByteArray} {k : IntKind} {i : Int} (ht : P.underlying t = some .string) (hx : ρ x = .string s) (hy : ρ y = .int k i) (h0 : 0 ≤ i) (h1 : i ≤ s.size) :
    Rn P ρ ⟨dst, .slice t x (some y) none none, ty, pos, af, g⟩ w (.ok (.value (.string (s.extract i.toNat s.size))) w) := by
  refine ⟨run_v ?_⟩
  simp only [Option.map_some, Option.map_none, hx, hy, Instr.sliceAt, Sem.run_bind, und_some ht, Result.andThen_ok]
  exact run_slice_string_l (P := P) (w := w) (t := t) (s := s) (ht := ht) (kl := k) (l := i) (h0 := h0) (h1 := h1)
theorem r_sh {t : TypeId} {x y : Operand} {s : ByteArray} {k : IntKind} {i : Int} (ht : P.underlying t = some .string) (hx : ρ x = .string s) (hy : ρ y = .int k i) (h0 : 0 ≤ i) (h1 : i ≤ s.size) :
    Rn P ρ ⟨dst, .slice t x none (some y) none, ty, pos, af, g⟩ w (.ok (.value (.string (s.extract 0 i.toNat))) w) := by
  refine ⟨run_v ?_⟩
  simp only [Option.map_some, Option.map_none, hx, hy, Instr.sliceAt, Sem.run_bind, und_some ht, Result.andThen_ok]
  exact run_slice_string_h (P := P) (w := w) (t := t) (s := s) (ht := ht) (kh := k) (h := i) (h0 := h0) (h2 := h1)
/-- A bound, if there is one. -/
def bnd (d : Int) : Option Value → Option Int
  | none => some d
  | some (.int _ n) => some n
  | _ => none
theorem run_bounds {len cap : Nat} {lo hi : Option Value} {l h : Int} (hl : bnd 0 lo = some l) (hh : bnd len hi = some h) (h0 : 0 ≤ l) (h1 : l ≤ h) (h2 : h ≤ cap) (h3 : len ≤ cap) :
    (Instr.sliceBounds true len cap lo hi none).run P w = .ok (l.toNat, h.toNat, cap) w := by
  have hb : ∀ (k : IntKind) (i : Int) (y : Nat) (c : BoundsCode), 0 ≤ i → i ≤ y → (Instr.sliceBound (.int k i) y c).run P w = .ok i.toNat w := by
    intro k i y c a b
    simp [Instr.sliceBound, asIntOf, a, b, Sem.run_bind, Sem.run_pure, Result.andThen_ok]
  cases hi with
  | none =>
    simp only [bnd, Option.some.injEq] at hh
    cases lo with
    | none =>
      simp only [bnd, Option.some.injEq] at hl
      subst hl hh
      simp [Instr.sliceBounds, Sem.run_bind, Sem.run_pure, Result.andThen_ok]
    | some v =>
      cases v <;> simp only [bnd, Option.some.injEq, reduceCtorEq] at hl
      subst hl hh
      simp [Instr.sliceBounds, Sem.run_bind, Sem.run_pure, Result.andThen_ok, hb _ _ _ _ h0 h1]
  | some u =>
    cases u <;> simp only [bnd, Option.some.injEq, reduceCtorEq] at hh
    subst hh
    cases lo with
    | none =>
      simp only [bnd, Option.some.injEq] at hl
      subst hl
      simp [Instr.sliceBounds, Sem.run_bind, Sem.run_pure, Result.andThen_ok, hb _ _ _ _ h1 h2]
    | some v =>
      cases v <;> simp only [bnd, Option.some.injEq, reduceCtorEq] at hl
      subst hl
      have h1' : 0 ≤ (‹Int› : Int) := by assumption
      simp only [Instr.sliceBounds, Option.isSome_none, Bool.false_eq_true, if_false, if_true, Sem.run_bind, Sem.run_pure, Result.andThen_ok]
      rw [hb _ _ _ _ (by omega) h2]
      simp only [Result.andThen_ok]
      rw [hb _ _ _ _ h0 (by omega)]
      rfl
/-- A slice's part; the address goes on, but at the very end. -/
def subA (a : Option Addr) (l cap size : Nat) : Option Addr := if cap = l then a else a.map (·.add (l * size))
theorem r_sls {t e : TypeId} {x : Operand} {lo hi : Option Operand} {a : Option Addr} {n c size : Nat} {l h : Int} (ht : P.underlying t = some (.slice e)) (hs : szT P e = some size) (hx : ρ x = .slice a n c)
    (hl : bnd 0 (lo.map ρ) = some l) (hh : bnd n (hi.map ρ) = some h) (h0 : 0 ≤ l) (h1 : l ≤ h) (h2 : h ≤ c) (h3 : n ≤ c) :
    Rn P ρ ⟨dst, .slice t x lo hi none, ty, pos, af, g⟩ w (.ok (.value (.slice (subA a l.toNat c size) (h.toNat - l.toNat) (c - l.toNat))) w) := by
  refine ⟨run_v ?_⟩
  simp only [Option.map_none, hx, Instr.sliceAt, Sem.run_bind, und_some ht, Result.andThen_ok]
  simp only [Instr.slice, Sem.run_bind, und_some ht, Result.andThen_ok, run_bounds hl hh h0 h1 h2 h3, run_szT hs, Sem.run_pure, subA]
theorem run_boundsA {n : Nat} {lo hi : Option Value} {l h : Int} (hl : bnd 0 lo = some l) (hh : bnd n hi = some h) (h0 : 0 ≤ l) (h1 : l ≤ h) (h2 : h ≤ n) :
    (Instr.sliceBounds false n n lo hi none).run P w = .ok (l.toNat, h.toNat, n) w := by
  have hb : ∀ (k : IntKind) (i : Int) (y : Nat) (c : BoundsCode), 0 ≤ i → i ≤ y → (Instr.sliceBound (.int k i) y c).run P w = .ok i.toNat w := by
    intro k i y c a b
    simp [Instr.sliceBound, asIntOf, a, b, Sem.run_bind, Sem.run_pure, Result.andThen_ok]
  cases hi with
  | none =>
    simp only [bnd, Option.some.injEq] at hh
    cases lo with
    | none =>
      simp only [bnd, Option.some.injEq] at hl
      subst hl hh
      simp [Instr.sliceBounds, Sem.run_bind, Sem.run_pure, Result.andThen_ok]
    | some v =>
      cases v <;> simp only [bnd, Option.some.injEq, reduceCtorEq] at hl
      subst hl hh
      simp [Instr.sliceBounds, Sem.run_bind, Sem.run_pure, Result.andThen_ok, hb _ _ _ _ h0 h1]
  | some u =>
    cases u <;> simp only [bnd, Option.some.injEq, reduceCtorEq] at hh
    subst hh
    cases lo with
    | none =>
      simp only [bnd, Option.some.injEq] at hl
      subst hl
      simp [Instr.sliceBounds, Sem.run_bind, Sem.run_pure, Result.andThen_ok, hb _ _ _ _ h1 h2]
    | some v =>
      cases v <;> simp only [bnd, Option.some.injEq, reduceCtorEq] at hl
      subst hl
      simp only [Instr.sliceBounds, Option.isSome_none, Bool.false_eq_true, if_false, if_true, Sem.run_bind, Sem.run_pure, Result.andThen_ok]
      rw [hb _ _ _ _ (by omega) h2]
      simp only [Result.andThen_ok]
      rw [hb _ _ _ _ h0 (by omega)]
      rfl
/-- A part of an array in memory. -/
theorem r_sla {t e : TypeId} {x : Operand} {lo hi : Option Operand} {a : Addr} {n size : Nat} {l h : Int} (ht : P.underlying t = some (.array n e)) (hs : szT P e = some size) (hx : ρ x = .pointer (some a))
    (hl : bnd 0 (lo.map ρ) = some l) (hh : bnd n (hi.map ρ) = some h) (h0 : 0 ≤ l) (h1 : l ≤ h) (h2 : h ≤ n) :
    Rn P ρ ⟨dst, .slice t x lo hi none, ty, pos, af, g⟩ w (.ok (.value (.slice (subA (some a) l.toNat n size) (h.toNat - l.toNat) (n - l.toNat))) w) := by
  refine ⟨run_v ?_⟩
  simp only [Option.map_none, hx, Instr.sliceAt, Sem.run_bind, und_some ht, Result.andThen_ok, Instr.sureAddr, Sem.run_pure, run_boundsA hl hh h0 h1 h2, run_szT hs, subA, Option.map_some]
  split <;> rfl
/-- The address of a slice's element. -/
theorem r_ia {t e : TypeId} {x y : Operand} {b o n c size : Nat} {k : IntKind} {i : Int} (ht : P.underlying t = some (.slice e)) (hs : szT P e = some size) (hx : ρ x = .slice (some ⟨b, o, none⟩) n c) (hy : ρ y = .int k i) (h0 : 0 ≤ i) (h1 : i < n) :
    Rn P ρ ⟨dst, .indexAddr t x y, ty, pos, af, g⟩ w (.ok (.value (.pointer (some ⟨b, o + i.toNat * size, none⟩))) w) := by
  refine ⟨run_v ?_⟩
  have hb : (decide (n ≤ 1) && false) = false := by simp
  simp [hx, hy, Instr.indexAt, asIntOf, Sem.run_bind, und_some ht, Result.andThen_ok, Sem.run_pure, h0, h1, run_szT hs, addr_add]
theorem r_mi {t : TypeId} {x : Operand} {d : TypeDesc} (ht : P.underlying t = some d) (hd : (match d with | .interface _ => false | _ => true) = true) (hx : mvv (ρ x) = some v) :
    Rn P ρ ⟨dst, .makeInterface t x, ty, pos, af, g⟩ w (.ok (.value (.iface t v)) w) := by
  refine ⟨run_v ?_⟩
  rw [mvv_eq hx]
  cases d <;> simp_all [Instr.makeInterface, run_underlying ht, Sem.run_bind, Sem.run_pure, Result.andThen_ok]
def cellsL : Value → List Value
  | .agg c => c.toList
  | v => [v]
theorem cells_toArray (v : Value) : v.cells = (cellsL v).toArray := by cases v <;> simp [Value.cells, cellsL]
theorem run_new (T : TypeId) (cs : List Value) : (newRow T cs.toArray).run P w = .ok ⟨w.heap.size, 0, none⟩ (w.alloc (.cells cs.toArray T)) := by
  rfl
/-- What a new block gives. -/
structure Nb (w : World) (b : Nat) (cs : List Value) (T : TypeId) (w1 : World) : Prop where
  kp : Kp No w w1
  ge : w.heap.size ≤ b
  lt : b < w1.heap.size
  blk : w1.heap[b]? = some (.cells cs.toArray T (0, 0))
theorem nb_alloc (w : World) (cs : List Value) (T : TypeId) : Nb w w.heap.size cs T (w.alloc (.cells cs.toArray T)) :=
  ⟨Kp.alloc _ _, Nat.le_refl _, by show _ < (w.heap.push _).size; simp, heap_alloc_new w _⟩
theorem run_box {T : TypeId} {u : Value} {cs : List Value} (h : cellsL u = cs) : (Instr.box T u).run P w = .ok (.pointer (some ⟨w.heap.size, 0, none⟩)) (w.alloc (.cells cs.toArray T)) := by
  simp only [Instr.box, newVar, cells_toArray, h, Sem.run_bind, run_new, Result.andThen_ok, Sem.run_pure]
theorem r_box {T : TypeId} {x : Operand} {u : Value} {cs : List Value} (hx : mvv (ρ x) = some u) (hc : cellsL u = cs) :
    Rn P ρ ⟨dst, .box T x, ty, pos, af, g⟩ w (.ok (.value (.pointer (some ⟨w.heap.size, 0, none⟩))) (w.alloc (.cells cs.toArray T))) := by
  refine ⟨run_v ?_⟩; rw [mvv_eq hx]; exact run_box hc
def zeroL (P : Program) (t : TypeId) : Option (List Value) :=
  match P.info? t with
  | some i => (match i.zero with | some v => some (cellsL v) | none => none)
  | none => none
theorem run_zero {t : TypeId} {cs : List Value} (h : zeroL P t = some cs) : ∃ v, (zeroValue t).run P w = .ok v w ∧ cellsL v = cs := by
  unfold zeroL at h
  split at h
  · rename_i i hi
    split at h
    · rename_i v hv
      simp only [Option.some.injEq] at h
      exact ⟨v, by simp [zeroValue, typeInfo, program, Sem.run, Sem.run_bind, Sem.run_pure, Result.andThen_ok, hi, hv, pure], h⟩
    · cases h
  · cases h
theorem r_al {T : TypeId} {cs : List Value} (h : zeroL P T = some cs) :
    Rn P ρ ⟨dst, .alloc T, ty, pos, af, g⟩ w (.ok (.value (.pointer (some ⟨w.heap.size, 0, none⟩))) (w.alloc (.cells cs.toArray T))) := by
  refine ⟨run_v ?_⟩
  obtain ⟨v, hv, hc⟩ := run_zero (w := w) h
  simp only [Instr.alloc, Sem.run_bind, hv, Result.andThen_ok, newVar, cells_toArray, hc, run_new, Sem.run_pure]
/-- Parts laid into cells. -/
def setAt (cs : List Value) (o : Nat) : List Value → List Value
  | [] => cs
  | v :: r => setAt (cs.set o v) (o + 1) r
def fillL (place : Nat → Option (Nat × Nat)) (ρ : Operand → Value) (cs : List Value) : List (Nat × Operand) → Option (List Value)
  | [] => some cs
  | (i, x) :: rest =>
    match place i, mvv (ρ x) with
    | some (off, size), some v => (match Nat.beq (cellsL v).length size, Nat.ble (off + (cellsL v).length) cs.length with
      | true, true => fillL place ρ (setAt cs off (cellsL v)) rest
      | _, _ => none)
    | _, _ => none
theorem foldl_set (off : Nat) : ∀ (l : List Value) (k : Nat) (cs : Array Value), (l.zipIdx k).foldl (fun cs (p : Value × Nat) => cs.setIfInBounds (off + p.2) p.1) cs = (setAt cs.toList (off + k) l).toArray := by
  intro l
  induction l with
  | nil => intro k cs; simp [setAt]
  | cons v r ih =>
    intro k cs
    simp only [List.zipIdx_cons, List.foldl_cons, ih, setAt, Array.toList_setIfInBounds]
    rw [Nat.add_assoc]
theorem fill_L {place : Nat → Option (Nat × Nat)} : ∀ {parts : List (Nat × Operand)} {cs : List Value} {out : List Value}, fillL place ρ cs parts = some out →
    Instr.fill place cs.toArray (parts.map fun p => (p.1, ρ p.2)) = some out.toArray := by
  intro parts
  induction parts with
  | nil => intro cs out h; simp [fillL] at h; simp [Instr.fill, h]
  | cons p r ih =>
    intro cs out h
    obtain ⟨i, x⟩ := p
    simp only [fillL] at h
    split at h
    · rename_i off size v hp hv
      split at h
      · rename_i h1 h2
        have e := mvv_eq hv
        have h1' := Nat.eq_of_beq_eq_true h1
        have h2' := Nat.le_of_ble_eq_true h2
        simp only [List.map_cons, Instr.fill, hp, e, cells_toArray, List.size_toArray]
        rw [if_neg (by simp [h1']; omega)]
        have := ih h
        rw [← this]
        congr 1
        have h3 := foldl_set off (cellsL v) 0 cs.toArray
        simp only [Nat.add_zero] at h3
        rw [← h3, ← Array.foldl_toList]
        simp
      · cases h
    · cases h
def bdv (P : Program) (ρ : Operand → Value) (t : TypeId) (parts : List (Nat × Operand)) : Option Value :=
  match zeroL P t with
  | some zs => (match P.underlying t with
    | some (.struct fs) => (match fs.toList.mapM (fun f => (szT P f.type).map fun n => (f.offset, n)) with
      | some places => (match fillL (fun i => places[i]?) ρ zs parts with | some cs => some (.agg cs.toArray) | none => none)
      | none => none)
    | some (.array _ e) => (match szT P e with
      | some n => (match fillL (fun i => some (i * n, n)) ρ zs parts with | some cs => some (.agg cs.toArray) | none => none)
      | none => none)
    | _ => none)
  | none => none
theorem run_mapM {α β : Type} (f : α → Sem β) (h : α → Option β) (hf : ∀ a b, h a = some b → (f a).run P w = .ok b w) : ∀ (l : List α) (bs : List β), l.mapM h = some bs → (l.mapM f).run P w = .ok bs w := by
  intro l
  induction l with
  | nil => intro bs hb; simp at hb; subst hb; simp [Sem.run, pure]
  | cons a r ih =>
    intro bs hb
    simp only [List.mapM_cons, Option.bind_eq_bind, Option.bind_eq_some_iff, Option.pure_def, Option.some.injEq] at hb
    obtain ⟨b, h1, bs', h2, rfl⟩ := hb
    simp only [List.mapM_cons, Sem.run_bind, hf _ _ h1, Result.andThen_ok, ih _ h2, Sem.run_pure]
theorem r_bd {t : TypeId} {parts : List (Nat × Operand)} (h : bdv P ρ t parts = some v) : Rn P ρ ⟨dst, .build t parts.toArray, ty, pos, af, g⟩ w (.ok (.value v) w) := by
  refine ⟨run_v ?_⟩
  unfold bdv at h
  split at h
  · rename_i zs hz
    obtain ⟨z, hz1, hz2⟩ := run_zero (w := w) hz
    split at h
    · rename_i fs hu
      split at h
      · rename_i places hpl
        split at h
        · rename_i cs hcs
          simp only [Option.some.injEq] at h
          subst h
          have hm : (fs.mapM fun f => (do pure (f.offset, ← sizeOf f.type) : Sem (Nat × Nat))).run P w = .ok places.toArray w := by
            have hl : fs = fs.toList.toArray := by simp
            rw [hl, List.mapM_toArray, ← bind_pure_comp, Sem.run_bind]
            rw [run_mapM _ (fun f => (szT P f.type).map fun n => (f.offset, n)) ?_ _ _ hpl]
            · rfl
            · intro f b hb
              cases hs : szT P f.type with
              | none => simp [hs] at hb
              | some n =>
                simp only [hs, Option.map_some, Option.some.injEq] at hb
                subst hb
                simp only [Sem.run_bind, run_szT hs, Result.andThen_ok, Sem.run_pure]
          simp only [Instr.build, Sem.run_bind, hz1, Result.andThen_ok, und_some hu, hm]
          have hf := fill_L hcs
          simp only [cells_toArray, hz2]
          simp only [List.map_toArray, List.getElem?_toArray]
          rw [hf]
          rfl
        · cases h
      · cases h
    · rename_i n' e hu
      split at h
      · rename_i n hn
        split at h
        · rename_i cs hcs
          simp only [Option.some.injEq] at h
          subst h
          simp only [Instr.build, Sem.run_bind, hz1, Result.andThen_ok, und_some hu, run_szT hn]
          have hf := fill_L hcs
          simp only [cells_toArray, hz2]
          simp only [List.map_toArray]
          rw [hf]
          rfl
        · cases h
      · cases h
    · cases h
  · cases h
end
end Go.Proofs.YtfnbgbeinmekgaaGreatDoor.Fw
namespace Go.Proofs.YtfnbgbeinmekgaaGreatDoor.Fw
open Go Go.RowKit
set_option linter.unusedSimpArgs false
set_option linter.unusedVariables false
section
variable {P : Program} {w : World} {ρ : Operand → Value} {dst : Option Tmp} {ty : TypeId} {pos : String} {af : Array Edge} {g : Option (Nat × Bool)} {v : Value}
theorem run_u {s : Sem Unit} {w' : World} (h : s.run P w = .ok () w') : (do s; pure Next.skip : Sem Next).run P w = .ok .skip w' := by
  simp only [Sem.run_bind, h, Result.andThen_ok, Sem.run_pure]
/-- What a store into a block gives. -/
structure Sb (w : World) (b : Nat) (cs : List Value) (T : TypeId) (w1 : World) : Prop where
  kp : Kp (fun k => k = b) w w1
  sz : w1.heap.size = w.heap.size
  blk : w1.heap[b]? = some (.cells cs.toArray T (0, 0))
theorem setAt_eq : ∀ (vs : List Value) (o : Nat) (cs : List Value), o + vs.length ≤ cs.length → setAt cs o vs = cs.take o ++ vs ++ cs.drop (o + vs.length) := by
  intro vs
  induction vs with
  | nil => intro o cs _; simp [setAt]
  | cons v r ih =>
    intro o cs h
    simp only [List.length_cons] at h
    rw [setAt, ih (o + 1) (cs.set o v) (by simp; omega)]
    have ho : o < cs.length := by omega
    have e1 : (cs.set o v).take (o + 1) = cs.take o ++ [v] := by
      apply List.ext_getElem?
      intro i
      simp only [List.getElem?_take, List.getElem?_append, List.getElem?_set, List.length_take]
      have hm : min o cs.length = o := by omega
      rw [hm]
      by_cases h1 : i < o
      · simp [h1, show i < o + 1 from by omega, show ¬ o = i from by omega]
      · by_cases h2 : i = o
        · subst h2; simp [ho]
        · simp only [show ¬ i < o + 1 from by omega, h1, if_false]
          rw [List.getElem?_eq_none (by simp; omega)]
    have e2 : (cs.set o v).drop (o + 1 + r.length) = cs.drop (o + (r.length + 1)) := by
      rw [List.drop_set_of_lt (by omega)]
      congr 1
      omega
    rw [e1, e2]
    simp
theorem sb_setRow {b : Nat} {cs cs' : List Value} {T : TypeId} (hb : w.heap[b]? = some (.cells cs.toArray T (0, 0))) : Sb w b cs' T (w.setRow b cs'.toArray) :=
  ⟨⟨rfl, rfl, rfl, by simp [World.setRow], fun k _ hs => by
      have : ¬ b = k := fun e => hs e.symm
      simp [World.setRow, Array.getElem?_modify, this]⟩, by simp [World.setRow], setRow_heap w b cs.toArray cs'.toArray T (0, 0) hb⟩
theorem r_st {t : TypeId} {x y : Operand} {b o : Nat} {u : Value} {cs vs : List Value} {T : TypeId} (hx : ρ x = .pointer (some ⟨b, o, none⟩)) (hy : mvv (ρ y) = some u) (hvs : cellsL u = vs) (hs : szT P t = some vs.length) (h1 : vs.all Value.oneCell' = true)
    (hb : w.heap[b]? = some (.cells cs.toArray T (0, 0))) (ho : o + vs.length ≤ cs.length) :
    Rn P ρ ⟨dst, .store t x y, ty, pos, af, g⟩ w (.ok .skip (w.setRow b (setAt cs o vs).toArray)) := by
  refine ⟨run_u ?_⟩
  have e := mvv_eq hy
  simp only [hx, Instr.storeAt, Instr.sureAddr, Sem.run_bind, Sem.run_pure, Result.andThen_ok, storeVar, run_szT hs, e, cells_toArray, hvs, List.size_toArray]
  simp only [ne_eq, not_true_eq_false, if_false]
  have h := run_storeCells_at (P := P) b o T vs 0 cs.toArray w hb (by simpa using ho) (by simpa using h1)
  simp only [Nat.add_zero] at h
  rw [show (storeCells ⟨b, o, none⟩ vs).run P w = _ from h, setAt_eq vs o cs ho]
def bsv (P : Program) (ρ : Operand → Value) (t : TypeId) (len : Nat) (parts : List (Nat × Operand)) : Option (List Value × TypeId) :=
  match P.underlying t with
  | some (.slice e) => (match szT P e, zeroL P e with
    | some n, some zs => (match Nat.ble 1 (len * n), Nat.ble (len * n) 1000, fillL (fun i => some (i * n, n)) ρ ((List.range (len * n)).map (fun j => zs.getD (j % zs.length) default)) parts with
      | true, true, some cs => some (cs, e)
      | _, _, _ => none)
    | _, _ => none)
  | _ => none
theorem r_bs {t : TypeId} {len : Nat} {parts : List (Nat × Operand)} {cs : List Value} {e : TypeId} (h : bsv P ρ t len parts = some (cs, e)) :
    Rn P ρ ⟨dst, .buildSlice t len parts.toArray, ty, pos, af, g⟩ w (.ok (.value (.slice (some ⟨w.heap.size, 0, none⟩) len len)) (w.alloc (.cells cs.toArray e))) := by
  refine ⟨run_v ?_⟩
  unfold bsv at h
  split at h
  · rename_i e' hu
    split at h
    · rename_i n zs hn hz
      split at h
      · rename_i cs' h1 h2 hf
        simp only [Option.some.injEq, Prod.mk.injEq] at h
        obtain ⟨rfl, rfl⟩ := h
        have h1' := Nat.le_of_ble_eq_true h1
        have h2' := Nat.le_of_ble_eq_true h2
        obtain ⟨z, hz1, hz2⟩ := run_zero (w := w) hz
        have hne : ¬ len * n = 0 := by omega
        have hbig : ¬ len * n > 2 ^ 24 := by omega
        simp only [Instr.buildSlice, Sem.run_bind, und_some hu, Result.andThen_ok, run_szT hn, hbig, if_false, hne, hz1, Sem.run_pure]
        have hff := fill_L hf
        have hcells : (Array.range (len * n)).map (fun j => z.cells[j % z.cells.size]!) = ((List.range (len * n)).map (fun j => zs.getD (j % zs.length) default)).toArray := by
          apply Array.ext'
          simp [cells_toArray, hz2, List.getD_eq_getElem?_getD]
        simp only [hcells, List.map_toArray]
        rw [hff]
        simp only [Sem.run_bind, run_new, Result.andThen_ok, Sem.run_pure]
      · cases h
    · cases h
  · cases h
def callOk (P : Program) (f : FuncId) : Bool :=
  match P.funcs[f]? with
  | some fn => !(fn.name == "runtime.NumGoroutine") && fn.body.isSome
  | none => false
theorem run_callFunc {f : FuncId} (h : callOk P f = true) (args : Array Value) : (callFunc f args).run P w = .ok (.enter f args) w := by
  unfold callOk at h
  cases hf : P.funcs[f]? with
  | none => simp [hf] at h
  | some fn =>
    simp only [hf, Bool.and_eq_true, Bool.not_eq_true'] at h
    obtain ⟨h1, h2⟩ := h
    have h3 : fn.body.isNone = false := by cases hb : fn.body <;> simp_all
    simp only [callFunc, program, Sem.run_bind, Sem.run, hf, h1, h3, Bool.false_eq_true, if_false, Result.andThen_ok, pure]
theorem run_call {f : FuncId} {c : Operand} {xs : List Operand} {vs us zs : List Value} {ats : Array TypeId} (hf : callOk P f = true) (hc : ρ c = .func (.func f) us.toArray zs.toArray) (hxs : evs ρ xs = some vs) :
    Rn P ρ ⟨dst, .call ⟨.value c, xs.toArray, ats⟩, ty, pos, af, g⟩ w (.ok (.enter f (us ++ vs ++ zs).toArray) w) := by
  refine ⟨?_⟩
  simp only [execOp, resolve, Sem.run_bind, hc, Deferred.ofValue, Sem.run_pure, Result.andThen_ok, invoke]
  rw [run_callFunc hf]
  have := evs_eq hxs
  simp [← this]
variable {ops : Array Oper} {os : List Oper} {rest : List Oper} {q : Pst P} {n : Nat} {l : Slots} {ds : List Deferred} {d : Nat} {op : Op}
theorem s_v (hr : Rn P (ev n l) ⟨some d, op, ty, pos, af, none⟩ w (.ok (.value v) w)) (h : Wl P ops q rest n ((d, v) :: l) ds w) :
    Wl P ops q (⟨some d, op, ty, pos, af, none⟩ :: rest) n l ds w := by
  refine ⟨wpList_plain rfl fun K hK => ?_⟩
  unfold Oper.wp
  rw [eval_A, hr.eq, Oper.upon_value, put_A]
  exact hK _ _ h.up
theorem s_nb {r : Addr → Value} {cs : List Value} {T : TypeId} (hr : Rn P (ev n l) ⟨some d, op, ty, pos, af, none⟩ w (.ok (.value (r ⟨w.heap.size, 0, none⟩)) (w.alloc (.cells cs.toArray T))))
    (h : ∀ b w1, Nb w b cs T w1 → Wl P ops q rest n ((d, r ⟨b, 0, none⟩) :: l) ds w1) :
    Wl P ops q (⟨some d, op, ty, pos, af, none⟩ :: rest) n l ds w := by
  refine ⟨wpList_plain rfl fun K hK => ?_⟩
  unfold Oper.wp
  rw [eval_A, hr.eq, Oper.upon_value, put_A]
  exact hK _ _ (h _ _ (nb_alloc w cs T)).up
theorem s_box {T : TypeId} {x : Operand} {u : Value} {cs : List Value} (hx : mvv (ev n l x) = some u) (hc : cellsL u = cs)
    (h : ∀ b w1, Nb w b cs T w1 → Wl P ops q rest n ((d, .pointer (some ⟨b, 0, none⟩)) :: l) ds w1) :
    Wl P ops q (⟨some d, .box T x, ty, pos, af, none⟩ :: rest) n l ds w := s_nb (r := fun a => .pointer (some a)) (r_box hx hc) h
theorem s_al {T : TypeId} {cs : List Value} (hz : zeroL P T = some cs)
    (h : ∀ b w1, Nb w b cs T w1 → Wl P ops q rest n ((d, .pointer (some ⟨b, 0, none⟩)) :: l) ds w1) :
    Wl P ops q (⟨some d, .alloc T, ty, pos, af, none⟩ :: rest) n l ds w := s_nb (r := fun a => .pointer (some a)) (r_al hz) h
theorem s_bs {t : TypeId} {len : Nat} {parts : List (Nat × Operand)} {cs : List Value} {e : TypeId} (hb : bsv P (ev n l) t len parts = some (cs, e))
    (h : ∀ b w1, Nb w b cs e w1 → Wl P ops q rest n ((d, .slice (some ⟨b, 0, none⟩) len len) :: l) ds w1) :
    Wl P ops q (⟨some d, .buildSlice t len parts.toArray, ty, pos, af, none⟩ :: rest) n l ds w := s_nb (r := fun a => .slice (some a) len len) (r_bs hb) h
theorem s_st {t : TypeId} {x y : Operand} {b o : Nat} {u : Value} {cs vs : List Value} {T : TypeId} (hx : ev n l x = .pointer (some ⟨b, o, none⟩)) (hy : mvv (ev n l y) = some u) (hvs : cellsL u = vs) (hs : szT P t = some vs.length) (h1 : vs.all Value.oneCell' = true)
    (hb : w.heap[b]? = some (.cells cs.toArray T (0, 0))) (ho : o + vs.length ≤ cs.length)
    (h : ∀ w1, Sb w b (setAt cs o vs) T w1 → Wl P ops q rest n l ds w1) :
    Wl P ops q (⟨none, .store t x y, ty, pos, af, none⟩ :: rest) n l ds w := by
  refine ⟨wpList_plain rfl fun K hK => ?_⟩
  unfold Oper.wp
  rw [eval_A, (r_st hx hy hvs hs h1 hb ho).eq, Oper.upon_skip, put_A_none]
  exact hK _ _ (h _ (sb_setRow hb)).up
theorem s_enter {f : FuncId} {vs : List Value} {R : Value → World → Prop} (hr : Rn P (ev n l) ⟨some d, op, ty, pos, af, none⟩ w (.ok (.enter f vs.toArray) w)) (hc : Ret P f vs w R)
    (h : ∀ v w1, R v w1 → Wl P ops q rest n ((d, v) :: l) ds w1) : Wl P ops q (⟨some d, op, ty, pos, af, none⟩ :: rest) n l ds w := by
  refine ⟨wpList_plain rfl fun K hK => ?_⟩
  unfold Oper.wp
  rw [eval_A, hr.eq, Oper.upon_enter]
  refine Calls.mono hc ?_
  rintro e w1 ⟨v, rfl, hR⟩
  simp only [put_A]
  exact hK _ _ (h _ _ hR).up
/-- A call of a named function, or of a closure at hand. -/
theorem s_call {f : FuncId} {c : Operand} {xs : List Operand} {vs us zs : List Value} {ats : Array TypeId} {R : Value → World → Prop} (hf : callOk P f = true) (hcv : ev n l c = .func (.func f) us.toArray zs.toArray) (hxs : evs (ev n l) xs = some vs)
    (hc : Ret P f (us ++ vs ++ zs) w R) (h : ∀ v w1, R v w1 → Wl P ops q rest n ((d, v) :: l) ds w1) :
    Wl P ops q (⟨some d, .call ⟨.value c, xs.toArray, ats⟩, ty, pos, af, none⟩ :: rest) n l ds w := s_enter (run_call hf hcv hxs) hc h
/-- What an append to an owned row gives. -/
structure Ap (w : World) (base : Nat) (e : TypeId) (size : Nat) (v0 : Value) (k : Nat) (xs : List Value) (v : Value) (w1 : World) : Prop where
  own : w1.ownsRow base e size v k xs
  kp : Kp (fun i => some i = v0.ownBlock) w w1
  nil : v = .slice none 0 0 → v0 = .slice none 0 0
  row : ∀ g, v.ownBlock = some g → v0.ownBlock = some g ∨ w.heap.size ≤ g
theorem run_app {t ty e : TypeId} {i : TypeInfo} {z : Value} {size bytes base k m c : Nat} {v0 : Value} {xs news : List Value} {ad : Addr} (ht : P.underlying t = some (.slice e)) (hi : P.info? e = some i) (hz : i.zero = some z)
    (hsize : i.size = size) (hby : i.bytes = bytes) (hzs : (cellsL z).length = size) (hsz : Nat.blt 0 size = true) (own : w.ownsRow base e size v0 k xs)
    (hnews : ∀ j u, news[j]? = some u → w.cell? (ad.add j) = some u) (hl : news.length = m * size) (h1 : news.all Value.oneCell' = true) (hb : (k + m) * bytes ≤ 140737488355328) (hb' : k + m ≤ 9223372036854775807) (hbase : base ≤ w.heap.size) :
    ∃ v w1, (Builtin.append_ #[t, t] ty #[v0, .slice (some ad) m c]).run P w = .ok v w1 ∧ Ap w base e size v0 (k + m) (xs ++ news) v w1 := by
  have hzs' : z.cells.size = size := by rw [cells_toArray]; simpa using hzs
  have hsz' : 0 < size := by simpa [Nat.blt_eq] using hsz
  have h1' : ∀ u ∈ news, u.oneCell' = true := by simpa using h1
  have h63 : k + m ≤ maxLen := by unfold maxLen; omega
  obtain ⟨v, w1, hr, h2, h3, h4⟩ := run_append_own (P := P) w base t ty e i z size bytes ht hi hz hsize hby hzs' hsz' v0 k xs own ad m c news hl hnews h1' h63 hb hbase
  refine ⟨v, w1, hr, h2, Kp.of_grown h3, fun e => (h4.1 e).1, ?_⟩
  intro g hg
  rcases own.2 with ⟨rfl, rfl⟩ | ⟨g0, cap, cur, rfl, hbg, hg0, hnc, hcm, hcs, htake⟩
  · right
    have hx : xs = [] := List.eq_nil_of_length_eq_zero (by simpa using own.1)
    subst hx
    obtain ⟨v', w1', hr', h2', _, _⟩ := run_append_own (P := P) w w.heap.size t ty e i z size bytes ht hi hz hsize hby hzs' hsz' (.slice none 0 0) 0 [] (World.ownsRow_nil w _ e size) ad m c news hl hnews h1' h63 hb (Nat.le_refl _)
    rw [hr] at hr'
    cases hr'
    rcases h2'.2 with ⟨rfl, _⟩ | ⟨g', _, _, rfl, hle, _⟩
    · cases hg
    · simp only [Value.ownBlock, Option.some.injEq] at hg; omega
  · by_cases hroom : k + m ≤ cap
    · left
      have hfit : k * i.size + news.length ≤ cur.size := by rw [hl, hcs, hsize, ← Nat.add_mul]; exact Nat.mul_le_mul_right _ hroom
      have hr' := run_append_room (P := P) w t ty e i ht hi g0 k cap cur hg0 ad m c news (by rw [hsize]; exact hl) hnews h1' hroom hfit
      rw [hr] at hr'
      cases hr'
      exact hg
    · right
      have holds : ∀ j u, xs[j]? = some u → w.cell? ((⟨g0, 0, none⟩ : Addr).add j) = some u := own.cells (g := g0) rfl
      have hr' := run_append_grow (P := P) w t ty e i z ht hi hz ⟨g0, 0, none⟩ k cap xs (by rw [hsize]; exact own.1) holds ad m c news (by rw [hsize]; exact hl) hnews (by omega) (by omega) (growslice_fits (by omega) (by rw [hby]; exact hb))
      rw [hr] at hr'
      cases hr'
      simp only [Value.ownBlock, Option.some.injEq] at hg; omega
theorem r_app {s x : Operand} {t e : TypeId} {v1 : Value} {w1 : World} {v0 xv : Value} (hs : ρ s = v0) (hx : ρ x = xv) (h : (Builtin.append_ #[t, t] ty #[v0, xv]).run P w = .ok v1 w1) :
    Rn P ρ ⟨dst, .call ⟨.builtin .append, #[s, x], #[t, t]⟩, ty, pos, af, g⟩ w (.ok (.value v1) w1) := by
  refine run_bi (xs := [s, x]) (Builtin.append_ #[t, t] ty #[ρ s, ρ x]) (fun cn args e => by subst e; rfl) ?_
  rw [hs, hx]; exact h
/-- A step to another world. -/
theorem s_go {v1 : Value} {w1 : World} (hr : Rn P (ev n l) ⟨some d, op, ty, pos, af, none⟩ w (.ok (.value v1) w1)) (h : Wl P ops q rest n ((d, v1) :: l) ds w1) :
    Wl P ops q (⟨some d, op, ty, pos, af, none⟩ :: rest) n l ds w := by
  refine ⟨wpList_plain rfl fun K hK => ?_⟩
  unfold Oper.wp
  rw [eval_A, hr.eq, Oper.upon_value, put_A]
  exact hK _ _ h.up
theorem s_app {s x : Operand} {t e : TypeId} {i : TypeInfo} {z : Value} {size bytes base k m c : Nat} {v0 : Value} {xs news : List Value} {bx ox : Nat} (ht : P.underlying t = some (.slice e)) (hi : P.info? e = some i) (hz : i.zero = some z)
    (hsize : i.size = size) (hby : i.bytes = bytes) (hzs : (cellsL z).length = size) (hsz : Nat.blt 0 size = true) (hs : ev n l s = v0) (own : w.ownsRow base e size v0 k xs) (hx : ev n l x = .slice (some ⟨bx, ox, none⟩) m c)
    (hnews : ∀ j u, news[j]? = some u → w.cell? ⟨bx, ox + j, none⟩ = some u) (hl : news.length = m * size) (h1 : news.all Value.oneCell' = true) (hb : (k + m) * bytes ≤ 140737488355328) (hb' : k + m ≤ 9223372036854775807) (hbase : base ≤ w.heap.size)
    (h : ∀ v w1, Ap w base e size v0 (k + m) (xs ++ news) v w1 → Wl P ops q rest n ((d, v) :: l) ds w1) :
    Wl P ops q (⟨some d, .call ⟨.builtin .append, #[s, x], #[t, t]⟩, ty, pos, af, none⟩ :: rest) n l ds w := by
  obtain ⟨v, w1, hr, ha⟩ := run_app (P := P) (ty := ty) (c := c) (ad := ⟨bx, ox, none⟩) ht hi hz hsize hby hzs hsz own (fun j u hj => by rw [addr_add]; exact hnews j u hj) hl h1 hb hb' hbase
  exact s_go (r_app (e := e) hs hx hr) (h v w1 ha)
theorem blk_cells {b : Nat} {cs : List Value} {T : TypeId} {fz : Nat × Nat} (h : w.heap[b]? = some (.cells cs.toArray T fz)) : ∀ j u, cs[j]? = some u → w.cell? ⟨b, 0 + j, none⟩ = some u :=
  fun j u hj => cell_of_blk h (by simpa using hj)
def ylk (ops : List Oper) (n : Nat) (l : Slots) (j : Nat) : Option Value :=
  match ops[j]? with
  | some o => (match o.dst with | some d => (bif Nat.blt d n then some (look l d) else none) | none => none)
  | none => none
theorem fr_get (n : Nat) (l : Slots) (t : Nat) : (fr n l)[t]? = bif Nat.blt t n then some (look l t) else none := by
  unfold fr
  by_cases h : t < n
  · have hb : Nat.blt t n = true := by simpa [Nat.blt_eq] using h
    simp [h, hb]
  · have hb : Nat.blt t n = false := by
      rw [Bool.eq_false_iff]; intro hh; exact h (by simpa [Nat.blt_eq] using hh)
    simp [h, hb]
theorem ylk_eq {j : Nat} {b : Bool} (h : ylk os n l j = some (.bool b)) : yielded os.toArray (fr n l) j = some b := by
  unfold ylk at h
  unfold yielded
  cases ho : os[j]? with
  | none => simp [ho] at h
  | some o =>
    cases hd : o.dst with
    | none => simp [ho, hd] at h
    | some d' =>
      simp only [ho, hd] at h
      simp [List.getElem?_toArray, ho, hd, fr_get, h]
/-- A guarded operation that runs; that doesn't. -/
theorem s_gy {j : Nat} {b : Bool} (hy : ylk os n l j = some (.bool b))
    (h : ∀ K : Act → World → Prop, (∀ a w, wpList P os.toArray q.den rest a w → K a w) → Oper.wp P ⟨dst, op, ty, pos, af, some (j, b)⟩ (A n l ds) w K q.den) : Wl P os.toArray q (⟨dst, op, ty, pos, af, some (j, b)⟩ :: rest) n l ds w := by
  refine ⟨wpList_step fun K hK => ?_⟩
  rw [if_pos (by simp [Region.wanted, A, ylk_eq hy])]
  exact h K hK
theorem s_gn {j : Nat} {b b' : Bool} (hy : ylk os n l j = some (.bool b')) (hb : (b' == b) = false) (h : Wl P os.toArray q rest n ((d, undef) :: l) ds w) :
    Wl P os.toArray q (⟨some d, op, ty, pos, af, some (j, b)⟩ :: rest) n l ds w := by
  refine ⟨wpList_step fun K hK => ?_⟩
  have hb2 : ¬ b' = b := by simpa using hb
  rw [if_neg (by simp [Region.wanted, A, ylk_eq hy, hb2]), put_A]
  exact hK _ _ h.up
theorem s_gv {j : Nat} {b : Bool} (hy : ylk os n l j = some (.bool b)) (hr : Rn P (ev n l) ⟨some d, op, ty, pos, af, some (j, b)⟩ w (.ok (.value v) w)) (h : Wl P os.toArray q rest n ((d, v) :: l) ds w) :
    Wl P os.toArray q (⟨some d, op, ty, pos, af, some (j, b)⟩ :: rest) n l ds w := by
  refine s_gy hy fun K hK => ?_
  unfold Oper.wp
  rw [eval_A, hr.eq, Oper.upon_value, put_A]
  exact hK _ _ h.up
theorem s_gcall {j : Nat} {b : Bool} {f : FuncId} {c : Operand} {xs : List Operand} {vs us zs : List Value} {ats : Array TypeId} {R : Value → World → Prop} (hy : ylk os n l j = some (.bool b)) (hf : callOk P f = true) (hcv : ev n l c = .func (.func f) us.toArray zs.toArray) (hxs : evs (ev n l) xs = some vs)
    (hc : Ret P f (us ++ vs ++ zs) w R) (h : ∀ v w1, R v w1 → Wl P os.toArray q rest n ((d, v) :: l) ds w1) :
    Wl P os.toArray q (⟨some d, .call ⟨.value c, xs.toArray, ats⟩, ty, pos, af, some (j, b)⟩ :: rest) n l ds w := by
  refine s_gy hy fun K hK => ?_
  unfold Oper.wp
  rw [eval_A, (run_call hf hcv hxs).eq, Oper.upon_enter]
  refine Calls.mono hc ?_
  rintro e w1 ⟨v, rfl, hR⟩
  simp only [put_A]
  exact hK _ _ (h _ _ hR).up
/-- A guard that is not decided: both ways; a bool in a slot, when it is known. -/
theorem s_split {L : List Oper} (t : Nat) {b : Bool} (hy : look l t = .bool b) (ht : b = true → Wl P ops q L n ((t, .bool true) :: l) ds w) (hf : b = false → Wl P ops q L n ((t, .bool false) :: l) ds w) : Wl P ops q L n l ds w := by
  cases b with
  | true => exact ⟨by rw [A_pre hy]; exact (ht rfl).up⟩
  | false => exact ⟨by rw [A_pre hy]; exact (hf rfl).up⟩
theorem s_set {L : List Oper} (t : Nat) {b : Bool} (b' : Bool) (hy : look l t = .bool b) (hb : b = b') (h : Wl P ops q L n ((t, .bool b') :: l) ds w) : Wl P ops q L n l ds w := by
  subst hb; exact ⟨by rw [A_pre hy]; exact h.up⟩
theorem k_re {c : Code} (t : Nat) {v v' : Value} (hy : look l t = v) (hv : v = v') (h : Wc P c q n ((t, v') :: l) ds w) : Wc P c q n l ds w := by
  subst hv; exact ⟨by rw [A_pre hy]; exact h.up⟩
theorem r_pt {c x y : Operand} (hc : ρ c = .bool true) (hx : mvv (ρ x) = some v) : Rn P ρ ⟨dst, .pick c x y, ty, pos, af, g⟩ w (.ok (.value v) w) := by
  refine ⟨?_⟩; simp only [execOp, hc, asBool, Sem.run_bind, Sem.run_pure, Result.andThen_ok, if_true, mvv_eq hx]
theorem r_pf {c x y : Operand} (hc : ρ c = .bool false) (hy : mvv (ρ y) = some v) : Rn P ρ ⟨dst, .pick c x y, ty, pos, af, g⟩ w (.ok (.value v) w) := by
  refine ⟨?_⟩; simp only [execOp, hc, asBool, Sem.run_bind, Sem.run_pure, Result.andThen_ok, Bool.false_eq_true, if_false, mvv_eq hy]
structure Wq (P : Program) (ops : Array Oper) (C : World → Prop) (Qq : Act → Prop) (L : List Oper) (n : Nat) (l : Slots) (ds : List Deferred) : Prop where
  up : wpQuiet P ops C Qq L (A n l ds)
/-- What is asked behind such a region. -/
def Aft (P : Program) (q : Pst P) (w : World) (a : Act) : Prop := ∀ w', Kp No w w' → q.den .normal a w'
theorem k_q {i : Nat} (hm : P.follows .mixedOrders = true) (hB : Region.lexB .any os.toArray = true)
    (h : Wq P os.toArray (fun w' => Kp No w w') (Aft P q w) os n l ds) : Wc P (.region i os.toArray true) q n l ds w :=
  ⟨wp_region_quiet (C := fun w' => Kp No w w') hm hB ⟨rfl, rfl, rfl, Nat.le_refl _, fun _ _ _ => rfl⟩ (by have := h.up; unfold Aft at this; simpa using this)⟩
variable {C : World → Prop} {Qq : Act → Prop}
theorem q_nil (h : ∀ w', Kp No w w' → Po q .normal n l ds w') : Wq P ops C (Aft P q w) [] n l ds := ⟨fun w' hw => (h w' hw).up⟩
theorem q_v (hr : ∀ w, C w → Rn P (ev n l) ⟨some d, op, ty, pos, af, none⟩ w (.ok (.value v) w)) (h : Wq P ops C Qq rest n ((d, v) :: l) ds) :
    Wq P ops C Qq (⟨some d, op, ty, pos, af, none⟩ :: rest) n l ds := by
  refine ⟨?_⟩
  unfold wpQuiet
  rw [if_pos (by simp [Region.wanted])]
  refine ⟨v, fun w hw => ?_, by rw [put_A]; exact h.up⟩
  unfold Oper.quietAt
  rw [eval_A, (hr w hw).eq]
  exact ⟨rfl, rfl⟩
theorem q_call {f : FuncId} {c : Operand} {xs : List Operand} {vs us zs : List Value} {ats : Array TypeId} (hf : callOk P f = true) (hcv : ev n l c = .func (.func f) us.toArray zs.toArray) (hxs : evs (ev n l) xs = some vs)
    (hc : ∀ w, C w → Ret P f (us ++ vs ++ zs) w (fun u w1 => u = v ∧ C w1)) (h : Wq P ops C Qq rest n ((d, v) :: l) ds) :
    Wq P ops C Qq (⟨some d, .call ⟨.value c, xs.toArray, ats⟩, ty, pos, af, none⟩ :: rest) n l ds := by
  refine ⟨?_⟩
  unfold wpQuiet
  rw [if_pos (by simp [Region.wanted])]
  refine ⟨v, fun w hw => ?_, by rw [put_A]; exact h.up⟩
  unfold Oper.quietAt
  rw [eval_A, (run_call hf hcv hxs).eq]
  refine ⟨rfl, Calls.mono (hc w hw) ?_⟩
  rintro e w1 ⟨u, rfl, rfl, hC⟩
  exact ⟨rfl, hC⟩
theorem q_gv {j : Nat} {b : Bool} (hy : ylk os n l j = some (.bool b)) (hr : ∀ w, C w → Rn P (ev n l) ⟨some d, op, ty, pos, af, some (j, b)⟩ w (.ok (.value v) w)) (h : Wq P os.toArray C Qq rest n ((d, v) :: l) ds) :
    Wq P os.toArray C Qq (⟨some d, op, ty, pos, af, some (j, b)⟩ :: rest) n l ds := by
  refine ⟨?_⟩
  unfold wpQuiet
  rw [if_pos (by simp [Region.wanted, A, ylk_eq hy])]
  refine ⟨v, fun w hw => ?_, by rw [put_A]; exact h.up⟩
  unfold Oper.quietAt
  rw [eval_A, (hr w hw).eq]
  exact ⟨rfl, rfl⟩
theorem q_gn {j : Nat} {b b' : Bool} (hy : ylk os n l j = some (.bool b')) (hb : (b' == b) = false) (h : Wq P os.toArray C Qq rest n ((d, undef) :: l) ds) :
    Wq P os.toArray C Qq (⟨some d, op, ty, pos, af, some (j, b)⟩ :: rest) n l ds := by
  refine ⟨?_⟩
  unfold wpQuiet
  have hb2 : ¬ b' = b := by simpa using hb
  rw [if_neg (by simp [Region.wanted, A, ylk_eq hy, hb2]), put_A]
  exact h.up
theorem q_set {L : List Oper} (t : Nat) {b : Bool} (b' : Bool) (hy : look l t = .bool b) (hb : b = b') (h : Wq P ops C Qq L n ((t, .bool b') :: l) ds) : Wq P ops C Qq L n l ds := by
  subst hb; exact ⟨by rw [A_pre hy]; exact h.up⟩
end
end Go.Proofs.YtfnbgbeinmekgaaGreatDoor.Fw
namespace Go.Proofs.YtfnbgbeinmekgaaGreatDoor.Fw
open Go Go.RowKit
set_option linter.unusedSimpArgs false
set_option linter.unusedVariables false
section
variable {P : Program} {ops : Array Oper} {Q : Exit → Act → World → Prop} {S : World → Prop} {z : Nat}
/-- What has come up is behind what it waits for. -/
def Dc (ops : Array Oper) (listed : Array Bool) : Prop := ∀ j o, ops[j]? = some o → listed.getD j true = true → ∀ e ∈ o.after, Region.binds .any e = true → listed.getD e.on false = true
theorem Dc.start (ops : Array Oper) : Dc ops (Array.replicate ops.size false) := by
  intro j o hj h
  have hlt : j < ops.size := (Array.getElem?_eq_some_iff.1 hj).1
  simp [hlt] at h
theorem Dc.step {listed : Array Bool} {i : Nat} (h : Dc ops listed) (hr : i ∈ Region.ready .any ops listed) : Dc ops (listed.setIfInBounds i true) := by
  intro j o hj hl e he hb
  by_cases hij : i = j
  · subst hij
    obtain ⟨_, o', ho', hall⟩ := mem_ready.1 hr
    rw [hj] at ho'
    cases ho'
    exact getD_set_true (hall e he hb)
  · rw [getD_set_ne true hij] at hl
    exact getD_set_true (h j o hj hl e he hb)
/-- z waits for all others. -/
def Waits (ops : Array Oper) (z : Nat) : Prop := ∀ listed, Dc ops listed → z ∈ Region.ready .any ops listed → ∀ k, k < ops.size → k ≠ z → listed.getD k true = true
def lastB (ops : Array Oper) : Bool :=
  (List.range ops.size).all fun k => Nat.beq (k + 1) ops.size || (List.range ops.size).any fun j => Nat.blt k j && (match ops[j]? with | some o => o.after.any fun e => Region.binds .any e && Nat.beq e.on k | none => false)
theorem waits_of_last (h : lastB ops = true) : Waits ops (ops.size - 1) := by
  intro listed hd hr
  have key : ∀ d k, ops.size - 1 - k = d → k < ops.size → k ≠ ops.size - 1 → listed.getD k true = true := by
    intro d
    induction d using Nat.strongRecOn with
    | _ d ih =>
      intro k hk hlt hne
      have h1 := List.all_eq_true.1 h k (List.mem_range.2 hlt)
      have h0 : Nat.beq (k + 1) ops.size = false := by
        rw [Bool.eq_false_iff]; intro e; have := Nat.eq_of_beq_eq_true e; omega
      rw [h0, Bool.false_or] at h1
      obtain ⟨j, hj, h2⟩ := List.any_eq_true.1 h1
      have hj' := List.mem_range.1 hj
      rw [Bool.and_eq_true] at h2
      obtain ⟨h3, h4⟩ := h2
      have hkj : k < j := by simpa [Nat.blt_eq] using h3
      cases ho : ops[j]? with
      | none => simp [ho] at h4
      | some o =>
        simp only [ho] at h4
        obtain ⟨e, he, h5⟩ := Array.any_eq_true'.1 h4
        rw [Bool.and_eq_true] at h5
        obtain ⟨hb, hon⟩ := h5
        have hon := Nat.eq_of_beq_eq_true hon
        have hf : listed.getD k false = true := by
          by_cases hjz : j = ops.size - 1
          · subst hjz
            obtain ⟨_, o', ho', hall⟩ := mem_ready.1 hr
            rw [ho] at ho'
            cases ho'
            have := hall e he hb
            rwa [hon] at this
          · have hl := ih (ops.size - 1 - j) (by omega) j rfl hj' hjz
            have := hd j o ho hl e he hb
            rwa [hon] at this
        rcases Nat.lt_or_ge k listed.size with hs | hs
        · simpa [hs] using hf
        · simp [hs]
  intro k hk hne
  exact key _ k rfl hk hne
theorem waits_none : Waits ops ops.size := by
  intro listed _ hr
  obtain ⟨_, o, ho, _⟩ := mem_ready.1 hr
  have := (Array.getElem?_eq_some_iff.1 ho).1
  omega
/-- Whatever order is picked from here on; S holds behind each operation, but behind z. -/
def wpL (P : Program) (ops : Array Oper) (Q : Exit → Act → World → Prop) (S : World → Prop) (z : Nat) : Nat → Array Bool → Act → World → Prop
  | 0, listed, a, w => Region.ready .any ops listed = [] ∧ Q .normal a w
  | fuel + 1, listed, a, w =>
    (Region.ready .any ops listed = [] → Q .normal a w) ∧
    ∀ i ∈ Region.ready .any ops listed, wpOp P ops Q i (fun a' w' => (i ≠ z → S w') ∧ wpL P ops Q S z fuel (listed.setIfInBounds i true) a' w') a w
theorem wpAny_of_L : ∀ (fuel : Nat) (listed : Array Bool) (a : Act) (w : World), wpL P ops Q S z fuel listed a w → wpAny P .any ops Q fuel listed a w
  | 0, _, _, _, h => h
  | fuel + 1, _, _, _, h => ⟨h.1, fun i hi => wpOp_mono (fun a' w' h' => wpAny_of_L fuel _ a' w' h'.2) (h.2 i hi)⟩
theorem wpL_first {i : Nat} {oi : Oper} {v : Value} (hz : Waits ops z) (hi : ops[i]? = some oi) (hsel : ∀ (j : Nat) (o : Oper) cs b, ops[j]? = some o → o.op ≠ .select cs b)
    (hQ : ∀ c a w, Q (.panic c) (a.put oi.dst v) w → Q (.panic c) a w) :
    ∀ (fuel : Nat) (listed : Array Bool) (a : Act) (w : World), Dc ops listed →
      (∀ j oj, ops[j]? = some oj → j ≠ i → listed.getD j true = false → (∀ e ∈ oj.after, Region.binds .any e = true → e.on ≠ i) → oi.apart ops oj = true) →
      i ∈ Region.ready .any ops listed → YieldsIf P ops S oi v a → S w →
      wpL P ops Q S z fuel (listed.setIfInBounds i true) (a.put oi.dst v) w → wpL P ops Q S z (fuel + 1) listed a w := by
  intro fuel
  induction fuel with
  | zero =>
    intro listed a w _ _ hr hy hS H
    refine ⟨fun h => (by rw [h] at hr; cases hr), fun j hj => ?_⟩
    by_cases hji : j = i
    · subst hji; exact hy.wpOp hi hS ⟨fun _ => hS, H⟩
    · have := ready_mono hj hji
      rw [H.1] at this
      cases this
  | succ fuel ih =>
    intro listed a w hd hfree hr hy hS H
    refine ⟨fun h => (by rw [h] at hr; cases hr), fun j hj => ?_⟩
    by_cases hji : j = i
    · subst hji; exact hy.wpOp hi hS ⟨fun _ => hS, H⟩
    · have hjz : j ≠ z := by
        intro e
        subst e
        have h1 := hz listed hd hj i (Array.getElem?_eq_some_iff.1 hi).1 (Ne.symm hji)
        have h2 := (mem_ready.1 hr).1
        rw [h1] at h2
        cases h2
      have h1 := wpOp_mono (fun a' w' h3 => (⟨h3.1 hjz, h3.2⟩ : S w' ∧ _)) (H.2 j (ready_mono hj hji))
      obtain ⟨hjun, oj, hoj, hall⟩ := mem_ready.1 hj
      have hnot : ∀ e ∈ oj.after, Region.binds .any e = true → e.on ≠ i := fun e he hb heq => by
        have h1 := hall e he hb
        have h0 := (mem_ready.1 hr).1
        rw [heq] at h1
        rcases Nat.lt_or_ge i listed.size with h' | h'
        · simp [h'] at h0 h1; rw [h0] at h1; cases h1
        · simp [Array.getElem?_eq_none h'] at h1
      have h2 := wpOp_putIf hoj (hfree j oj hoj hji hjun hnot) (fun cs b => hsel i oi cs b hi) (fun cs b => hsel j oj cs b hoj) hQ hy h1
      have hfree' : ∀ k ok, ops[k]? = some ok → k ≠ i → (listed.setIfInBounds j true).getD k true = false →
          (∀ e ∈ ok.after, Region.binds .any e = true → e.on ≠ i) → oi.apart ops ok = true := fun k ok hk hki hun hno => by
        refine hfree k ok hk hki ?_ hno
        by_cases hjk : j = k
        · subst hjk; exact hjun
        · rw [getD_set_ne true hjk] at hun; exact hun
      refine wpOp_mono (fun a' w' h3 => ⟨fun _ => h3.2.1, ih (listed.setIfInBounds j true) a' w' (hd.step hj) hfree' (ready_mono hr (Ne.symm hji)) h3.1 h3.2.1 ?_⟩) h2
      rw [Array.setIfInBounds_comm _ _ hji]
      exact h3.2.2
/-- One order: the operations' places, and whether each makes or changes memory (or else only looks, and yields the same wherever S holds). -/
def okOrd (ops : Array Oper) : List (Nat × Bool) → Array Bool → Bool
  | [], listed => (Region.ready .any ops listed).isEmpty
  | (i, noisy) :: rest, listed => (match noisy with
    | true => (match Region.ready .any ops listed with | [j] => Nat.beq i j | _ => false)
    | false => Region.free .any ops listed i && (Region.ready .any ops listed).contains i) && okOrd ops rest (listed.setIfInBounds i true)
/-- The walk in that order. -/
def wpO (P : Program) (ops : Array Oper) (Q : Exit → Act → World → Prop) (S : World → Prop) (z : Nat) : List (Nat × Bool × Oper) → Act → World → Prop
  | [], a, w => Q .normal a w
  | (i, true, o) :: rest, a, w => if Region.wanted o (yielded ops a.tmps) then o.wp P a w (fun a' w' => (i ≠ z → S w') ∧ wpO P ops Q S z rest a' w') Q else S w ∧ wpO P ops Q S z rest (a.put o.dst undef) w
  | (i, false, o) :: rest, a, w => S w ∧ ∃ v, YieldsIf P ops S o v a ∧ wpO P ops Q S z rest (a.put o.dst v) w
theorem wpL_of_O (hz : Waits ops z) (hs : Region.noSelect ops = true) (hQ : ∀ c a b w, Q (.panic c) a w → Q (.panic c) b w) : ∀ (ord : List (Nat × Bool)) (L : List (Nat × Bool × Oper)) (listed : Array Bool) (a : Act) (w : World),
    Dc ops listed → okOrd ops ord listed = true → L.map (fun x => (x.1, x.2.1)) = ord → (∀ x ∈ L, ops[x.1]? = some x.2.2) → wpO P ops Q S z L a w → wpL P ops Q S z L.length listed a w := by
  intro ord
  induction ord with
  | nil =>
    intro L listed a w hd ho hL hops h
    have : L = [] := by simpa using hL
    subst this
    exact ⟨by simpa [okOrd] using ho, h⟩
  | cons x ord ih =>
    intro L listed a w hd ho hL hops h
    cases L with
    | nil => simp at hL
    | cons y L =>
      obtain ⟨i, noisy, o⟩ := y
      simp only [List.map_cons, List.cons.injEq] at hL
      obtain ⟨rfl, hL⟩ := hL
      have hoi : ops[i]? = some o := hops _ (List.mem_cons_self ..)
      have hops' : ∀ x ∈ L, ops[x.1]? = some x.2.2 := fun x hx => hops x (List.mem_cons_of_mem _ hx)
      simp only [okOrd, Bool.and_eq_true] at ho
      obtain ⟨ho1, ho2⟩ := ho
      cases noisy with
      | true =>
        simp only at ho1
        have hr : Region.ready .any ops listed = [i] := by
          split at ho1
          · rename_i j hj; have := Nat.eq_of_beq_eq_true ho1; subst this; exact hj
          · cases ho1
        have hmem : i ∈ Region.ready .any ops listed := by rw [hr]; exact List.mem_singleton.2 rfl
        refine ⟨fun e => (by rw [hr] at e; cases e), fun j hj => ?_⟩
        rw [hr] at hj
        have := List.mem_singleton.1 hj
        subst this
        unfold wpOp
        simp only [hoi]
        unfold wpO at h
        split
        · rename_i hw
          rw [if_pos hw] at h
          refine .inl ?_
          unfold Oper.wp Oper.upon at *
          revert h
          generalize (execOp a.eval o).run P w = r
          intro h
          cases r with
          | ok nx w' =>
            cases nx with
            | value u => exact ⟨h.1, ih L _ _ _ (hd.step hmem) ho2 hL hops' h.2⟩
            | skip => exact ⟨h.1, ih L _ _ _ (hd.step hmem) ho2 hL hops' h.2⟩
            | defer d => exact ⟨h.1, ih L _ _ _ (hd.step hmem) ho2 hL hops' h.2⟩
            | enter f args =>
              refine Calls.mono h fun e w'' he => ?_
              cases e with
              | returned u => exact ⟨he.1, ih L _ _ _ (hd.step hmem) ho2 hL hops' he.2⟩
              | panicked c => exact he
              | outgrown => exact he
            | row row args => exact Rows.mono h fun u w'' he => ⟨he.1, ih L _ _ _ (hd.step hmem) ho2 hL hops' he.2⟩
            | _ => exact h
          | halt x w' => cases x <;> simp only at h ⊢ <;> exact h
        · rename_i hw
          rw [if_neg hw] at h
          exact ⟨fun _ => h.1, ih L _ _ _ (hd.step hmem) ho2 hL hops' h.2⟩
      | false =>
        simp only [Bool.and_eq_true] at ho1
        obtain ⟨hf, hc⟩ := ho1
        obtain ⟨hS, v, hy, h⟩ := h
        have hmem : i ∈ Region.ready .any ops listed := by simpa using hc
        exact wpL_first hz hoi (Region.noSelect_spec hs) (fun c a w h => hQ c _ _ w h) L.length listed a w hd (Region.free_spec hoi hf) hmem hy hS (ih L _ _ _ (hd.step hmem) ho2 hL hops' h)
end
section
variable {P : Program} {w : World} {Q : Exit → Act → World → Prop} {n : Nat} {l : Slots} {ds : List Deferred} {S : World → Prop} {z : Nat}
/-- The operations in the order's places. -/
def ordL (os : List Oper) : List (Nat × Bool) → Option (List (Nat × Bool × Oper))
  | [] => some []
  | (i, b) :: r => match os[i]?, ordL os r with
    | some o, some L => some ((i, b, o) :: L)
    | _, _ => none
theorem ordL_map {os : List Oper} : ∀ {ord : List (Nat × Bool)} {L : List (Nat × Bool × Oper)}, ordL os ord = some L → L.map (fun x => (x.1, x.2.1)) = ord ∧ ∀ x ∈ L, os[x.1]? = some x.2.2 := by
  intro ord
  induction ord with
  | nil => intro L h; simp [ordL] at h; subst h; simp
  | cons p r ih =>
    intro L h
    obtain ⟨i, b⟩ := p
    simp only [ordL] at h
    split at h
    · rename_i o L' h1 h2
      simp only [Option.some.injEq] at h
      subst h
      obtain ⟨h3, h4⟩ := ih h2
      exact ⟨by simp [h3], fun x hx => by
        rcases List.mem_cons.1 hx with rfl | hx
        · exact h1
        · exact h4 x hx⟩
    · cases h
/-- The post, but 'never' at a panic. -/
def NoP (Q : Exit → Act → World → Prop) : Exit → Act → World → Prop
  | .panic _, _, _ => False
  | e, a, w => Q e a w
structure Wo (P : Program) (ops : Array Oper) (q : Pst P) (S : World → Prop) (z : Nat) (L : List (Nat × Bool × Oper)) (n : Nat) (l : Slots) (ds : List Deferred) (w : World) : Prop where
  up : wpO P ops (NoP q.den) S z L (A n l ds) w
variable {q : Pst P}
theorem k_h {i : Nat} {os : List Oper} (S : World → Prop) (ord : List (Nat × Bool)) {L : List (Nat × Bool × Oper)} (z : Nat) (hm : P.follows .mixedOrders = true) (hz : Waits os.toArray z) (hs : Region.noSelect os.toArray = true)
    (ho : okOrd os.toArray ord (Array.replicate os.toArray.size false) = true) (hn : Nat.beq ord.length os.length = true) (hL : ordL os ord = some L) (hw : ∀ w1, Kp No w w1 → w1.heap = w.heap → Wo P os.toArray q S z L n l ds w1) : Wc P (.region i os.toArray true) q n l ds w := by
  refine ⟨Code.wp_mono (Q := NoP q.den) (fun e a w h => by cases e <;> first | exact h | exact (h : False).elim) ?_⟩
  refine wp_region_any hm (wpAny_of_L (S := S) (z := z) _ _ _ _ ?_)
  obtain ⟨h1, h2⟩ := ordL_map hL
  have hn' := Nat.eq_of_beq_eq_true hn
  have hlen : L.length = os.toArray.size := by rw [← h1] at hn'; simpa using hn'
  have := wpL_of_O hz hs (fun c a b w h => h) ord L _ _ _ (Dc.start _) ho h1 (fun x hx => by simpa using h2 x hx) (hw w.drew (Kp.drew w) rfl).up
  rw [hlen] at this
  exact this
variable {ty : TypeId} {pos : String} {af : Array Edge} {v : Value} {rest : List (Nat × Bool × Oper)} {ops : Array Oper} {d i : Nat} {op : Op}
theorem h_nil (h : Po q .normal n l ds w) : Wo P ops q S z [] n l ds w := ⟨h.up⟩
theorem h_re {L : List (Nat × Bool × Oper)} (t : Nat) {v v' : Value} (hy : look l t = v) (hv : v = v') (h : Wo P ops q S z L n ((t, v') :: l) ds w) : Wo P ops q S z L n l ds w := by
  subst hv; exact ⟨by rw [A_pre hy]; exact h.up⟩
theorem h_v (hS : S w) (hr : ∀ w, S w → Rn P (ev n l) ⟨some d, op, ty, pos, af, none⟩ w (.ok (.value v) w)) (h : Wo P ops q S z rest n ((d, v) :: l) ds w) :
    Wo P ops q S z ((i, false, ⟨some d, op, ty, pos, af, none⟩) :: rest) n l ds w := by
  refine ⟨hS, v, .inl ⟨by simp [Region.wanted], fun w hw => by rw [eval_A]; exact (hr w hw).eq⟩, ?_⟩
  rw [put_A]; exact h.up
theorem h_nb {r : Addr → Value} {cs : List Value} {T : TypeId} (hr : Rn P (ev n l) ⟨some d, op, ty, pos, af, none⟩ w (.ok (.value (r ⟨w.heap.size, 0, none⟩)) (w.alloc (.cells cs.toArray T))))
    (h : ∀ b w1, Nb w b cs T w1 → (i ≠ z → S w1) ∧ Wo P ops q S z rest n ((d, r ⟨b, 0, none⟩) :: l) ds w1) :
    Wo P ops q S z ((i, true, ⟨some d, op, ty, pos, af, none⟩) :: rest) n l ds w := by
  refine ⟨?_⟩
  unfold wpO
  rw [if_pos (by simp [Region.wanted])]
  unfold Oper.wp
  rw [eval_A, hr.eq, Oper.upon_value, put_A]
  exact ⟨(h _ _ (nb_alloc w cs T)).1, (h _ _ (nb_alloc w cs T)).2.up⟩
theorem h_bs {t : TypeId} {len : Nat} {parts : List (Nat × Operand)} {cs : List Value} {e : TypeId} (hb : bsv P (ev n l) t len parts = some (cs, e))
    (h : ∀ b w1, Nb w b cs e w1 → (i ≠ z → S w1) ∧ Wo P ops q S z rest n ((d, .slice (some ⟨b, 0, none⟩) len len) :: l) ds w1) :
    Wo P ops q S z ((i, true, ⟨some d, .buildSlice t len parts.toArray, ty, pos, af, none⟩) :: rest) n l ds w := h_nb (r := fun a => .slice (some a) len len) (r_bs hb) h
theorem h_st {t : TypeId} {x y : Operand} {b o : Nat} {u : Value} {cs vs : List Value} {T : TypeId} (hx : ev n l x = .pointer (some ⟨b, o, none⟩)) (hy : mvv (ev n l y) = some u) (hvs : cellsL u = vs) (hs : szT P t = some vs.length) (h1 : vs.all Value.oneCell' = true)
    (hb : w.heap[b]? = some (.cells cs.toArray T (0, 0))) (ho : o + vs.length ≤ cs.length)
    (h : ∀ w1, Sb w b (setAt cs o vs) T w1 → (i ≠ z → S w1) ∧ Wo P ops q S z rest n l ds w1) :
    Wo P ops q S z ((i, true, ⟨none, .store t x y, ty, pos, af, none⟩) :: rest) n l ds w := by
  refine ⟨?_⟩
  unfold wpO
  rw [if_pos (by simp [Region.wanted])]
  unfold Oper.wp
  rw [eval_A, (r_st hx hy hvs hs h1 hb ho).eq, Oper.upon_skip, put_A_none]
  exact ⟨(h _ (sb_setRow hb)).1, (h _ (sb_setRow hb)).2.up⟩
theorem h_call {f : FuncId} {c : Operand} {xs : List Operand} {vs us zs : List Value} {ats : Array TypeId} {R : Value → World → Prop} (hf : callOk P f = true) (hcv : ev n l c = .func (.func f) us.toArray zs.toArray) (hxs : evs (ev n l) xs = some vs)
    (hc : Ret P f (us ++ vs ++ zs) w R) (h : ∀ v w1, R v w1 → (i ≠ z → S w1) ∧ Wo P ops q S z rest n ((d, v) :: l) ds w1) :
    Wo P ops q S z ((i, true, ⟨some d, .call ⟨.value c, xs.toArray, ats⟩, ty, pos, af, none⟩) :: rest) n l ds w := by
  refine ⟨?_⟩
  unfold wpO
  rw [if_pos (by simp [Region.wanted])]
  unfold Oper.wp
  rw [eval_A, (run_call hf hcv hxs).eq, Oper.upon_enter]
  refine Calls.mono hc ?_
  rintro e w1 ⟨v, rfl, hR⟩
  simp only [put_A]
  exact ⟨(h _ _ hR).1, (h _ _ hR).2.up⟩
theorem h_go {v1 : Value} {w1 : World} (hr : Rn P (ev n l) ⟨some d, op, ty, pos, af, none⟩ w (.ok (.value v1) w1)) (h : (i ≠ z → S w1) ∧ Wo P ops q S z rest n ((d, v1) :: l) ds w1) :
    Wo P ops q S z ((i, true, ⟨some d, op, ty, pos, af, none⟩) :: rest) n l ds w := by
  refine ⟨?_⟩
  unfold wpO
  rw [if_pos (by simp [Region.wanted])]
  unfold Oper.wp
  rw [eval_A, hr.eq, Oper.upon_value, put_A]
  exact ⟨h.1, h.2.up⟩
theorem h_app {s x : Operand} {t e : TypeId} {ti : TypeInfo} {zv : Value} {size bytes base k m c : Nat} {v0 : Value} {xs news : List Value} {bx ox : Nat} (ht : P.underlying t = some (.slice e)) (hi : P.info? e = some ti) (hz : ti.zero = some zv)
    (hsize : ti.size = size) (hby : ti.bytes = bytes) (hzs : (cellsL zv).length = size) (hsz : Nat.blt 0 size = true) (hs : ev n l s = v0) (own : w.ownsRow base e size v0 k xs) (hx : ev n l x = .slice (some ⟨bx, ox, none⟩) m c)
    (hnews : ∀ j u, news[j]? = some u → w.cell? ⟨bx, ox + j, none⟩ = some u) (hl : news.length = m * size) (h1 : news.all Value.oneCell' = true) (hb : (k + m) * bytes ≤ 140737488355328) (hb' : k + m ≤ 9223372036854775807) (hbase : base ≤ w.heap.size)
    (h : ∀ v w1, Ap w base e size v0 (k + m) (xs ++ news) v w1 → (i ≠ z → S w1) ∧ Wo P ops q S z rest n ((d, v) :: l) ds w1) :
    Wo P ops q S z ((i, true, ⟨some d, .call ⟨.builtin .append, #[s, x], #[t, t]⟩, ty, pos, af, none⟩) :: rest) n l ds w := by
  obtain ⟨v, w1, hr, ha⟩ := run_app (P := P) (ty := ty) (c := c) (ad := ⟨bx, ox, none⟩) ht hi hz hsize hby hzs hsz own (fun j u hj => by rw [addr_add]; exact hnews j u hj) hl h1 hb hb' hbase
  exact h_go (r_app (e := e) hs hx hr) (h v w1 ha)
end
end Go.Proofs.YtfnbgbeinmekgaaGreatDoor.Fw
namespace Go.Proofs.YtfnbgbeinmekgaaGreatDoor.Fw
open Go Go.RowKit
set_option linter.unusedSimpArgs false
set_option linter.unusedVariables false
section
variable {P : Program} {w : World} {ρ : Operand → Value} {dst : Option Tmp} {ty : TypeId} {pos : String} {af : Array Edge} {g : Option (Nat × Bool)} {v : Value}
/-- A slice's part, its address, length and room said by the caller. -/
theorem r_slx {t e : TypeId} {x : Operand} {lo hi : Option Operand} {a a' : Option Addr} {n c size n' c' : Nat} {l h : Int} (ht : P.underlying t = some (.slice e)) (hs : szT P e = some size) (hx : ρ x = .slice a n c)
    (hl : bnd 0 (lo.map ρ) = some l) (hh : bnd n (hi.map ρ) = some h) (h0 : 0 ≤ l) (h1 : l ≤ h) (h2 : h ≤ c) (h3 : n ≤ c) (ha : subA a l.toNat c size = a') (hn : h.toNat - l.toNat = n') (hc : c - l.toNat = c') :
    Rn P ρ ⟨dst, .slice t x lo hi none, ty, pos, af, g⟩ w (.ok (.value (.slice a' n' c')) w) := by
  subst ha hn hc; exact r_sls ht hs hx hl hh h0 h1 h2 h3
theorem subA_0 {a : Option Addr} {c size : Nat} : subA a 0 c size = a := by
  unfold subA; split
  · rfl
  · cases a <;> simp [Addr.add]
theorem wf_str {s : ByteArray} (h : s.size ≤ maxLen) : s.size ≤ 9223372036854775807 := by unfold maxLen at h; omega
variable {ops : Array Oper} {rest : List Oper} {q : Pst P} {n : Nat} {l : Slots} {ds : List Deferred} {d : Nat} {op : Op}
variable {S : World → Prop} {z i : Nat} {restO : List (Nat × Bool × Oper)}
end
end Go.Proofs.YtfnbgbeinmekgaaGreatDoor.Fw
namespace Go.Proofs.YtfnbgbeinmekgaaGreatDoor.Fw
open Go Go.RowKit
set_option linter.unusedSimpArgs false
set_option linter.unusedVariables false
section
variable {P : Program} {w : World} {ρ : Operand → Value} {dst : Option Tmp} {ty : TypeId} {pos : String} {af : Array Edge} {g : Option (Nat × Bool)} {v : Value}
/-- An empty row that is not nil. -/
theorem r_bs0 {t e : TypeId} {size : Nat} (ht : P.underlying t = some (.slice e)) (hs : szT P e = some size) :
    Rn P ρ ⟨dst, .buildSlice t 0 #[], ty, pos, af, g⟩ w (.ok (.value (.slice (some ⟨w.heap.size, 0, none⟩) 0 0)) (w.alloc (.cells ([] : List Value).toArray e))) := by
  refine ⟨run_v ?_⟩
  have h := run_new (P := P) (w := w) e []
  simp only [Instr.buildSlice, Sem.run_bind, und_some ht, Result.andThen_ok, run_szT hs, Nat.zero_mul, if_true, Sem.run_pure]
  simp [Instr.fill, Sem.run_bind, Result.andThen_ok, Sem.run_pure]
  have e0 : (Array.map (fun x => (default : Value)) (Array.range 0)) = ([] : List Value).toArray := by simp
  rw [e0, h]
  rfl
variable {ops : Array Oper} {rest : List Oper} {q : Pst P} {n : Nat} {l : Slots} {ds : List Deferred} {d : Nat} {op : Op}
theorem s_bs0 {t e : TypeId} {size : Nat} (ht : P.underlying t = some (.slice e)) (hs : szT P e = some size)
    (h : ∀ b w1, Nb w b [] e w1 → Wl P ops q rest n ((d, .slice (some ⟨b, 0, none⟩) 0 0) :: l) ds w1) :
    Wl P ops q (⟨some d, .buildSlice t 0 #[], ty, pos, af, none⟩ :: rest) n l ds w := s_nb (r := fun a => .slice (some a) 0 0) (r_bs0 ht hs) h
end
/-- A new empty row is one's own. -/
theorem own_empty {w w1 : World} {b base : Nat} {e size : Nat} (h : Nb w b [] e w1) (hb : base ≤ b) : w1.ownsRow base e size (.slice (some ⟨b, 0, none⟩) 0 0) 0 [] :=
  ⟨by simp, .inr ⟨b, 0, #[], rfl, hb, h.blk, Nat.le_refl _, by unfold maxLen; omega, by simp, by simp⟩⟩
/-- Strings, numbers, as cells. -/
def sc (ls : List ByteArray) : List Value := ls.map .string
theorem sc_get {ls : List ByteArray} {i : Nat} {s : ByteArray} (h : ls[i]? = some s) : (sc ls)[i]? = some (.string s) := by simp [sc, h]
end Go.Proofs.YtfnbgbeinmekgaaGreatDoor.Fw
namespace Go.Proofs.YtfnbgbeinmekgaaGreatDoor.Fw
open Go Go.RowKit
set_option linter.unusedSimpArgs false
set_option linter.unusedVariables false
/-- A text's bytes. -/
def B (s : ByteArray) : List Int := s.data.toList.map fun b => (b.toNat : Int)
theorem B_len (s : ByteArray) : (B s).length = s.size := by
  rw [B, List.length_map, Array.length_toList]; rfl
theorem B_range {s : ByteArray} {c : Int} (h : c ∈ B s) : 0 ≤ c ∧ c < 256 := by
  simp only [B, List.mem_map] at h
  obtain ⟨b, _, rfl⟩ := h
  have := b.toNat_lt
  omega
theorem B_get {s : ByteArray} {i : Nat} {c : Int} (h : (B s)[i]? = some c) : bt s i = c := by
  simp only [B, List.getElem?_map, Option.map_eq_some_iff] at h
  obtain ⟨b, h1, rfl⟩ := h
  simp only [bt, Int.toNat_natCast]
  rw [← Array.getElem?_toList, h1]
  rfl
theorem B_at (s : ByteArray) (i : Nat) (h : i < s.size) : (B s)[i]? = some (bt s i) := by
  obtain ⟨c, hc⟩ : ∃ c, (B s)[i]? = some c := ⟨_, List.getElem?_eq_getElem (by rw [B_len]; exact h)⟩
  rw [hc, B_get hc]
theorem B_extract (s : ByteArray) (i j : Nat) : B (s.extract i j) = ((B s).take j).drop i := by
  rw [B, ByteArray.data_extract, Array.toList_extract, List.extract_eq_take_drop, List.map_take, List.map_drop, ← B, List.drop_take]
theorem B_append (a b : ByteArray) : B (a ++ b) = B a ++ B b := by simp [B, ByteArray.data_append]
theorem B_inj {a b : ByteArray} (h : B a = B b) : a = b := by
  have h1 : a.data.toList = b.data.toList := by
    refine List.map_inj_right (f := fun b : UInt8 => (b.toNat : Int)) ?_ |>.1 h
    intro x y e
    exact UInt8.toNat_inj.1 (by omega)
  cases a with | mk a => cases b with | mk b => simp at h1; rw [h1]
theorem str_eq (a b : ByteArray) : (a.toList == b.toList) = decide (B a = B b) := by
  by_cases h : a = b
  · subst h; simp
  · have h1 : B a ≠ B b := fun e => h (B_inj e)
    have h2 : a.toList ≠ b.toList := fun e => by
      rw [Lib.toList_data, Lib.toList_data] at e
      exact h1 (by rw [B, B, e])
    simp [h1, h2]
section
variable {P : Program} {w : World} {ρ : Operand → Value} {dst : Option Tmp} {ty : TypeId} {pos : String} {af : Array Edge} {g : Option (Nat × Bool)} {v : Value}
/-- A call of a function without a Go body, at the model's own entry. -/
theorem r_xt {f : FuncId} {fn : Func} {e : Array Value → Sem Value} {c : Operand} {xs : List Operand} {vs : List Value} {ats : Array TypeId} {w' : World} (hf : P.funcs[f]? = some fn) (hname : (fn.name == "runtime.NumGoroutine") = false)
    (hb : fn.body.isNone = true) (hn : Extern.findNext fn = none) (he : Extern.find fn = some e) (hc : ρ c = .func (.func f) #[] #[]) (hxs : evs ρ xs = some vs) (hr : (e vs.toArray).run P w = .ok v w') :
    Rn P ρ ⟨dst, .call ⟨.value c, xs.toArray, ats⟩, ty, pos, af, g⟩ w (.ok (.value v) w') := by
  refine ⟨?_⟩
  simp only [execOp, resolve, Sem.run_bind, hc, Deferred.ofValue, Sem.run_pure, Result.andThen_ok, invoke]
  rw [run_callFunc_extern hf hname hb hn he]
  have h1 := evs_eq hxs
  have h2 : (#[] ++ Array.map ρ xs.toArray ++ #[] : Array Value) = vs.toArray := by simp [← h1]
  rw [h2, hr]
  rfl
end
/-- What one result reads as. -/
def rvS (tmps : Array Value) : ResultVar → Sem Value
  | .tmp t => pure (tmps.getD t undef)
  | .cell a t => do loadVar t (← asAddr (tmps.getD a undef))
structure Rv (P : Program) (w : World) (n : Nat) (l : Slots) (r : ResultVar) (v : Value) : Prop where
  eq : (rvS (fr n l) r).run P w = .ok v w
section
variable {P : Program} {w : World} {n : Nat} {l : Slots}
theorem rv_t {t : Tmp} {v : Value} (h : mvv (lk n l t) = some v) : Rv P w n l (.tmp t) v := by
  refine ⟨?_⟩; rw [rvS, getD_fr, mvv_eq h]; rfl
theorem rv_ag {t : TypeId} {a : Tmp} {b o sz : Nat} {vs cs : List Value} {T : TypeId} {fz : Nat × Nat} (hx : lk n l a = .pointer (some ⟨b, o, none⟩)) (ht : aggT P t = some true) (hn : szT P t = some sz)
    (hb : w.heap[b]? = some (.cells cs.toArray T fz)) (hv : (cs.drop o).take sz = vs) (hl : vs.length = sz) : Rv P w n l (.cell a t) (.agg vs.toArray) := by
  refine ⟨?_⟩
  have hc : ∀ j, j < sz → w.cell? ⟨b, o + j, none⟩ = vs[j]? := fun j hj => by
    subst hv
    simp [World.cell?, hb, List.getElem?_take, hj, List.getElem?_drop]
  simp only [rvS, getD_fr, hx, asAddr, loadVar, run_aggT ht, run_szT hn, Sem.run_bind, Sem.run_pure, Result.andThen_ok, if_true, loadCells]
  rw [run_loadCells sz 0 #[] vs hl (by simpa using hc)]
  simp [Sem.run, pure]
theorem rv_1 {t : TypeId} {a : Tmp} {b o : Nat} {v : Value} (hx : lk n l a = .pointer (some ⟨b, o, none⟩)) (ht : aggT P t = some false) (hc : w.cell? ⟨b, o, none⟩ = some v) : Rv P w n l (.cell a t) v := by
  refine ⟨?_⟩
  simp only [rvS, getD_fr, hx, asAddr, loadVar, run_aggT ht, Sem.run_bind, Sem.run_pure, Result.andThen_ok, Bool.false_eq_true, if_false]
  rw [run_load, hc]
theorem results_eq (fn : Func) (tmps : Array Value) : results fn tmps = (do let vs ← fn.results.mapM (rvS tmps); pure (if h : vs.size = 1 then vs[0] else .tuple vs)) := by
  unfold results
  congr 1
def RvL (P : Program) (w : World) (n : Nat) (l : Slots) : List ResultVar → List Value → Prop
  | [], [] => True
  | r :: rs, v :: vs => Rv P w n l r v ∧ RvL P w n l rs vs
  | _, _ => False
theorem run_mapA : ∀ {rs : List ResultVar} {vs : List Value}, RvL P w n l rs vs → (rs.mapM (rvS (fr n l))).run P w = .ok vs w := by
  intro rs
  induction rs with
  | nil => intro vs h; cases vs with
    | nil => simp [Sem.run, pure]
    | cons => exact h.elim
  | cons r rs ih => intro vs h; cases vs with
    | nil => exact h.elim
    | cons v vs => simp only [List.mapM_cons, Sem.run_bind, h.1.eq, Result.andThen_ok, ih h.2, Sem.run_pure]
theorem run_mapAA {rs : List ResultVar} {vs : List Value} (h : RvL P w n l rs vs) : (rs.toArray.mapM (rvS (fr n l))).run P w = .ok vs.toArray w := by
  rw [List.mapM_toArray, ← bind_pure_comp, Sem.run_bind, run_mapA h]; rfl
theorem res_n {fn : Func} {rs : List ResultVar} {vs : List Value} (hr : fn.results = rs.toArray) (h1 : Nat.beq vs.length 1 = false) (h : RvL P w n l rs vs) : (results fn (fr n l)).run P w = .ok (.tuple vs.toArray) w := by
  have : ¬ vs.length = 1 := fun e => by simp [e] at h1
  rw [results_eq, hr, Sem.run_bind, run_mapAA h, Result.andThen_ok, dif_neg (by simpa using this)]
  rfl
theorem res_1 {fn : Func} {r : ResultVar} {v : Value} (hr : fn.results = #[r]) (h : Rv P w n l r v) : (results fn (fr n l)).run P w = .ok v w := by
  have : fn.results = [r].toArray := hr
  rw [results_eq, this, Sem.run_bind, run_mapAA (show RvL P w n l [r] [v] from ⟨h, trivial⟩)]
  rfl
variable {fn : Func} {R : Value → World → Prop}
theorem ret_c1 {r : ResultVar} {v : Value} (hr : fn.results = #[r]) (hv : Rv P w n l r v) (h : R v w) : Po (Fin P fn R) .ret n l [] w := post_ret (res_1 hr hv) h
theorem ret_c2 {r r' : ResultVar} {v v' : Value} (hr : fn.results = #[r, r']) (hv : Rv P w n l r v) (hv' : Rv P w n l r' v') (h : R (.tuple #[v, v']) w) : Po (Fin P fn R) .ret n l [] w :=
  post_ret (res_n (rs := [r, r']) (vs := [v, v']) hr rfl (show RvL P w n l [r, r'] [v, v'] from ⟨hv, hv', trivial⟩)) h
theorem ret_c3 {r r' r'' : ResultVar} {v v' v'' : Value} (hr : fn.results = #[r, r', r'']) (hv : Rv P w n l r v) (hv' : Rv P w n l r' v') (hv'' : Rv P w n l r'' v'') (h : R (.tuple #[v, v', v'']) w) : Po (Fin P fn R) .ret n l [] w :=
  post_ret (res_n (rs := [r, r', r'']) (vs := [v, v', v'']) hr rfl (show RvL P w n l [r, r', r''] [v, v', v''] from ⟨hv, hv', hv'', trivial⟩)) h
end
section
variable {P : Program} {w : World} {os : List Oper} {rest : List Oper} {q : Pst P} {n : Nat} {l : Slots} {ds : List Deferred} {d : Nat} {op : Op} {ty : TypeId} {pos : String} {af : Array Edge}
theorem ylk_none {j : Nat} (h : ylk os n l j = some (.tuple #[])) : yielded os.toArray (fr n l) j = none := by
  unfold ylk at h
  unfold yielded
  cases ho : os[j]? with
  | none => simp [ho] at h
  | some o =>
    cases hd : o.dst with
    | none => simp [ho, hd] at h
    | some d' =>
      simp only [ho, hd] at h
      simp [List.getElem?_toArray, ho, hd, fr_get, h]
theorem s_gu {j : Nat} {b : Bool} (hy : ylk os n l j = some (.tuple #[])) (h : Wl P os.toArray q rest n ((d, undef) :: l) ds w) :
    Wl P os.toArray q (⟨some d, op, ty, pos, af, some (j, b)⟩ :: rest) n l ds w := by
  refine ⟨wpList_step fun K hK => ?_⟩
  rw [if_neg (by simp [Region.wanted, A, ylk_none hy]), put_A]
  exact hK _ _ h.up
variable {C : World → Prop} {Qq : Act → Prop}
theorem q_gu {j : Nat} {b : Bool} (hy : ylk os n l j = some (.tuple #[])) (h : Wq P os.toArray C Qq rest n ((d, undef) :: l) ds) :
    Wq P os.toArray C Qq (⟨some d, op, ty, pos, af, some (j, b)⟩ :: rest) n l ds := by
  refine ⟨?_⟩
  unfold wpQuiet
  rw [if_neg (by simp [Region.wanted, A, ylk_none hy]), put_A]
  exact h.up
end
section
variable {P : Program} {w : World} {ρ : Operand → Value} {dst : Option Tmp} {ty : TypeId} {pos : String} {af : Array Edge} {g : Option (Nat × Bool)}
/-- A part of an array in memory, its address, length and room said by the caller. -/
theorem r_slax {t e : TypeId} {x : Operand} {lo hi : Option Operand} {a : Addr} {a' : Option Addr} {n size n' c' : Nat} {l h : Int} (ht : P.underlying t = some (.array n e)) (hs : szT P e = some size) (hx : ρ x = .pointer (some a))
    (hl : bnd 0 (lo.map ρ) = some l) (hh : bnd n (hi.map ρ) = some h) (h0 : 0 ≤ l) (h1 : l ≤ h) (h2 : h ≤ n) (ha : subA (some a) l.toNat n size = a') (hn : h.toNat - l.toNat = n') (hc : n - l.toNat = c') :
    Rn P ρ ⟨dst, .slice t x lo hi none, ty, pos, af, g⟩ w (.ok (.value (.slice a' n' c')) w) := by
  subst ha hn hc; exact r_sla ht hs hx hl hh h0 h1 h2
end
/-- Where a loop's ways out meet. -/
theorem k_cutb {P : Program} {q : Pst P} {w : World} {n i : Nat} {l : Slots} {ds : List Deferred} {x y : Code} {σ : Type} (live : σ → Slots) (inv : σ → World → Prop) (hx : Wc P x (.bk i (.lp (Meet n ds live inv) q)) n l ds w)
    (hy : ∀ s l w, inv s w → Wc P y q n (live s ++ l) ds w) : Wc P x (.bk i (.sq y q)) n l ds w := by
  have key : ∀ a' w', Meet n ds live inv a' w' → y.wp P q.den a' w' := by
    rintro a' w' ⟨s, l', rfl, hag, hi⟩
    have := (hy s l' w' hi).up
    rw [← A_ag (live s) hag] at this
    exact this
  refine ⟨wp_mono hx.up ?_⟩
  intro e a' w' hq
  simp only [Pst.den] at hq ⊢
  cases e with
  | normal => exact key _ _ hq
  | exit j =>
    simp only [Exit.inBlock] at hq ⊢
    split
    · rename_i h; rw [if_pos h] at hq; exact key _ _ hq
    · rename_i h; rw [if_neg h] at hq; exact hq
  | _ => exact hq
section tried
variable {P : Program} {w : World} {ops : Array Oper} {os : List Oper} {rest : List Oper} {q : Pst P} {n : Nat} {l : Slots} {ds : List Deferred} {d : Nat} {op : Op} {ty : TypeId} {pos : String} {af : Array Edge} {v : Value} {j : Nat} {b b' : Bool} {C : World → Prop} {Qq : Act → Prop}
theorem Zs (h : Wl P ops q rest n ((d, v) :: l) ds w) (hr : Rn P (ev n l) ⟨some d, op, ty, pos, af, none⟩ w (.ok (.value v) w) := by first | exact r_mv rfl | exact r_as rfl | exact r_add rfl rfl (by omega) | exact r_sub rfl rfl (by omega) | exact r_mul rfl rfl (by omega) | exact r_bin rfl | exact r_fa rfl rfl | exact r_ld rfl rfl (by first | assumption | exact cell_of_blk (by assumption) (by rfl)) | exact r_nc rfl | exact r_not rfl | exact r_mf rfl rfl | exact r_len rfl | exact r_ex rfl | exact r_fd rfl | exact r_rem rfl rfl (by omega) (by omega) | exact r_cvi rfl rfl rfl (wrap_in (by omega)) | exact r_cv rfl | exact r_peq rfl rfl rfl | exact r_pne rfl rfl rfl | exact r_min rfl rfl | exact r_max rfl rfl | exact r_bd rfl | exact r_pt rfl rfl | exact r_pf rfl rfl) : Wl P ops q (⟨some d, op, ty, pos, af, none⟩ :: rest) n l ds w := s_v hr h
theorem Zg (h : Wl P os.toArray q rest n ((d, v) :: l) ds w) (hy : ylk os n l j = some (.bool b) := by rfl) (hr : Rn P (ev n l) ⟨some d, op, ty, pos, af, some (j, b)⟩ w (.ok (.value v) w) := by first | exact r_mv rfl | exact r_add rfl rfl (by omega) | exact r_sub rfl rfl (by omega) | exact r_mul rfl rfl (by omega) | exact r_bin rfl | exact r_not rfl | exact r_len rfl | exact r_pt rfl rfl | exact r_pf rfl rfl | exact r_nc rfl | exact r_fa rfl rfl | exact r_ld rfl rfl (by first | assumption | exact cell_of_blk (by assumption) (by rfl)) | exact r_cvi rfl rfl rfl (wrap_in (by omega)) | exact r_cv rfl | exact r_peq rfl rfl rfl | exact r_fd rfl | exact r_ex rfl | exact r_bd rfl) : Wl P os.toArray q (⟨some d, op, ty, pos, af, some (j, b)⟩ :: rest) n l ds w := s_gv hy hr h
theorem Zn (h : Wl P os.toArray q rest n ((d, undef) :: l) ds w) (hy : ylk os n l j = some (.bool b') := by rfl) (hb : (b' == b) = false := by rfl) : Wl P os.toArray q (⟨some d, op, ty, pos, af, some (j, b)⟩ :: rest) n l ds w := s_gn hy hb h
theorem Zu (h : Wl P os.toArray q rest n ((d, undef) :: l) ds w) (hy : ylk os n l j = some (.tuple #[]) := by rfl) : Wl P os.toArray q (⟨some d, op, ty, pos, af, some (j, b)⟩ :: rest) n l ds w := s_gu hy h
theorem Zq (h : Wq P ops C Qq rest n ((d, v) :: l) ds) (hr : ∀ w, C w → Rn P (ev n l) ⟨some d, op, ty, pos, af, none⟩ w (.ok (.value v) w) := by intro w' hw; first | exact r_mv rfl | exact r_as rfl | exact r_add rfl rfl (by omega) | exact r_sub rfl rfl (by omega) | exact r_mul rfl rfl (by omega) | exact r_bin rfl | exact r_fa rfl rfl | exact r_ld rfl rfl (by first | exact hw.cell0 (by assumption) | exact cell_of_blk (hw.get0 (by assumption)) (by rfl)) | exact r_nc rfl | exact r_not rfl | exact r_len rfl | exact r_ex rfl | exact r_fd rfl | exact r_cvi rfl rfl rfl (wrap_in (by omega)) | exact r_cv rfl | exact r_min rfl rfl | exact r_max rfl rfl | exact r_bd rfl | exact r_pt rfl rfl | exact r_pf rfl rfl | exact r_ia rfl rfl rfl rfl (by omega) (by omega)) : Wq P ops C Qq (⟨some d, op, ty, pos, af, none⟩ :: rest) n l ds := q_v hr h
theorem Zqg (h : Wq P os.toArray C Qq rest n ((d, v) :: l) ds) (hy : ylk os n l j = some (.bool b) := by rfl) (hr : ∀ w, C w → Rn P (ev n l) ⟨some d, op, ty, pos, af, some (j, b)⟩ w (.ok (.value v) w) := by intro w' hw; first | exact r_mv rfl | exact r_as rfl | exact r_add rfl rfl (by omega) | exact r_sub rfl rfl (by omega) | exact r_mul rfl rfl (by omega) | exact r_bin rfl | exact r_fa rfl rfl | exact r_ld rfl rfl (by first | exact hw.cell0 (by assumption) | exact cell_of_blk (hw.get0 (by assumption)) (by rfl)) | exact r_nc rfl | exact r_not rfl | exact r_len rfl | exact r_ex rfl | exact r_fd rfl | exact r_cvi rfl rfl rfl (wrap_in (by omega)) | exact r_cv rfl | exact r_min rfl rfl | exact r_max rfl rfl | exact r_bd rfl | exact r_pt rfl rfl | exact r_pf rfl rfl | exact r_ia rfl rfl rfl rfl (by omega) (by omega)) : Wq P os.toArray C Qq (⟨some d, op, ty, pos, af, some (j, b)⟩ :: rest) n l ds := q_gv hy hr h
theorem Zqn (h : Wq P os.toArray C Qq rest n ((d, undef) :: l) ds) (hy : ylk os n l j = some (.bool b') := by rfl) (hb : (b' == b) = false := by rfl) : Wq P os.toArray C Qq (⟨some d, op, ty, pos, af, some (j, b)⟩ :: rest) n l ds := q_gn hy hb h
theorem Zqu (h : Wq P os.toArray C Qq rest n ((d, undef) :: l) ds) (hy : ylk os n l j = some (.tuple #[]) := by rfl) : Wq P os.toArray C Qq (⟨some d, op, ty, pos, af, some (j, b)⟩ :: rest) n l ds := q_gu hy h
variable {S : World → Prop} {z i : Nat} {restO : List (Nat × Bool × Oper)}
theorem Zh (h : Wo P ops q S z restO n ((d, v) :: l) ds w) (hS : S w := by assumption) (hr : ∀ w, S w → Rn P (ev n l) ⟨some d, op, ty, pos, af, none⟩ w (.ok (.value v) w) := by intro w' hw; first | exact r_mv rfl | exact r_as rfl | exact r_nc rfl | exact r_fa rfl rfl | exact r_bin rfl | exact r_len rfl | exact r_not rfl | exact r_fd rfl) : Wo P ops q S z ((i, false, ⟨some d, op, ty, pos, af, none⟩) :: restO) n l ds w := h_v hS hr h
/-- A step of the control, or a quiet operation. -/
theorem Zr {p q : Prop} (x : p) (h : p → q := by first | exact k_nil | exact k_n | exact k_r | exact k_x | exact b_n | exact b_r | exact b_y rfl | exact b_z rfl | exact l_r | exact l_x | exact k_seq | exact k_blk | exact k_reg | exact k_ret | exact k_exit | exact k_skip | exact fun h => Zs h) : q := h x
end tried
end Go.Proofs.YtfnbgbeinmekgaaGreatDoor.Fw
namespace Go.Proofs.YtfnbgbeinmekgaaGreatDoor.Fw
open Go Go.RowKit
set_option linter.unusedSimpArgs false
set_option linter.unusedVariables false
variable {P : Program} {w : World} {ρ : Operand → Value} {dst : Option Tmp} {ty : TypeId} {pos : String} {af : Array Edge} {g : Option (Nat × Bool)}
end Go.Proofs.YtfnbgbeinmekgaaGreatDoor.Fw
namespace Go.Proofs.YtfnbgbeinmekgaaGreatDoor.Fw
open Go Go.RowKit
set_option linter.unusedSimpArgs false
set_option linter.unusedVariables false
theorem B_nums {xs : List Int} (h : ∀ c ∈ xs, 0 ≤ c ∧ c < 256) : B (strOfNums xs) = xs := by
  rw [B, strOfNums_data, List.map_map]
  have : xs.map ((fun b : UInt8 => (b.toNat : Int)) ∘ fun n => UInt8.ofNat n.toNat) = xs.map id := by
    apply List.map_congr_left
    intro c hc
    have := h c hc
    simp [UInt8.toNat_ofNat']
    omega
  rw [this, List.map_id]
end Go.Proofs.YtfnbgbeinmekgaaGreatDoor.Fw
namespace Go.Proofs.YtfnbgbeinmekgaaGreatDoor.Fw
open Go Go.RowKit
set_option linter.unusedSimpArgs false
set_option linter.unusedVariables false
/-- An operation that is no defer statement. -/
def nd : Op → Bool
  | .defer _ => false
  | _ => true
/-- What a call of yield does: a closure at hand, or a loop's own. -/
def Yc (P : Program) (yv : Value) (vs : List Value) (w : World) (R : Value → World → Prop) : Prop :=
  (∃ f us zs, yv = .func (.func f) (List.toArray us) (List.toArray zs) ∧ callOk P f = true ∧ Ret P f (us ++ vs ++ zs) w R) ∨
  (∃ L, yv = .func (.yield L) #[] #[] ∧ YieldAt Fence.wide 0 P L vs.toArray w fun e w' => ∃ v, e = .returned v ∧ R v w')
theorem Yc.mono {P : Program} {yv : Value} {vs : List Value} {w : World} {R R' : Value → World → Prop} (h : Yc P yv vs w R) (hr : ∀ v w', R v w' → R' v w') : Yc P yv vs w R' := by
  rcases h with ⟨f, us, zs, e, ho, h⟩ | ⟨L, e, h⟩
  · exact .inl ⟨f, us, zs, e, ho, h.mono hr⟩
  · obtain ⟨fn, tmps, as, bo, h1, h2⟩ := h
    exact .inr ⟨L, e, fn, tmps, as, bo, h1, h2.mono fun e w' ⟨v, e1, h⟩ => ⟨v, e1, hr _ _ h⟩⟩
/-- S' is S and what is new between two worlds; all else is as it was. -/
structure Ex (S S' : Nat → Prop) (w w' : World) : Prop where
  le : ∀ k, S k → S' k
  new : ∀ k, S' k → S k ∨ (w.heap.size ≤ k ∧ k < w'.heap.size)
  kp : Kp S w w'
theorem Ex.refl (S : Nat → Prop) (w : World) : Ex S S w w := ⟨fun _ h => h, fun _ h => .inl h, Kp.refl _ _⟩
theorem Ex.trans {S T U : Nat → Prop} {a b c : World} (h : Ex S T a b) (k : Ex T U b c) : Ex S U a c :=
  ⟨fun i hi => k.le i (h.le i hi), fun i hi => by
    have h1 := h.kp.size
    have h2 := k.kp.size
    rcases k.new i hi with hi | ⟨h3, h4⟩
    · rcases h.new i hi with hi | ⟨h3, h4⟩
      · exact .inl hi
      · exact .inr ⟨h3, by omega⟩
    · exact .inr ⟨by omega, h4⟩,
   h.kp.trans k.kp fun i hi hT => by
    rcases h.new i hT with h1 | ⟨h1, h2⟩
    · exact h1
    · omega⟩
section range
variable {P : Program} {q : Pst P} {w : World} {n : Nat} {l : Slots} {ds : List Deferred}
def prs : Slots → List Tmp → List Value → Slots
  | l, t :: ts, v :: vs => prs ((t, v) :: l) ts vs
  | l, _, _ => l
end range
end Go.Proofs.YtfnbgbeinmekgaaGreatDoor.Fw
namespace Go.Proofs.YtfnbgbeinmekgaaGreatDoor.Fw
open Go Go.RowKit
/-- An array of texts that reads as these: its cells. -/
theorem arr_strings {H : Type} {enc : TypeId × Value → H} {P : Program} {w : World} {base : Nat} {spare : Nat → Bool} {held : Bool} {fuel n : Nat} {t e : TypeId} {cs : List Value} {ls : List (List UInt8)} {p : List MemPlace}
    (ht : P.underlying t = some (.array n e)) (he : P.underlying e = some TypeDesc.string) (hc : P.cellsOf e = 1) (h : DataW.trod enc P w base spare held fuel t cs = some (.agg (ls.map fun l : List UInt8 => DataW.lit (Lit.string l)), p)) :
    ∀ (i : Nat) (l : List UInt8), ls[i]? = some l → cs[i]? = some (Value.string ⟨l.toArray⟩) := by
  intro i l hi
  obtain ⟨xs, m, rfl, hx, hlen, hn, hel⟩ := DataW.trod_array ht h
  simp only [Prod.mk.injEq, DataW.agg.injEq] at hx
  have hxl : xs.length = ls.length := by have := congrArg List.length hx.1; simpa using this.symm
  have hil : i < ls.length := (List.getElem?_eq_some_iff.1 hi).1
  obtain ⟨x, hxi⟩ : ∃ x, xs[i]? = some x := ⟨_, List.getElem?_eq_getElem (by omega)⟩
  have h1 := hel i (by omega)
  rw [hxi, hc, Nat.mul_one] at h1
  obtain ⟨s, hs, hx2, _⟩ := DataW.trod_string he h1
  have h2 : x.1 = .lit (.string l) := by
    have := congrArg (fun z => z[i]?) hx.1
    simp only [List.getElem?_map, hi, hxi, Option.map_some, Option.some.injEq] at this
    exact this.symm
  rw [hx2] at h2
  simp only [DataW.lit.injEq, Lit.string.injEq] at h2
  have h3 : cs[i]? = some (.string s) := by
    have := congrArg (fun z => z[0]?) hs
    simpa [List.getElem?_take, List.getElem?_drop] using this
  rw [h3, ← h2]
end Go.Proofs.YtfnbgbeinmekgaaGreatDoor.Fw
namespace Go.Proofs.YtfnbgbeinmekgaaGreatDoor.Fw
open Go Go.RowKit Go.ChangeShapes
set_option linter.unusedVariables false
/-- One cell of a struct's reading. -/
theorem take1 {cs : List Value} {o : Nat} {v : Value} (h : (cs.drop o).take 1 = [v]) : cs[o]? = some v := by
  have := congrArg (fun l => l[0]?) h
  simpa [List.getElem?_take, List.getElem?_drop] using this
end Go.Proofs.YtfnbgbeinmekgaaGreatDoor.Fw
