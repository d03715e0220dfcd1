/- Own walk lemmas over any program: operations that take, change or make memory; calls; and the steps of a walk. -/
import Derived.Test.YtlkipdfipaipbaaDoorFo
namespace Go.Proofs.YtlkipdfipaipbaaDoor.Fw
open Go Go.RowKit
set_option linter.unusedSimpArgs false
set_option linter.unusedVariables false
section
variable {P : Program} {w : World} {ρ : Operand → Value} {dst : Option Tmp} {ty : TypeId} {pos : String} {af : Array Edge} {g : Option (Nat × Bool)} {v : Value}

/-! ### conversions, builtins -/
def cvv (P : Program) (src dst : TypeId) (v : Value) : Option Value :=
  match P.underlying src, P.underlying dst, v with
  | some (.int _), some (.int k), .int _ n => some (.int k (k.wrap n))
  | some .string, some .string, .string s => some (.string s)
  | _, _, _ => none
theorem und_some {t : TypeId} {d : TypeDesc} (h : P.underlying t = some d) : (underlying t).run P w = .ok d w := by
  simp [run_underlying h]
theorem r_cv {s d : TypeId} {x : Operand} (h : cvv P s d (ρ x) = some v) : Rn P ρ ⟨dst, .convert s d x, ty, pos, af, g⟩ w (.ok (.value v) w) := by
  refine ⟨run_v ?_⟩
  unfold cvv at h
  split at h
  · rename_i k' k k'' n h1 h2 h3
    simp only [Option.some.injEq] at h
    subst h
    rw [h3]
    simp [convert, run_underlying h1, run_underlying h2, Conv.intToInt, Sem.run_bind, Sem.run_pure, Result.andThen_ok]
  · rename_i s' h1 h2 h3
    simp only [Option.some.injEq] at h
    subst h
    rw [h3]
    simp [convert, run_underlying h1, run_underlying h2, Sem.run_bind, Sem.run_pure, Result.andThen_ok]
  · cases h
/-- A whole number of one kind, and its own: the number stays. -/
theorem r_cvi {s d : TypeId} {x : Operand} {k k' : IntKind} {n : Int} (h1 : P.underlying s = some (.int k')) (h2 : P.underlying d = some (.int k)) (hx : ρ x = .int k' n) (hb : k.wrap n = n) :
    Rn P ρ ⟨dst, .convert s d x, ty, pos, af, g⟩ w (.ok (.value (.int k n)) w) := by
  refine r_cv ?_; simp [cvv, h1, h2, hx, hb]
def lenv (P : Program) (t : TypeId) (v : Value) : Option Value :=
  match P.underlying t, v with
  | some .string, .string s => some (.int .i64 (s.size : Int))
  | some (.slice _), .slice _ n _ => some (.int .i64 (n : Int))
  | some (.array n _), .agg _ => some (.int .i64 (n : Int))
  | _, _ => none
theorem run_bi {b : Builtin} {xs : List Operand} {ats : Array TypeId} {w' : World} {r : Value} (s : Sem Value)
    (hb : ∀ (cn : Array Bool) (args : Array Value), args = (xs.map ρ).toArray → builtin b ats ty cn args = (do pure (Next.value (← s)))) (hs : s.run P w = .ok r w') :
    Rn P ρ ⟨dst, .call ⟨.builtin b, xs.toArray, ats⟩, ty, pos, af, g⟩ w (.ok (.value r) w') := by
  refine ⟨?_⟩
  simp only [execOp, resolve, Sem.run_bind, Sem.run_pure, Result.andThen_ok, invoke]
  rw [hb _ _ (by simp)]
  exact run_v hs
theorem r_len {t : TypeId} {x : Operand} (h : lenv P t (ρ x) = some v) : Rn P ρ ⟨dst, .call ⟨.builtin .len, #[x], #[t]⟩, ty, pos, af, g⟩ w (.ok (.value v) w) := by
  refine run_bi (xs := [x]) (Builtin.len_ #[t] ty #[ρ x]) (fun cn args e => by subst e; rfl) ?_
  unfold lenv at h
  split at h
  · rename_i s h1 h2; simp only [Option.some.injEq] at h; subst h; rw [h2]; simp [Builtin.len_, run_underlying h1, goInt, Sem.run_bind, Sem.run_pure, Result.andThen_ok]
  · rename_i s n c h1 h2; simp only [Option.some.injEq] at h; subst h; rw [h2]; simp [Builtin.len_, run_underlying h1, goInt, Sem.run_bind, Sem.run_pure, Result.andThen_ok]
  · rename_i n e c h1 h2; simp only [Option.some.injEq] at h; subst h; rw [h2]; simp [Builtin.len_, run_underlying h1, goInt, Sem.run_bind, Sem.run_pure, Result.andThen_ok]
  · cases h
theorem r_min {ats : Array TypeId} {x y : Operand} {k k' : IntKind} {p q : Int} (hx : ρ x = .int k p) (hy : ρ y = .int k' q) :
    Rn P ρ ⟨dst, .call ⟨.builtin .min, #[x, y], ats⟩, ty, pos, af, g⟩ w (.ok (.value (.int k (min p q))) w) := by
  refine run_bi (xs := [x, y]) (Builtin.min_ ats ty #[ρ x, ρ y]) (fun cn args e => by subst e; rfl) ?_
  rw [hx, hy]
  have e : (if q < p then q else p) = min p q := by rw [Int.min_def]; split <;> split <;> omega
  simp [Builtin.min_, List.foldlM, Builtin.min2, Sem.run_bind, Sem.run_pure, Result.andThen_ok, e]
theorem r_max {ats : Array TypeId} {x y : Operand} {k k' : IntKind} {p q : Int} (hx : ρ x = .int k p) (hy : ρ y = .int k' q) :
    Rn P ρ ⟨dst, .call ⟨.builtin .max, #[x, y], ats⟩, ty, pos, af, g⟩ w (.ok (.value (.int k (max p q))) w) := by
  refine run_bi (xs := [x, y]) (Builtin.max_ ats ty #[ρ x, ρ y]) (fun cn args e => by subst e; rfl) ?_
  rw [hx, hy]
  have e : (if q > p then q else p) = max p q := by rw [Int.max_def]; split <;> split <;> omega
  simp [Builtin.max_, List.foldlM, Builtin.max2, Sem.run_bind, Sem.run_pure, Result.andThen_ok, e]

/-! ### strings and slices: parts -/
/-- A text's byte. -/
def bt (s : ByteArray) (i : Int) : Int := ((s.data[i.toNat]?).getD 0).toNat
theorem bt_range (s : ByteArray) (i : Int) : 0 ≤ bt s i ∧ bt s i < 256 := by
  unfold bt; have := ((s.data[i.toNat]?).getD 0).toNat_lt; omega
theorem r_ix {t : TypeId} {x y : Operand} {s : ByteArray} {k : IntKind} {i : Int} (ht : P.underlying t = some .string) (hx : ρ x = .string s) (hy : ρ y = .int k i) (h0 : 0 ≤ i) (h1 : i < s.size) :
    Rn P ρ ⟨dst, .index t x y, ty, pos, af, g⟩ w (.ok (.value (.int .u8 (bt s i))) w) := by
  refine ⟨run_v ?_⟩
  rw [hx, hy, run_index_string (P := P) (w := w) (t := t) (s := s) (k := k) (i := i) (h := ht), dif_pos ⟨h0, h1⟩]
  have h2 : i.toNat < s.data.size := by have : s.data.size = s.size := rfl; omega
  simp only [bt, Array.getElem?_eq_getElem h2, Option.getD_some]
  rfl
theorem r_ss {t : TypeId} {x y z : Operand} {s : ByteArray} {k k' : IntKind} {i j : Int} (ht : P.underlying t = some .string) (hx : ρ x = .string s) (hy : ρ y = .int k i) (hz : ρ z = .int k' j) (h0 : 0 ≤ i) (h1 : i ≤ j) (h2 : j ≤ s.size) :
    Rn P ρ ⟨dst, .slice t x (some y) (some z) none, ty, pos, af, g⟩ w (.ok (.value (.string (s.extract i.toNat j.toNat))) w) := by
  refine ⟨run_v ?_⟩
  simp only [Option.map_some, Option.map_none, hx, hy, hz, Instr.sliceAt, Sem.run_bind, und_some ht, Result.andThen_ok]
  exact run_slice_string (P := P) (w := w) (t := t) (s := s) (k := k) (k' := k') (i := i) (j := j) (h := ht) (h0 := h0) (h1 := h1) (h2 := h2)
theorem r_sl {t : TypeId} {x y : Operand} {s : ByteArray} {k : IntKind} {i : Int} (ht : P.underlying t = some .string) (hx : ρ x = .string s) (hy : ρ y = .int k i) (h0 : 0 ≤ i) (h1 : i ≤ s.size) :
    Rn P ρ ⟨dst, .slice t x (some y) none none, ty, pos, af, g⟩ w (.ok (.value (.string (s.extract i.toNat s.size))) w) := by
  refine ⟨run_v ?_⟩
  simp only [Option.map_some, Option.map_none, hx, hy, Instr.sliceAt, Sem.run_bind, und_some ht, Result.andThen_ok]
  exact run_slice_string_l (P := P) (w := w) (t := t) (s := s) (ht := ht) (kl := k) (l := i) (h0 := h0) (h1 := h1)
theorem r_sh {t : TypeId} {x y : Operand} {s : ByteArray} {k : IntKind} {i : Int} (ht : P.underlying t = some .string) (hx : ρ x = .string s) (hy : ρ y = .int k i) (h0 : 0 ≤ i) (h1 : i ≤ s.size) :
    Rn P ρ ⟨dst, .slice t x none (some y) none, ty, pos, af, g⟩ w (.ok (.value (.string (s.extract 0 i.toNat))) w) := by
  refine ⟨run_v ?_⟩
  simp only [Option.map_some, Option.map_none, hx, hy, Instr.sliceAt, Sem.run_bind, und_some ht, Result.andThen_ok]
  exact run_slice_string_h (P := P) (w := w) (t := t) (s := s) (ht := ht) (kh := k) (h := i) (h0 := h0) (h2 := h1)
/-- A bound, if there is one. -/
def bnd (d : Int) : Option Value → Option Int
  | none => some d
  | some (.int _ n) => some n
  | _ => none
theorem run_bounds {len cap : Nat} {lo hi : Option Value} {l h : Int} (hl : bnd 0 lo = some l) (hh : bnd len hi = some h) (h0 : 0 ≤ l) (h1 : l ≤ h) (h2 : h ≤ cap) (h3 : len ≤ cap) :
    (Instr.sliceBounds true len cap lo hi none).run P w = .ok (l.toNat, h.toNat, cap) w := by
  have hb : ∀ (k : IntKind) (i : Int) (y : Nat) (c : BoundsCode), 0 ≤ i → i ≤ y → (Instr.sliceBound (.int k i) y c).run P w = .ok i.toNat w := by
    intro k i y c a b
    simp [Instr.sliceBound, asIntOf, a, b, Sem.run_bind, Sem.run_pure, Result.andThen_ok]
  cases hi with
  | none =>
    simp only [bnd, Option.some.injEq] at hh
    cases lo with
    | none =>
      simp only [bnd, Option.some.injEq] at hl
      subst hl hh
      simp [Instr.sliceBounds, Sem.run_bind, Sem.run_pure, Result.andThen_ok]
    | some v =>
      cases v <;> simp only [bnd, Option.some.injEq, reduceCtorEq] at hl
      subst hl hh
      simp [Instr.sliceBounds, Sem.run_bind, Sem.run_pure, Result.andThen_ok, hb _ _ _ _ h0 h1]
  | some u =>
    cases u <;> simp only [bnd, Option.some.injEq, reduceCtorEq] at hh
    subst hh
    cases lo with
    | none =>
      simp only [bnd, Option.some.injEq] at hl
      subst hl
      simp [Instr.sliceBounds, Sem.run_bind, Sem.run_pure, Result.andThen_ok, hb _ _ _ _ h1 h2]
    | some v =>
      cases v <;> simp only [bnd, Option.some.injEq, reduceCtorEq] at hl
      subst hl
      have h1' : 0 ≤ (‹Int› : Int) := by assumption
      simp only [Instr.sliceBounds, Option.isSome_none, Bool.false_eq_true, if_false, if_true, Sem.run_bind, Sem.run_pure, Result.andThen_ok]
      rw [hb _ _ _ _ (by omega) h2]
      simp only [Result.andThen_ok]
      rw [hb _ _ _ _ h0 (by omega)]
      rfl
/-- A slice's part; the address goes on, but at the very end. -/
def subA (a : Option Addr) (l cap size : Nat) : Option Addr := if cap = l then a else a.map (·.add (l * size))
theorem r_sls {t e : TypeId} {x : Operand} {lo hi : Option Operand} {a : Option Addr} {n c size : Nat} {l h : Int} (ht : P.underlying t = some (.slice e)) (hs : szT P e = some size) (hx : ρ x = .slice a n c)
    (hl : bnd 0 (lo.map ρ) = some l) (hh : bnd n (hi.map ρ) = some h) (h0 : 0 ≤ l) (h1 : l ≤ h) (h2 : h ≤ c) (h3 : n ≤ c) :
    Rn P ρ ⟨dst, .slice t x lo hi none, ty, pos, af, g⟩ w (.ok (.value (.slice (subA a l.toNat c size) (h.toNat - l.toNat) (c - l.toNat))) w) := by
  refine ⟨run_v ?_⟩
  simp only [Option.map_none, hx, Instr.sliceAt, Sem.run_bind, und_some ht, Result.andThen_ok]
  simp only [Instr.slice, Sem.run_bind, und_some ht, Result.andThen_ok, run_bounds hl hh h0 h1 h2 h3, run_szT hs, Sem.run_pure, subA]
theorem run_boundsA {n : Nat} {lo hi : Option Value} {l h : Int} (hl : bnd 0 lo = some l) (hh : bnd n hi = some h) (h0 : 0 ≤ l) (h1 : l ≤ h) (h2 : h ≤ n) :
    (Instr.sliceBounds false n n lo hi none).run P w = .ok (l.toNat, h.toNat, n) w := by
  have hb : ∀ (k : IntKind) (i : Int) (y : Nat) (c : BoundsCode), 0 ≤ i → i ≤ y → (Instr.sliceBound (.int k i) y c).run P w = .ok i.toNat w := by
    intro k i y c a b
    simp [Instr.sliceBound, asIntOf, a, b, Sem.run_bind, Sem.run_pure, Result.andThen_ok]
  cases hi with
  | none =>
    simp only [bnd, Option.some.injEq] at hh
    cases lo with
    | none =>
      simp only [bnd, Option.some.injEq] at hl
      subst hl hh
      simp [Instr.sliceBounds, Sem.run_bind, Sem.run_pure, Result.andThen_ok]
    | some v =>
      cases v <;> simp only [bnd, Option.some.injEq, reduceCtorEq] at hl
      subst hl hh
      simp [Instr.sliceBounds, Sem.run_bind, Sem.run_pure, Result.andThen_ok, hb _ _ _ _ h0 h1]
  | some u =>
    cases u <;> simp only [bnd, Option.some.injEq, reduceCtorEq] at hh
    subst hh
    cases lo with
    | none =>
      simp only [bnd, Option.some.injEq] at hl
      subst hl
      simp [Instr.sliceBounds, Sem.run_bind, Sem.run_pure, Result.andThen_ok, hb _ _ _ _ h1 h2]
    | some v =>
      cases v <;> simp only [bnd, Option.some.injEq, reduceCtorEq] at hl
      subst hl
      simp only [Instr.sliceBounds, Option.isSome_none, Bool.false_eq_true, if_false, if_true, Sem.run_bind, Sem.run_pure, Result.andThen_ok]
      rw [hb _ _ _ _ (by omega) h2]
      simp only [Result.andThen_ok]
      rw [hb _ _ _ _ h0 (by omega)]
      rfl
/-- A part of an array in memory. -/
theorem r_sla {t e : TypeId} {x : Operand} {lo hi : Option Operand} {a : Addr} {n size : Nat} {l h : Int} (ht : P.underlying t = some (.array n e)) (hs : szT P e = some size) (hx : ρ x = .pointer (some a))
    (hl : bnd 0 (lo.map ρ) = some l) (hh : bnd n (hi.map ρ) = some h) (h0 : 0 ≤ l) (h1 : l ≤ h) (h2 : h ≤ n) :
    Rn P ρ ⟨dst, .slice t x lo hi none, ty, pos, af, g⟩ w (.ok (.value (.slice (subA (some a) l.toNat n size) (h.toNat - l.toNat) (n - l.toNat))) w) := by
  refine ⟨run_v ?_⟩
  simp only [Option.map_none, hx, Instr.sliceAt, Sem.run_bind, und_some ht, Result.andThen_ok, Instr.sureAddr, Sem.run_pure, run_boundsA hl hh h0 h1 h2, run_szT hs, subA, Option.map_some]
  split <;> rfl
/-- The address of a slice's element. -/
theorem r_ia {t e : TypeId} {x y : Operand} {b o n c size : Nat} {k : IntKind} {i : Int} (ht : P.underlying t = some (.slice e)) (hs : szT P e = some size) (hx : ρ x = .slice (some ⟨b, o, none⟩) n c) (hy : ρ y = .int k i) (h0 : 0 ≤ i) (h1 : i < n) :
    Rn P ρ ⟨dst, .indexAddr t x y, ty, pos, af, g⟩ w (.ok (.value (.pointer (some ⟨b, o + i.toNat * size, none⟩))) w) := by
  refine ⟨run_v ?_⟩
  have hb : (decide (n ≤ 1) && false) = false := by simp
  simp [hx, hy, Instr.indexAt, asIntOf, Sem.run_bind, und_some ht, Result.andThen_ok, Sem.run_pure, h0, h1, run_szT hs, addr_add]
theorem r_iaa {t e : TypeId} {x y : Operand} {b o n size : Nat} {k : IntKind} {i : Int} (ht : P.underlying t = some (.array n e)) (hs : szT P e = some size) (hx : ρ x = .pointer (some ⟨b, o, none⟩)) (hy : ρ y = .int k i) (h0 : 0 ≤ i) (h1 : i < n) :
    Rn P ρ ⟨dst, .indexAddr t x y, ty, pos, af, g⟩ w (.ok (.value (.pointer (some ⟨b, o + i.toNat * size, none⟩))) w) := by
  refine ⟨run_v ?_⟩
  simp [hx, hy, Instr.indexAt, Instr.sureAddr, asIntOf, Sem.run_bind, und_some ht, Result.andThen_ok, Sem.run_pure, h0, h1, run_szT hs, addr_add]
theorem r_mi {t : TypeId} {x : Operand} {d : TypeDesc} (ht : P.underlying t = some d) (hd : (match d with | .interface _ => false | _ => true) = true) (hx : mvv (ρ x) = some v) :
    Rn P ρ ⟨dst, .makeInterface t x, ty, pos, af, g⟩ w (.ok (.value (.iface t v)) w) := by
  refine ⟨run_v ?_⟩
  rw [mvv_eq hx]
  cases d <;> simp_all [Instr.makeInterface, run_underlying ht, Sem.run_bind, Sem.run_pure, Result.andThen_ok]

/-! ### new memory -/
def cellsL : Value → List Value
  | .agg c => c.toList
  | v => [v]
theorem cells_toArray (v : Value) : v.cells = (cellsL v).toArray := by cases v <;> simp [Value.cells, cellsL]
theorem run_new (T : TypeId) (cs : List Value) : (newRow T cs.toArray).run P w = .ok ⟨w.heap.size, 0, none⟩ (w.alloc (.cells cs.toArray T)) := by
  rfl
/-- What a new block gives. -/
structure Nb (w : World) (b : Nat) (cs : List Value) (T : TypeId) (w1 : World) : Prop where
  kp : Kp No w w1
  ge : w.heap.size ≤ b
  lt : b < w1.heap.size
  blk : w1.heap[b]? = some (.cells cs.toArray T (0, 0))
theorem nb_alloc (w : World) (cs : List Value) (T : TypeId) : Nb w w.heap.size cs T (w.alloc (.cells cs.toArray T)) :=
  ⟨Kp.alloc _ _, Nat.le_refl _, by show _ < (w.heap.push _).size; simp, heap_alloc_new w _⟩
theorem run_box {T : TypeId} {u : Value} {cs : List Value} (h : cellsL u = cs) : (Instr.box T u).run P w = .ok (.pointer (some ⟨w.heap.size, 0, none⟩)) (w.alloc (.cells cs.toArray T)) := by
  simp only [Instr.box, newVar, cells_toArray, h, Sem.run_bind, run_new, Result.andThen_ok, Sem.run_pure]
theorem r_box {T : TypeId} {x : Operand} {u : Value} {cs : List Value} (hx : mvv (ρ x) = some u) (hc : cellsL u = cs) :
    Rn P ρ ⟨dst, .box T x, ty, pos, af, g⟩ w (.ok (.value (.pointer (some ⟨w.heap.size, 0, none⟩))) (w.alloc (.cells cs.toArray T))) := by
  refine ⟨run_v ?_⟩; rw [mvv_eq hx]; exact run_box hc
def zeroL (P : Program) (t : TypeId) : Option (List Value) :=
  match P.info? t with
  | some i => (match i.zero with | some v => some (cellsL v) | none => none)
  | none => none
theorem run_zero {t : TypeId} {cs : List Value} (h : zeroL P t = some cs) : ∃ v, (zeroValue t).run P w = .ok v w ∧ cellsL v = cs := by
  unfold zeroL at h
  split at h
  · rename_i i hi
    split at h
    · rename_i v hv
      simp only [Option.some.injEq] at h
      exact ⟨v, by simp [zeroValue, typeInfo, program, Sem.run, Sem.run_bind, Sem.run_pure, Result.andThen_ok, hi, hv, pure], h⟩
    · cases h
  · cases h
theorem r_al {T : TypeId} {cs : List Value} (h : zeroL P T = some cs) :
    Rn P ρ ⟨dst, .alloc T, ty, pos, af, g⟩ w (.ok (.value (.pointer (some ⟨w.heap.size, 0, none⟩))) (w.alloc (.cells cs.toArray T))) := by
  refine ⟨run_v ?_⟩
  obtain ⟨v, hv, hc⟩ := run_zero (w := w) h
  simp only [Instr.alloc, Sem.run_bind, hv, Result.andThen_ok, newVar, cells_toArray, hc, run_new, Sem.run_pure]
/-- Parts laid into cells. -/
def setAt (cs : List Value) (o : Nat) : List Value → List Value
  | [] => cs
  | v :: r => setAt (cs.set o v) (o + 1) r
def fillL (place : Nat → Option (Nat × Nat)) (ρ : Operand → Value) (cs : List Value) : List (Nat × Operand) → Option (List Value)
  | [] => some cs
  | (i, x) :: rest =>
    match place i, mvv (ρ x) with
    | some (off, size), some v => (match Nat.beq (cellsL v).length size, Nat.ble (off + (cellsL v).length) cs.length with
      | true, true => fillL place ρ (setAt cs off (cellsL v)) rest
      | _, _ => none)
    | _, _ => none
theorem foldl_set (off : Nat) : ∀ (l : List Value) (k : Nat) (cs : Array Value), (l.zipIdx k).foldl (fun cs (p : Value × Nat) => cs.setIfInBounds (off + p.2) p.1) cs = (setAt cs.toList (off + k) l).toArray := by
  intro l
  induction l with
  | nil => intro k cs; simp [setAt]
  | cons v r ih =>
    intro k cs
    simp only [List.zipIdx_cons, List.foldl_cons, ih, setAt, Array.toList_setIfInBounds]
    rw [Nat.add_assoc]
theorem setAt_length : ∀ (l : List Value) (o : Nat) (cs : List Value), (setAt cs o l).length = cs.length := by
  intro l
  induction l with
  | nil => intro o cs; rfl
  | cons v r ih => intro o cs; simp [setAt, ih]
theorem fill_L {place : Nat → Option (Nat × Nat)} : ∀ {parts : List (Nat × Operand)} {cs : List Value} {out : List Value}, fillL place ρ cs parts = some out →
    Instr.fill place cs.toArray (parts.map fun p => (p.1, ρ p.2)) = some out.toArray := by
  intro parts
  induction parts with
  | nil => intro cs out h; simp [fillL] at h; simp [Instr.fill, h]
  | cons p r ih =>
    intro cs out h
    obtain ⟨i, x⟩ := p
    simp only [fillL] at h
    split at h
    · rename_i off size v hp hv
      split at h
      · rename_i h1 h2
        have e := mvv_eq hv
        have h1' := Nat.eq_of_beq_eq_true h1
        have h2' := Nat.le_of_ble_eq_true h2
        simp only [List.map_cons, Instr.fill, hp, e, cells_toArray, List.size_toArray]
        rw [if_neg (by simp [h1']; omega)]
        have := ih h
        rw [← this]
        congr 1
        have h3 := foldl_set off (cellsL v) 0 cs.toArray
        simp only [Nat.add_zero] at h3
        rw [← h3, ← Array.foldl_toList]
        simp
      · cases h
    · cases h
def bdv (P : Program) (ρ : Operand → Value) (t : TypeId) (parts : List (Nat × Operand)) : Option Value :=
  match zeroL P t with
  | some zs => (match P.underlying t with
    | some (.struct fs) => (match fs.toList.mapM (fun f => (szT P f.type).map fun n => (f.offset, n)) with
      | some places => (match fillL (fun i => places[i]?) ρ zs parts with | some cs => some (.agg cs.toArray) | none => none)
      | none => none)
    | some (.array _ e) => (match szT P e with
      | some n => (match fillL (fun i => some (i * n, n)) ρ zs parts with | some cs => some (.agg cs.toArray) | none => none)
      | none => none)
    | _ => none)
  | none => none
theorem run_mapM {α β : Type} (f : α → Sem β) (h : α → Option β) (hf : ∀ a b, h a = some b → (f a).run P w = .ok b w) : ∀ (l : List α) (bs : List β), l.mapM h = some bs → (l.mapM f).run P w = .ok bs w := by
  intro l
  induction l with
  | nil => intro bs hb; simp at hb; subst hb; simp [Sem.run, pure]
  | cons a r ih =>
    intro bs hb
    simp only [List.mapM_cons, Option.bind_eq_bind, Option.bind_eq_some_iff, Option.pure_def, Option.some.injEq] at hb
    obtain ⟨b, h1, bs', h2, rfl⟩ := hb
    simp only [List.mapM_cons, Sem.run_bind, hf _ _ h1, Result.andThen_ok, ih _ h2, Sem.run_pure]
theorem r_bd {t : TypeId} {parts : List (Nat × Operand)} (h : bdv P ρ t parts = some v) : Rn P ρ ⟨dst, .build t parts.toArray, ty, pos, af, g⟩ w (.ok (.value v) w) := by
  refine ⟨run_v ?_⟩
  unfold bdv at h
  split at h
  · rename_i zs hz
    obtain ⟨z, hz1, hz2⟩ := run_zero (w := w) hz
    split at h
    · rename_i fs hu
      split at h
      · rename_i places hpl
        split at h
        · rename_i cs hcs
          simp only [Option.some.injEq] at h
          subst h
          have hm : (fs.mapM fun f => (do pure (f.offset, ← sizeOf f.type) : Sem (Nat × Nat))).run P w = .ok places.toArray w := by
            have hl : fs = fs.toList.toArray := by simp
            rw [hl, List.mapM_toArray, ← bind_pure_comp, Sem.run_bind]
            rw [run_mapM _ (fun f => (szT P f.type).map fun n => (f.offset, n)) ?_ _ _ hpl]
            · rfl
            · intro f b hb
              cases hs : szT P f.type with
              | none => simp [hs] at hb
              | some n =>
                simp only [hs, Option.map_some, Option.some.injEq] at hb
                subst hb
                simp only [Sem.run_bind, run_szT hs, Result.andThen_ok, Sem.run_pure]
          simp only [Instr.build, Sem.run_bind, hz1, Result.andThen_ok, und_some hu, hm]
          have hf := fill_L hcs
          simp only [cells_toArray, hz2]
          simp only [List.map_toArray, List.getElem?_toArray]
          rw [hf]
          rfl
        · cases h
      · cases h
    · rename_i n' e hu
      split at h
      · rename_i n hn
        split at h
        · rename_i cs hcs
          simp only [Option.some.injEq] at h
          subst h
          simp only [Instr.build, Sem.run_bind, hz1, Result.andThen_ok, und_some hu, run_szT hn]
          have hf := fill_L hcs
          simp only [cells_toArray, hz2]
          simp only [List.map_toArray]
          rw [hf]
          rfl
        · cases h
      · cases h
    · cases h
  · cases h
end
end Go.Proofs.YtlkipdfipaipbaaDoor.Fw
