/- Own walk lemmas over any program: what each operation comes to, in a frame that is a list of slots. -/
import Derived.Test.YtlkipdfipaipbaaDoorFw
namespace Go.Proofs.YtlkipdfipaipbaaDoor.Fw
open Go Go.RowKit
set_option linter.unusedSimpArgs false
set_option linter.unusedVariables false

def evs (ρ : Operand → Value) : List Operand → Option (List Value)
  | [] => some []
  | x :: r => match mvv (ρ x) with
    | some v => (match evs ρ r with | some vs => some (v :: vs) | none => none)
    | none => none
theorem evs_eq {ρ : Operand → Value} : ∀ {xs : List Operand} {vs : List Value}, evs ρ xs = some vs → xs.map ρ = vs := by
  intro xs
  induction xs with
  | nil => intro vs h; simpa [evs] using h
  | cons x r ih =>
    intro vs h
    simp only [evs] at h
    split at h
    · rename_i v hv
      split at h
      · rename_i vs' hvs
        simp only [Option.some.injEq] at h
        rw [← h, List.map_cons, mvv_eq hv, ih hvs]
      · cases h
    · cases h
/-- The bits of a whole number's operation. -/
def ibits (op : BinOp) (k : IntKind) (x y : Int) : Int :=
  match op with
  | .and => k.wrap (BitVec.ofInt k.bits x &&& BitVec.ofInt k.bits y).toNat
  | .or => k.wrap (BitVec.ofInt k.bits x ||| BitVec.ofInt k.bits y).toNat
  | .xor => k.wrap (BitVec.ofInt k.bits x ^^^ BitVec.ofInt k.bits y).toNat
  | _ => k.wrap (BitVec.ofInt k.bits x &&& ~~~ BitVec.ofInt k.bits y).toNat
def binI (op : BinOp) (k : IntKind) (a b : Int) : Option Value :=
  match op with
  | .add => some (.int k (k.wrap (a + b)))
  | .sub => some (.int k (k.wrap (a - b)))
  | .mul => some (.int k (k.wrap (a * b)))
  | .and => some (.int k (ibits .and k a b))
  | .or => some (.int k (ibits .or k a b))
  | .xor => some (.int k (ibits .xor k a b))
  | .andNot => some (.int k (ibits .andNot k a b))
  | .eql => some (.bool (a == b))
  | .neq => some (.bool (a != b))
  | .lss => some (.bool (decide (a < b)))
  | .leq => some (.bool (decide (a ≤ b)))
  | .gtr => some (.bool (decide (b < a)))
  | .geq => some (.bool (decide (b ≤ a)))
  | _ => none
def binS (op : BinOp) (a b : ByteArray) : Option Value :=
  match op with
  | .eql => some (.bool (a.toList == b.toList))
  | .neq => some (.bool (!(a.toList == b.toList)))
  | .lss => some (.bool (Op.bytesLess a.toList b.toList))
  | .leq => some (.bool (Op.bytesLess a.toList b.toList || a.toList == b.toList))
  | .gtr => some (.bool (!(Op.bytesLess a.toList b.toList || a.toList == b.toList)))
  | .geq => some (.bool (!(Op.bytesLess a.toList b.toList)))
  | _ => none
def bin (op : BinOp) : Value → Value → Option Value
  | .int k a, .int k' b => if k = k' then binI op k a b else none
  | .string a, .string b => binS op a b
  | _, _ => none
theorem run_bin {P : Program} {op : BinOp} {t : TypeId} {x y : Operand} {u v r : Value} (w : World) (h : bin op u v = some r) :
    (do eqGuard op t x y u v; binOp op t u v : Sem Value).run P w = .ok r w := by
  unfold bin at h
  split at h
  · rename_i k a k' b
    split at h
    · rename_i hk
      subst hk
      cases op <;> simp [binI] at h <;> subst h <;> simp [eqGuard, binOp, Op.intArith, Op.intBits, Op.intCmp, ibits, Sem.run, pure] <;> rfl
    · cases h
  · rename_i a b
    cases op <;> simp [binS] at h <;> subst h <;> simp [eqGuard, binOp, Op.stringOp, Sem.run, pure] <;> rfl
  · cases h
section
variable {P : Program} {w : World} {ρ : Operand → Value} {ds : List Deferred} {dst : Option Tmp} {ty : TypeId} {pos : String} {af : Array Edge} {g : Option (Nat × Bool)} {v : Value}
/-- An operation comes to this. -/
structure Rn (P : Program) (ρ : Operand → Value) (o : Oper) (w : World) (r : Result Next) : Prop where
  eq : (execOp ρ o).run P w = r
theorem r_mv {x : Operand} (h : mvv (ρ x) = some v) : Rn P ρ ⟨dst, .move x, ty, pos, af, g⟩ w (.ok (.value v) w) := by
  rw [← mvv_eq h]; exact ⟨rfl⟩
theorem r_as {x : Operand} (h : mvv (ρ x) = some v) : Rn P ρ ⟨dst, .assign x, ty, pos, af, g⟩ w (.ok (.value v) w) := by
  rw [← mvv_eq h]; exact ⟨rfl⟩
theorem run_v {s : Sem Value} {w' : World} (h : s.run P w = .ok v w') : (do pure (Next.value (← s)) : Sem Next).run P w = .ok (.value v) w' := by
  simp only [Sem.run_bind, h, Result.andThen_ok, Sem.run_pure]
theorem r_bin {op : BinOp} {t t' : TypeId} {x y : Operand} (h : bin op (ρ x) (ρ y) = some v) : Rn P ρ ⟨dst, .binOp op t x y t', ty, pos, af, g⟩ w (.ok (.value v) w) :=
  ⟨run_v (run_bin w h)⟩
theorem wrap_in {n : Int} (h : -9223372036854775808 ≤ n ∧ n ≤ 9223372036854775807) : IntKind.i64.wrap n = n := IntWalk.i64_in n h
theorem r_add {t t' : TypeId} {x y : Operand} {p q : Int} (hx : ρ x = .int .i64 p) (hy : ρ y = .int .i64 q) (hb : -9223372036854775808 ≤ p + q ∧ p + q ≤ 9223372036854775807) :
    Rn P ρ ⟨dst, .binOp .add t x y t', ty, pos, af, g⟩ w (.ok (.value (.int .i64 (p + q))) w) := by
  refine r_bin ?_; simp [hx, hy, bin, binI, wrap_in hb]
theorem r_sub {t t' : TypeId} {x y : Operand} {p q : Int} (hx : ρ x = .int .i64 p) (hy : ρ y = .int .i64 q) (hb : -9223372036854775808 ≤ p - q ∧ p - q ≤ 9223372036854775807) :
    Rn P ρ ⟨dst, .binOp .sub t x y t', ty, pos, af, g⟩ w (.ok (.value (.int .i64 (p - q))) w) := by
  refine r_bin ?_; simp [hx, hy, bin, binI, wrap_in hb]
theorem r_mul {t t' : TypeId} {x y : Operand} {p q : Int} (hx : ρ x = .int .i64 p) (hy : ρ y = .int .i64 q) (hb : -9223372036854775808 ≤ p * q ∧ p * q ≤ 9223372036854775807) :
    Rn P ρ ⟨dst, .binOp .mul t x y t', ty, pos, af, g⟩ w (.ok (.value (.int .i64 (p * q))) w) := by
  refine r_bin ?_; simp [hx, hy, bin, binI, wrap_in hb]
theorem r_rem {t t' : TypeId} {x y : Operand} {k : IntKind} {p q : Int} (hx : ρ x = .int k p) (hy : ρ y = .int k q) (h0 : 0 ≤ p) (hq : q ≠ 0) :
    Rn P ρ ⟨dst, .binOp .rem t x y t', ty, pos, af, g⟩ w (.ok (.value (.int k (p % q))) w) := by
  refine ⟨run_v ?_⟩
  simp [hx, hy, eqGuard, binOp, Op.intDiv, hq, Sem.run, pure]
  rw [← Int.tmod_eq_emod_of_nonneg h0]
theorem r_quo {t t' : TypeId} {x y : Operand} {p q : Int} (hx : ρ x = .int .i64 p) (hy : ρ y = .int .i64 q) (h0 : 0 ≤ p) (hq : 1 ≤ q) (hb : p ≤ 9223372036854775807) :
    Rn P ρ ⟨dst, .binOp .quo t x y t', ty, pos, af, g⟩ w (.ok (.value (.int .i64 (p / q))) w) := by
  refine ⟨run_v ?_⟩
  have hq' : q ≠ 0 := by omega
  have h1 : 0 ≤ p / q := Int.ediv_nonneg h0 (by omega)
  have h2 : p / q ≤ p := Int.ediv_le_self _ h0
  have e : IntKind.i64.wrap (p.tdiv q) = p / q := by
    rw [Int.tdiv_eq_ediv_of_nonneg h0]; exact wrap_in ⟨by omega, by omega⟩
  simp [hx, hy, eqGuard, binOp, Op.intDiv, hq', Sem.run, pure]
  rw [e]
theorem r_cat {t t' : TypeId} {x y : Operand} {p q : ByteArray} (hx : ρ x = .string p) (hy : ρ y = .string q) (hb : ((p.size + q.size : Nat) : Int) ≤ 9223372036854775807) :
    Rn P ρ ⟨dst, .binOp .add t x y t', ty, pos, af, g⟩ w (.ok (.value (.string (p ++ q))) w) := by
  refine ⟨run_v ?_⟩
  have e : IntKind.max .i64 = 9223372036854775807 := by decide
  simp only [hx, hy]
  simp only [eqGuard, binOp, Op.stringOp, e]
  have hn : ¬ (((p.size + q.size : Nat) : Int) > 9223372036854775807) := by omega
  simp only [hn, if_false]
  rfl
/-! equality that looks at the type -/
theorem eq_bool (d : Nat) {t : TypeId} (p q : Bool) (ht : P.underlying t = some .bool) : (Op.equalIn (d + 1) t (.bool p) (.bool q)).run P w = .ok (p == q) w := by
  rw [Op.equalIn]; simp only [run_underlying ht, Sem.run_bind, Sem.run_pure, Result.andThen_ok]
theorem eq_ptrn (d : Nat) {t e : TypeId} (a : Addr) (ht : P.underlying t = some (.pointer e)) : (Op.equalIn (d + 1) t (.pointer (some a)) (.pointer none)).run P w = .ok false w := by
  rw [Op.equalIn]; simp only [run_underlying ht, Sem.run_bind, Sem.run_pure, Result.andThen_ok]
theorem eq_sln (d : Nat) {t e : TypeId} (a : Option Addr) (n c n' c' : Nat) (ht : P.underlying t = some (.slice e)) : (Op.equalIn (d + 1) t (.slice a n c) (.slice none n' c')).run P w = .ok a.isNone w := by
  cases a with
  | none => rw [Op.equalIn]; simp only [run_underlying ht, Sem.run_bind, Sem.run_pure, Result.andThen_ok]
  | some a => rw [Op.equalIn]; simp only [run_underlying ht, Sem.run_bind, Sem.run_pure, Result.andThen_ok]; rfl
theorem run_eql {t : TypeId} {x y : Operand} {u v : Value} {b : Bool} (hg : (eqGuard .eql t x y u v).run P w = .ok () w) (hbo : binOp .eql t u v = (do pure (.bool (← Op.equal t u v)))) (he : (Op.equal t u v).run P w = .ok b w) :
    (do eqGuard .eql t x y u v; binOp .eql t u v : Sem Value).run P w = .ok (.bool b) w := by
  rw [hbo]; simp only [Sem.run_bind, hg, he, Result.andThen_ok, Sem.run_pure]
theorem run_neq {t : TypeId} {x y : Operand} {u v : Value} {b : Bool} (hg : (eqGuard .neq t x y u v).run P w = .ok () w) (hbo : binOp .neq t u v = (do pure (.bool (!(← Op.equal t u v))))) (he : (Op.equal t u v).run P w = .ok b w) :
    (do eqGuard .neq t x y u v; binOp .neq t u v : Sem Value).run P w = .ok (.bool (!b)) w := by
  rw [hbo]; simp only [Sem.run_bind, hg, he, Result.andThen_ok, Sem.run_pure]
/-- Two bools. -/
theorem r_beq {t t' : TypeId} {x y : Operand} {p q : Bool} (ht : P.underlying t = some .bool) (hx : ρ x = .bool p) (hy : ρ y = .bool q) :
    Rn P ρ ⟨dst, .binOp .eql t x y t', ty, pos, af, g⟩ w (.ok (.value (.bool (p == q))) w) := by
  refine ⟨run_v ?_⟩; rw [hx, hy]; exact run_eql rfl rfl (eq_bool 9999 p q ht)
theorem r_bne {t t' : TypeId} {x y : Operand} {p q : Bool} (ht : P.underlying t = some .bool) (hx : ρ x = .bool p) (hy : ρ y = .bool q) :
    Rn P ρ ⟨dst, .binOp .neq t x y t', ty, pos, af, g⟩ w (.ok (.value (.bool (!(p == q)))) w) := by
  refine ⟨run_v ?_⟩; rw [hx, hy]; exact run_neq rfl rfl (eq_bool 9999 p q ht)
/-- A pointer and nil. -/
theorem r_pne {t t' e : TypeId} {x y : Operand} {a : Addr} (ht : P.underlying t = some (.pointer e)) (hx : ρ x = .pointer (some a)) (hy : ρ y = .pointer none) :
    Rn P ρ ⟨dst, .binOp .neq t x y t', ty, pos, af, g⟩ w (.ok (.value (.bool true)) w) := by
  refine ⟨run_v ?_⟩; rw [hx, hy]; exact run_neq rfl rfl (eq_ptrn 9999 a ht)
theorem r_peq {t t' e : TypeId} {x y : Operand} {a : Addr} (ht : P.underlying t = some (.pointer e)) (hx : ρ x = .pointer (some a)) (hy : ρ y = .pointer none) :
    Rn P ρ ⟨dst, .binOp .eql t x y t', ty, pos, af, g⟩ w (.ok (.value (.bool false)) w) := by
  refine ⟨run_v ?_⟩; rw [hx, hy]; exact run_eql rfl rfl (eq_ptrn 9999 a ht)
/-- A slice and nil. -/
theorem r_seq {t t' e : TypeId} {x y : Operand} {a : Option Addr} {n c n' c' : Nat} (ht : P.underlying t = some (.slice e)) (hx : ρ x = .slice a n c) (hy : ρ y = .slice none n' c') :
    Rn P ρ ⟨dst, .binOp .eql t x y t', ty, pos, af, g⟩ w (.ok (.value (.bool a.isNone)) w) := by
  refine ⟨run_v ?_⟩; rw [hx, hy]; exact run_eql rfl rfl (eq_sln 9999 a n c n' c' ht)
theorem r_sne {t t' e : TypeId} {x y : Operand} {a : Option Addr} {n c n' c' : Nat} (ht : P.underlying t = some (.slice e)) (hx : ρ x = .slice a n c) (hy : ρ y = .slice none n' c') :
    Rn P ρ ⟨dst, .binOp .neq t x y t', ty, pos, af, g⟩ w (.ok (.value (.bool (!a.isNone))) w) := by
  refine ⟨run_v ?_⟩; rw [hx, hy]; exact run_neq rfl rfl (eq_sln 9999 a n c n' c' ht)
theorem r_not {t : TypeId} {x : Operand} {b : Bool} (hx : ρ x = .bool b) : Rn P ρ ⟨dst, .unOp .not t x, ty, pos, af, g⟩ w (.ok (.value (.bool !b)) w) := by
  refine ⟨run_v ?_⟩; simp only [hx]; rfl
theorem r_neg {t : TypeId} {x : Operand} {k : IntKind} {n : Int} (hx : ρ x = .int k n) : Rn P ρ ⟨dst, .unOp .neg t x, ty, pos, af, g⟩ w (.ok (.value (.int k (k.wrap (0 - n)))) w) := by
  refine ⟨run_v ?_⟩; simp only [hx]; rfl
def ncv : Value → Option Value
  | .pointer (some a) => some (.pointer (some a))
  | .func (.func f) a b => some (.func (.func f) a b)
  | .iface t v => some (.iface t v)
  | _ => none
theorem r_nc {x : Operand} (h : ncv (ρ x) = some v) : Rn P ρ ⟨dst, .nilCheck x, ty, pos, af, g⟩ w (.ok (.value v) w) := by
  unfold ncv at h
  split at h <;> simp only [Option.some.injEq, reduceCtorEq] at h <;> (rename_i e; subst h; refine ⟨?_⟩; simp only [execOp, e]; rfl)
theorem r_mf {fn : Fn} {fs cs : List Operand} {xs ys : List Value} (h1 : evs ρ fs = some xs) (h2 : evs ρ cs = some ys) :
    Rn P ρ ⟨dst, .makeFunc fn fs.toArray cs.toArray, ty, pos, af, g⟩ w (.ok (.value (.func fn xs.toArray ys.toArray)) w) := by
  refine ⟨run_v ?_⟩
  rw [← evs_eq h1, ← evs_eq h2]
  simp [Instr.makeFunc, Sem.run, pure]
def exv (v : Value) (i : Nat) : Option Value :=
  match v with
  | .tuple vs => (match vs.toList[i]? with | some u => mvv u | none => none)
  | _ => none
theorem r_ex {x : Operand} {i : Nat} (h : exv (ρ x) i = some v) : Rn P ρ ⟨dst, .extract x i, ty, pos, af, g⟩ w (.ok (.value v) w) := by
  refine ⟨run_v ?_⟩
  unfold exv at h
  split at h
  · rename_i vs e
    split at h
    · rename_i u hu
      have := mvv_eq h; subst this
      have hu' : vs[i]? = some u := by rw [← hu]; simp
      simp [e, Instr.extract, hu', Sem.run, pure]
    · cases h
  · cases h
theorem addr_add (b o n : Nat) : (⟨b, o, none⟩ : Addr).add n = ⟨b, o + n, none⟩ := by
  unfold Addr.add; split <;> simp_all
def faOff (P : Program) (s : TypeId) (f : Nat) : Option Nat :=
  match P.underlying s with
  | some (.struct fs) => (match fs.toList[f]? with
    | some ⟨_, t, off, _, _, _, _⟩ => (match P.info? t with | some i => (bif Nat.beq i.size 0 then none else some off) | none => none)
    | none => none)
  | _ => none
theorem r_fa {s : TypeId} {x : Operand} {f off b o : Nat} (hf : faOff P s f = some off) (hx : ρ x = .pointer (some ⟨b, o, none⟩)) :
    Rn P ρ ⟨dst, .fieldAddr s x f, ty, pos, af, g⟩ w (.ok (.value (.pointer (some ⟨b, o + off, none⟩))) w) := by
  refine ⟨run_v ?_⟩
  unfold faOff at hf
  split at hf
  · rename_i fs hu
    split at hf
    · rename_i nm t off' e1 e2 e3 e4 hfd
      split at hf
      · rename_i i hi
        cases hs : Nat.beq i.size 0 with
        | true => simp [hs] at hf
        | false =>
          simp only [hs, cond_false, Option.some.injEq] at hf
          subst hf
          have hs' : ¬ i.size = 0 := fun e => by simp [e] at hs
          have hfd' : fs[f]? = some ⟨nm, t, off', e1, e2, e3, e4⟩ := by rw [← hfd]; simp
          simp [hx, Instr.fieldAt, run_underlying hu, hfd', Instr.sureAddr, fieldPlace, sizeOf, typeInfo, program, hi, hs', addr_add, Sem.run, Sem.run_bind, Sem.run_pure, Result.andThen_ok]
      · cases hf
    · cases hf
  · cases hf
def aggT (P : Program) (t : TypeId) : Option Bool :=
  match P.underlying t with
  | some (.struct _) => some true
  | some (.array _ _) => some true
  | some _ => some false
  | none => none
theorem run_aggT {t : TypeId} {b : Bool} (h : aggT P t = some b) : (isAgg t).run P w = .ok b w := by
  unfold aggT at h
  split at h
  · rename_i fs hu; cases h; simp [isAgg, run_underlying hu, Sem.run_bind, Sem.run_pure, Result.andThen_ok]
  · rename_i fs hu; cases h; simp [isAgg, run_underlying hu, Sem.run_bind, Sem.run_pure, Result.andThen_ok]
  · rename_i d hn1 hn2 hu
    cases h
    simp only [isAgg, run_underlying hu, Sem.run_bind, Sem.run_pure, Result.andThen_ok]
  · cases h
def szT (P : Program) (t : TypeId) : Option Nat :=
  match P.info? t with
  | some ⟨_, _, n, _, _, _, _, _, _, _⟩ => some n
  | none => none
theorem szT_info {t : TypeId} {n : Nat} (h : szT P t = some n) : ∃ i, P.info? t = some i ∧ i.size = n := by
  unfold szT at h
  split at h
  · rename_i hi; simp only [Option.some.injEq] at h; exact ⟨_, hi, h⟩
  · cases h
theorem run_szT {t : TypeId} {n : Nat} (h : szT P t = some n) : (sizeOf t).run P w = .ok n w := by
  obtain ⟨i, hi, h⟩ := szT_info h
  simp [sizeOf, typeInfo, program, Sem.run, Sem.run_bind, Sem.run_pure, Result.andThen_ok, hi, h]
/-- A load of one cell. -/
theorem r_ld {t : TypeId} {x : Operand} {b o : Nat} (hx : ρ x = .pointer (some ⟨b, o, none⟩)) (ht : aggT P t = some false) (hc : w.cell? ⟨b, o, none⟩ = some v) :
    Rn P ρ ⟨dst, .load t x, ty, pos, af, g⟩ w (.ok (.value v) w) := by
  refine ⟨run_v ?_⟩
  simp [hx, Instr.loadAt, Instr.sureAddr, loadVar, run_aggT ht, hc, Sem.run_bind, Sem.run_pure, Result.andThen_ok]
theorem run_loadCells {b o : Nat} : ∀ (n i : Nat) (acc : Array Value) (vs : List Value), vs.length = n → (∀ j, j < n → w.cell? ⟨b, o + i + j, none⟩ = vs[j]?) →
    (loadCellsFrom ⟨b, o, none⟩ i n acc).run P w = .ok (acc ++ vs.toArray) w := by
  intro n
  induction n with
  | zero => intro i acc vs hl _; have : vs = [] := List.length_eq_zero_iff.1 hl; subst this; simp [loadCellsFrom, Sem.run, pure]
  | succ n ih =>
    intro i acc vs hl h
    cases vs with
    | nil => simp at hl
    | cons v vs =>
      have h0 := h 0 (by omega)
      simp only [Nat.add_zero, List.getElem?_cons_zero] at h0
      simp only [loadCellsFrom, Sem.run_bind, addr_add, run_load, h0, Result.andThen_ok]
      rw [ih (i + 1) (acc.push v) vs (by simpa using hl) (fun j hj => by
        have := h (j + 1) (by omega)
        simp only [List.getElem?_cons_succ] at this
        rw [← this]; congr 2; omega)]
      simp
/-- A load of a struct or array. -/
theorem r_lda {t : TypeId} {x : Operand} {b o n : Nat} {vs : List Value} (hx : ρ x = .pointer (some ⟨b, o, none⟩)) (ht : aggT P t = some true) (hn : szT P t = some n) (hl : vs.length = n)
    (hc : ∀ j, j < n → w.cell? ⟨b, o + j, none⟩ = vs[j]?) :
    Rn P ρ ⟨dst, .load t x, ty, pos, af, g⟩ w (.ok (.value (.agg vs.toArray)) w) := by
  refine ⟨run_v ?_⟩
  simp only [hx, Instr.loadAt, Instr.sureAddr, loadVar, run_aggT ht, run_szT hn, Sem.run_bind, Sem.run_pure, Result.andThen_ok, if_true, loadCells]
  rw [run_loadCells n 0 #[] vs hl (by simpa using hc)]
  simp [Sem.run, pure]
theorem r_ldb {t : TypeId} {x : Operand} {b o n : Nat} {vs cs : List Value} {T : TypeId} {fz : Nat × Nat} (hx : ρ x = .pointer (some ⟨b, o, none⟩)) (ht : aggT P t = some true) (hn : szT P t = some n)
    (hb : w.heap[b]? = some (.cells cs.toArray T fz)) (hv : (cs.drop o).take n = vs) (hl : vs.length = n) :
    Rn P ρ ⟨dst, .load t x, ty, pos, af, g⟩ w (.ok (.value (.agg vs.toArray)) w) := by
  refine r_lda hx ht hn hl fun j hj => ?_
  subst hv
  simp [World.cell?, hb, List.getElem?_take, hj, List.getElem?_drop]
/-- Fields of a struct at hand. -/
def fdv (P : Program) (t : TypeId) (f : Nat) (v : Value) : Option Value :=
  match v with
  | .agg cs => (match P.underlying t with
    | some (.struct fs) => (match fs.toList[f]? with
      | some ⟨_, ft, off, _, _, _, _⟩ => (match aggT P ft with
        | some false => (match cs.toList[off]? with | some u => mvv u | none => none)
        | some true => (match szT P ft with | some n => some (.agg ((cs.toList.drop off).take n).toArray) | none => none)
        | none => none)
      | none => none)
    | _ => none)
  | _ => none
theorem r_fd {t : TypeId} {x : Operand} {f : Nat} (h : fdv P t f (ρ x) = some v) : Rn P ρ ⟨dst, .field t x f, ty, pos, af, g⟩ w (.ok (.value v) w) := by
  refine ⟨run_v ?_⟩
  unfold fdv at h
  split at h
  · rename_i cs e
    split at h
    · rename_i fs hu
      split at h
      · rename_i nm ft off e1 e2 e3 e4 hfd
        have hfd' : fs[f]? = some ⟨nm, ft, off, e1, e2, e3, e4⟩ := by rw [← hfd]; simp
        have hstep : (Instr.field t (.agg cs) f).run P w = (part ft cs off).run P w := by
          simp [Instr.field, run_underlying hu, hfd', asAgg, Sem.run_bind, Sem.run_pure, Result.andThen_ok]
        rw [e, hstep]
        split at h
        · rename_i ha
          split at h
          · rename_i u hu'
            have := mvv_eq h; subst this
            have h3 : cs[off]? = some u := by rw [← hu']; simp
            simp [part, run_aggT ha, h3, Sem.run_bind, Sem.run_pure, Result.andThen_ok]
          · cases h
        · rename_i ha
          split at h
          · rename_i n hn
            simp only [Option.some.injEq] at h
            subst h
            simp only [part, run_aggT ha, run_szT hn, Sem.run_bind, Sem.run_pure, Result.andThen_ok, if_true]
            congr 2
            apply Array.ext'
            simp [List.extract_eq_take_drop, Nat.add_sub_cancel_left]
          · cases h
        · cases h
      · cases h
    · cases h
  · cases h
end
end Go.Proofs.YtlkipdfipaipbaaDoor.Fw
