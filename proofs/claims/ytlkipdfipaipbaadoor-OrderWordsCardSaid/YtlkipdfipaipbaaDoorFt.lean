/- Own walk lemmas over any program: stores, calls, appends, and the steps of a walk. -/
import Derived.Test.YtlkipdfipaipbaaDoorFs
import Derived.Deep.Quiet
namespace Go.Proofs.YtlkipdfipaipbaaDoor.Fw
open Go Go.RowKit
set_option linter.unusedSimpArgs false
set_option linter.unusedVariables false
section
variable {P : Program} {w : World} {ρ : Operand → Value} {dst : Option Tmp} {ty : TypeId} {pos : String} {af : Array Edge} {g : Option (Nat × Bool)} {v : Value}
theorem run_u {s : Sem Unit} {w' : World} (h : s.run P w = .ok () w') : (do s; pure Next.skip : Sem Next).run P w = .ok .skip w' := by
  simp only [Sem.run_bind, h, Result.andThen_ok, Sem.run_pure]
/-- What a store into a block gives. -/
structure Sb (w : World) (b : Nat) (cs : List Value) (T : TypeId) (w1 : World) : Prop where
  kp : Kp (fun k => k = b) w w1
  sz : w1.heap.size = w.heap.size
  blk : w1.heap[b]? = some (.cells cs.toArray T (0, 0))
theorem setAt_eq : ∀ (vs : List Value) (o : Nat) (cs : List Value), o + vs.length ≤ cs.length → setAt cs o vs = cs.take o ++ vs ++ cs.drop (o + vs.length) := by
  intro vs
  induction vs with
  | nil => intro o cs _; simp [setAt]
  | cons v r ih =>
    intro o cs h
    simp only [List.length_cons] at h
    rw [setAt, ih (o + 1) (cs.set o v) (by simp; omega)]
    have ho : o < cs.length := by omega
    have e1 : (cs.set o v).take (o + 1) = cs.take o ++ [v] := by
      apply List.ext_getElem?
      intro i
      simp only [List.getElem?_take, List.getElem?_append, List.getElem?_set, List.length_take]
      have hm : min o cs.length = o := by omega
      rw [hm]
      by_cases h1 : i < o
      · simp [h1, show i < o + 1 from by omega, show ¬ o = i from by omega]
      · by_cases h2 : i = o
        · subst h2; simp [ho]
        · simp only [show ¬ i < o + 1 from by omega, h1, if_false]
          rw [List.getElem?_eq_none (by simp; omega)]
    have e2 : (cs.set o v).drop (o + 1 + r.length) = cs.drop (o + (r.length + 1)) := by
      rw [List.drop_set_of_lt (by omega)]
      congr 1
      omega
    rw [e1, e2]
    simp
theorem sb_setRow {b : Nat} {cs cs' : List Value} {T : TypeId} (hb : w.heap[b]? = some (.cells cs.toArray T (0, 0))) : Sb w b cs' T (w.setRow b cs'.toArray) :=
  ⟨⟨rfl, rfl, rfl, by simp [World.setRow], fun k _ hs => by
      have : ¬ b = k := fun e => hs e.symm
      simp [World.setRow, Array.getElem?_modify, this]⟩, by simp [World.setRow], setRow_heap w b cs.toArray cs'.toArray T (0, 0) hb⟩
theorem r_st {t : TypeId} {x y : Operand} {b o : Nat} {u : Value} {cs vs : List Value} {T : TypeId} (hx : ρ x = .pointer (some ⟨b, o, none⟩)) (hy : mvv (ρ y) = some u) (hvs : cellsL u = vs) (hs : szT P t = some vs.length) (h1 : vs.all Value.oneCell' = true)
    (hb : w.heap[b]? = some (.cells cs.toArray T (0, 0))) (ho : o + vs.length ≤ cs.length) :
    Rn P ρ ⟨dst, .store t x y, ty, pos, af, g⟩ w (.ok .skip (w.setRow b (setAt cs o vs).toArray)) := by
  refine ⟨run_u ?_⟩
  have e := mvv_eq hy
  simp only [hx, Instr.storeAt, Instr.sureAddr, Sem.run_bind, Sem.run_pure, Result.andThen_ok, storeVar, run_szT hs, e, cells_toArray, hvs, List.size_toArray]
  simp only [ne_eq, not_true_eq_false, if_false]
  have h := run_storeCells_at (P := P) b o T vs 0 cs.toArray w hb (by simpa using ho) (by simpa using h1)
  simp only [Nat.add_zero] at h
  rw [show (storeCells ⟨b, o, none⟩ vs).run P w = _ from h, setAt_eq vs o cs ho]
def bsv (P : Program) (ρ : Operand → Value) (t : TypeId) (len : Nat) (parts : List (Nat × Operand)) : Option (List Value × TypeId) :=
  match P.underlying t with
  | some (.slice e) => (match szT P e, zeroL P e with
    | some n, some zs => (match Nat.ble 1 (len * n), Nat.ble (len * n) 1000, fillL (fun i => some (i * n, n)) ρ ((List.range (len * n)).map (fun j => zs.getD (j % zs.length) default)) parts with
      | true, true, some cs => some (cs, e)
      | _, _, _ => none)
    | _, _ => none)
  | _ => none
theorem r_bs {t : TypeId} {len : Nat} {parts : List (Nat × Operand)} {cs : List Value} {e : TypeId} (h : bsv P ρ t len parts = some (cs, e)) :
    Rn P ρ ⟨dst, .buildSlice t len parts.toArray, ty, pos, af, g⟩ w (.ok (.value (.slice (some ⟨w.heap.size, 0, none⟩) len len)) (w.alloc (.cells cs.toArray e))) := by
  refine ⟨run_v ?_⟩
  unfold bsv at h
  split at h
  · rename_i e' hu
    split at h
    · rename_i n zs hn hz
      split at h
      · rename_i cs' h1 h2 hf
        simp only [Option.some.injEq, Prod.mk.injEq] at h
        obtain ⟨rfl, rfl⟩ := h
        have h1' := Nat.le_of_ble_eq_true h1
        have h2' := Nat.le_of_ble_eq_true h2
        obtain ⟨z, hz1, hz2⟩ := run_zero (w := w) hz
        have hne : ¬ len * n = 0 := by omega
        have hbig : ¬ len * n > 2 ^ 24 := by omega
        simp only [Instr.buildSlice, Sem.run_bind, und_some hu, Result.andThen_ok, run_szT hn, hbig, if_false, hne, hz1, Sem.run_pure]
        have hff := fill_L hf
        have hcells : (Array.range (len * n)).map (fun j => z.cells[j % z.cells.size]!) = ((List.range (len * n)).map (fun j => zs.getD (j % zs.length) default)).toArray := by
          apply Array.ext'
          simp [cells_toArray, hz2, List.getD_eq_getElem?_getD]
        simp only [hcells, List.map_toArray]
        rw [hff]
        simp only [Sem.run_bind, run_new, Result.andThen_ok, Sem.run_pure]
      · cases h
    · cases h
  · cases h
/-- make of a slice: its zeros. -/
theorem r_ms {t e : TypeId} {x y : Operand} {i : TypeInfo} {z : Value} {kl kc : IntKind} {l c : Int} (ht : P.underlying t = some (.slice e)) (hi : P.info? e = some i) (hz : i.zero = some z)
    (hx : ρ x = .int kl l) (hy : ρ y = .int kc c) (h0 : 0 ≤ l) (hlc : l ≤ c) (hbytes : (i.bytes : Int) * c ≤ 140737488355328) (h63 : c ≤ 9223372036854775807) :
    Rn P ρ ⟨dst, .makeSlice t x y, ty, pos, af, g⟩ w (.ok (.value (.slice (some ⟨w.heap.size, 0, none⟩) l.toNat c.toNat)) (w.alloc (.cells (madeCells z.cells (c.toNat * i.size)).toList.toArray e))) := by
  refine ⟨run_v ?_⟩
  rw [hx, hy]
  simpa using run_make (P := P) w t e i z ht hi hz kl kc l c h0 hlc (by omega) h63
theorem made1 (z : Value) (n : Nat) (h : (cellsL z) = [z]) : (madeCells z.cells n).toList = List.replicate n z := by
  apply List.ext_getElem
  · simp [madeCells]
  · intro i h1 h2
    simp [madeCells, cells_toArray, h, Nat.mod_one]

/-! ### calls -/
def callOk (P : Program) (f : FuncId) : Bool :=
  match P.funcs[f]? with
  | some fn => !(fn.name == "runtime.NumGoroutine") && fn.body.isSome
  | none => false
theorem run_callFunc {f : FuncId} (h : callOk P f = true) (args : Array Value) : (callFunc f args).run P w = .ok (.enter f args) w := by
  unfold callOk at h
  cases hf : P.funcs[f]? with
  | none => simp [hf] at h
  | some fn =>
    simp only [hf, Bool.and_eq_true, Bool.not_eq_true'] at h
    obtain ⟨h1, h2⟩ := h
    have h3 : fn.body.isNone = false := by cases hb : fn.body <;> simp_all
    simp only [callFunc, program, Sem.run_bind, Sem.run, hf, h1, h3, Bool.false_eq_true, if_false, Result.andThen_ok, pure]
theorem run_call {f : FuncId} {c : Operand} {xs : List Operand} {vs us zs : List Value} {ats : Array TypeId} (hf : callOk P f = true) (hc : ρ c = .func (.func f) us.toArray zs.toArray) (hxs : evs ρ xs = some vs) :
    Rn P ρ ⟨dst, .call ⟨.value c, xs.toArray, ats⟩, ty, pos, af, g⟩ w (.ok (.enter f (us ++ vs ++ zs).toArray) w) := by
  refine ⟨?_⟩
  simp only [execOp, resolve, Sem.run_bind, hc, Deferred.ofValue, Sem.run_pure, Result.andThen_ok, invoke]
  rw [run_callFunc hf]
  have := evs_eq hxs
  simp [← this]

/-! ### steps -/
variable {ops : Array Oper} {os : List Oper} {rest : List Oper} {q : Pst P} {n : Nat} {l : Slots} {ds : List Deferred} {d : Nat} {op : Op}
theorem s_v (hr : Rn P (ev n l) ⟨some d, op, ty, pos, af, none⟩ w (.ok (.value v) w)) (h : Wl P ops q rest n ((d, v) :: l) ds w) :
    Wl P ops q (⟨some d, op, ty, pos, af, none⟩ :: rest) n l ds w := by
  refine ⟨wpList_plain rfl fun K hK => ?_⟩
  unfold Oper.wp
  rw [eval_A, hr.eq, Oper.upon_value, put_A]
  exact hK _ _ h.up
theorem s_nb {r : Addr → Value} {cs : List Value} {T : TypeId} (hr : Rn P (ev n l) ⟨some d, op, ty, pos, af, none⟩ w (.ok (.value (r ⟨w.heap.size, 0, none⟩)) (w.alloc (.cells cs.toArray T))))
    (h : ∀ b w1, Nb w b cs T w1 → Wl P ops q rest n ((d, r ⟨b, 0, none⟩) :: l) ds w1) :
    Wl P ops q (⟨some d, op, ty, pos, af, none⟩ :: rest) n l ds w := by
  refine ⟨wpList_plain rfl fun K hK => ?_⟩
  unfold Oper.wp
  rw [eval_A, hr.eq, Oper.upon_value, put_A]
  exact hK _ _ (h _ _ (nb_alloc w cs T)).up
theorem s_box {T : TypeId} {x : Operand} {u : Value} {cs : List Value} (hx : mvv (ev n l x) = some u) (hc : cellsL u = cs)
    (h : ∀ b w1, Nb w b cs T w1 → Wl P ops q rest n ((d, .pointer (some ⟨b, 0, none⟩)) :: l) ds w1) :
    Wl P ops q (⟨some d, .box T x, ty, pos, af, none⟩ :: rest) n l ds w := s_nb (r := fun a => .pointer (some a)) (r_box hx hc) h
theorem s_al {T : TypeId} {cs : List Value} (hz : zeroL P T = some cs)
    (h : ∀ b w1, Nb w b cs T w1 → Wl P ops q rest n ((d, .pointer (some ⟨b, 0, none⟩)) :: l) ds w1) :
    Wl P ops q (⟨some d, .alloc T, ty, pos, af, none⟩ :: rest) n l ds w := s_nb (r := fun a => .pointer (some a)) (r_al hz) h
theorem s_bs {t : TypeId} {len : Nat} {parts : List (Nat × Operand)} {cs : List Value} {e : TypeId} (hb : bsv P (ev n l) t len parts = some (cs, e))
    (h : ∀ b w1, Nb w b cs e w1 → Wl P ops q rest n ((d, .slice (some ⟨b, 0, none⟩) len len) :: l) ds w1) :
    Wl P ops q (⟨some d, .buildSlice t len parts.toArray, ty, pos, af, none⟩ :: rest) n l ds w := s_nb (r := fun a => .slice (some a) len len) (r_bs hb) h
theorem s_st {t : TypeId} {x y : Operand} {b o : Nat} {u : Value} {cs vs : List Value} {T : TypeId} (hx : ev n l x = .pointer (some ⟨b, o, none⟩)) (hy : mvv (ev n l y) = some u) (hvs : cellsL u = vs) (hs : szT P t = some vs.length) (h1 : vs.all Value.oneCell' = true)
    (hb : w.heap[b]? = some (.cells cs.toArray T (0, 0))) (ho : o + vs.length ≤ cs.length)
    (h : ∀ w1, Sb w b (setAt cs o vs) T w1 → Wl P ops q rest n l ds w1) :
    Wl P ops q (⟨none, .store t x y, ty, pos, af, none⟩ :: rest) n l ds w := by
  refine ⟨wpList_plain rfl fun K hK => ?_⟩
  unfold Oper.wp
  rw [eval_A, (r_st hx hy hvs hs h1 hb ho).eq, Oper.upon_skip, put_A_none]
  exact hK _ _ (h _ (sb_setRow hb)).up
theorem s_enter {f : FuncId} {vs : List Value} {R : Value → World → Prop} (hr : Rn P (ev n l) ⟨some d, op, ty, pos, af, none⟩ w (.ok (.enter f vs.toArray) w)) (hc : Ret P f vs w R)
    (h : ∀ v w1, R v w1 → Wl P ops q rest n ((d, v) :: l) ds w1) : Wl P ops q (⟨some d, op, ty, pos, af, none⟩ :: rest) n l ds w := by
  refine ⟨wpList_plain rfl fun K hK => ?_⟩
  unfold Oper.wp
  rw [eval_A, hr.eq, Oper.upon_enter]
  refine Calls.mono hc ?_
  rintro e w1 ⟨v, rfl, hR⟩
  simp only [put_A]
  exact hK _ _ (h _ _ hR).up
theorem s_enter0 {f : FuncId} {vs : List Value} {R : Value → World → Prop} (hr : Rn P (ev n l) ⟨none, op, ty, pos, af, none⟩ w (.ok (.enter f vs.toArray) w)) (hc : Ret P f vs w R)
    (h : ∀ v w1, R v w1 → Wl P ops q rest n l ds w1) : Wl P ops q (⟨none, op, ty, pos, af, none⟩ :: rest) n l ds w := by
  refine ⟨wpList_plain rfl fun K hK => ?_⟩
  unfold Oper.wp
  rw [eval_A, hr.eq, Oper.upon_enter]
  refine Calls.mono hc ?_
  rintro e w1 ⟨v, rfl, hR⟩
  simp only [put_A_none]
  exact hK _ _ (h _ _ hR).up
/-- A call of a named function, or of a closure at hand. -/
theorem s_call {f : FuncId} {c : Operand} {xs : List Operand} {vs us zs : List Value} {ats : Array TypeId} {R : Value → World → Prop} (hf : callOk P f = true) (hcv : ev n l c = .func (.func f) us.toArray zs.toArray) (hxs : evs (ev n l) xs = some vs)
    (hc : Ret P f (us ++ vs ++ zs) w R) (h : ∀ v w1, R v w1 → Wl P ops q rest n ((d, v) :: l) ds w1) :
    Wl P ops q (⟨some d, .call ⟨.value c, xs.toArray, ats⟩, ty, pos, af, none⟩ :: rest) n l ds w := s_enter (run_call hf hcv hxs) hc h
theorem s_call0 {f : FuncId} {c : Operand} {xs : List Operand} {vs us zs : List Value} {ats : Array TypeId} {R : Value → World → Prop} (hf : callOk P f = true) (hcv : ev n l c = .func (.func f) us.toArray zs.toArray) (hxs : evs (ev n l) xs = some vs)
    (hc : Ret P f (us ++ vs ++ zs) w R) (h : ∀ v w1, R v w1 → Wl P ops q rest n l ds w1) :
    Wl P ops q (⟨none, .call ⟨.value c, xs.toArray, ats⟩, ty, pos, af, none⟩ :: rest) n l ds w := s_enter0 (run_call hf hcv hxs) hc h
/-- What an append to an owned row gives. -/
structure Ap (w : World) (base : Nat) (e : TypeId) (size : Nat) (v0 : Value) (k : Nat) (xs : List Value) (v : Value) (w1 : World) : Prop where
  own : w1.ownsRow base e size v k xs
  kp : Kp (fun i => some i = v0.ownBlock) w w1
  nil : v = .slice none 0 0 → v0 = .slice none 0 0
  row : ∀ g, v.ownBlock = some g → v0.ownBlock = some g ∨ w.heap.size ≤ g
theorem run_app {t ty e : TypeId} {i : TypeInfo} {z : Value} {size bytes base k m c : Nat} {v0 : Value} {xs news : List Value} {ad : Addr} (ht : P.underlying t = some (.slice e)) (hi : P.info? e = some i) (hz : i.zero = some z)
    (hsize : i.size = size) (hby : i.bytes = bytes) (hzs : (cellsL z).length = size) (hsz : Nat.blt 0 size = true) (own : w.ownsRow base e size v0 k xs)
    (hnews : ∀ j u, news[j]? = some u → w.cell? (ad.add j) = some u) (hl : news.length = m * size) (h1 : news.all Value.oneCell' = true) (hb : (k + m) * bytes ≤ 140737488355328) (hb' : k + m ≤ 9223372036854775807) (hbase : base ≤ w.heap.size) :
    ∃ v w1, (Builtin.append_ #[t, t] ty #[v0, .slice (some ad) m c]).run P w = .ok v w1 ∧ Ap w base e size v0 (k + m) (xs ++ news) v w1 := by
  have hzs' : z.cells.size = size := by rw [cells_toArray]; simpa using hzs
  have hsz' : 0 < size := by simpa [Nat.blt_eq] using hsz
  have h1' : ∀ u ∈ news, u.oneCell' = true := by simpa using h1
  have h63 : k + m ≤ maxLen := by unfold maxLen; omega
  obtain ⟨v, w1, hr, h2, h3, h4⟩ := run_append_own (P := P) w base t ty e i z size bytes ht hi hz hsize hby hzs' hsz' v0 k xs own ad m c news hl hnews h1' h63 hb hbase
  refine ⟨v, w1, hr, h2, Kp.of_grown h3, fun e => (h4.1 e).1, ?_⟩
  intro g hg
  rcases own.2 with ⟨rfl, rfl⟩ | ⟨g0, cap, cur, rfl, hbg, hg0, hnc, hcm, hcs, htake⟩
  · right
    have hx : xs = [] := List.eq_nil_of_length_eq_zero (by simpa using own.1)
    subst hx
    obtain ⟨v', w1', hr', h2', _, _⟩ := run_append_own (P := P) w w.heap.size t ty e i z size bytes ht hi hz hsize hby hzs' hsz' (.slice none 0 0) 0 [] (World.ownsRow_nil w _ e size) ad m c news hl hnews h1' h63 hb (Nat.le_refl _)
    rw [hr] at hr'
    cases hr'
    rcases h2'.2 with ⟨rfl, _⟩ | ⟨g', _, _, rfl, hle, _⟩
    · cases hg
    · simp only [Value.ownBlock, Option.some.injEq] at hg; omega
  · by_cases hroom : k + m ≤ cap
    · left
      have hfit : k * i.size + news.length ≤ cur.size := by rw [hl, hcs, hsize, ← Nat.add_mul]; exact Nat.mul_le_mul_right _ hroom
      have hr' := run_append_room (P := P) w t ty e i ht hi g0 k cap cur hg0 ad m c news (by rw [hsize]; exact hl) hnews h1' hroom hfit
      rw [hr] at hr'
      cases hr'
      exact hg
    · right
      have holds : ∀ j u, xs[j]? = some u → w.cell? ((⟨g0, 0, none⟩ : Addr).add j) = some u := own.cells (g := g0) rfl
      have hr' := run_append_grow (P := P) w t ty e i z ht hi hz ⟨g0, 0, none⟩ k cap xs (by rw [hsize]; exact own.1) holds ad m c news (by rw [hsize]; exact hl) hnews (by omega) (by omega) (growslice_fits (by omega) (by rw [hby]; exact hb))
      rw [hr] at hr'
      cases hr'
      simp only [Value.ownBlock, Option.some.injEq] at hg; omega
theorem r_app {s x : Operand} {t e : TypeId} {v1 : Value} {w1 : World} {v0 xv : Value} (hs : ρ s = v0) (hx : ρ x = xv) (h : (Builtin.append_ #[t, t] ty #[v0, xv]).run P w = .ok v1 w1) :
    Rn P ρ ⟨dst, .call ⟨.builtin .append, #[s, x], #[t, t]⟩, ty, pos, af, g⟩ w (.ok (.value v1) w1) := by
  refine run_bi (xs := [s, x]) (Builtin.append_ #[t, t] ty #[ρ s, ρ x]) (fun cn args e => by subst e; rfl) ?_
  rw [hs, hx]; exact h
/-- A step to another world. -/
theorem s_go {v1 : Value} {w1 : World} (hr : Rn P (ev n l) ⟨some d, op, ty, pos, af, none⟩ w (.ok (.value v1) w1)) (h : Wl P ops q rest n ((d, v1) :: l) ds w1) :
    Wl P ops q (⟨some d, op, ty, pos, af, none⟩ :: rest) n l ds w := by
  refine ⟨wpList_plain rfl fun K hK => ?_⟩
  unfold Oper.wp
  rw [eval_A, hr.eq, Oper.upon_value, put_A]
  exact hK _ _ h.up
theorem s_app {s x : Operand} {t e : TypeId} {i : TypeInfo} {z : Value} {size bytes base k m c : Nat} {v0 : Value} {xs news : List Value} {bx ox : Nat} (ht : P.underlying t = some (.slice e)) (hi : P.info? e = some i) (hz : i.zero = some z)
    (hsize : i.size = size) (hby : i.bytes = bytes) (hzs : (cellsL z).length = size) (hsz : Nat.blt 0 size = true) (hs : ev n l s = v0) (own : w.ownsRow base e size v0 k xs) (hx : ev n l x = .slice (some ⟨bx, ox, none⟩) m c)
    (hnews : ∀ j u, news[j]? = some u → w.cell? ⟨bx, ox + j, none⟩ = some u) (hl : news.length = m * size) (h1 : news.all Value.oneCell' = true) (hb : (k + m) * bytes ≤ 140737488355328) (hb' : k + m ≤ 9223372036854775807) (hbase : base ≤ w.heap.size)
    (h : ∀ v w1, Ap w base e size v0 (k + m) (xs ++ news) v w1 → Wl P ops q rest n ((d, v) :: l) ds w1) :
    Wl P ops q (⟨some d, .call ⟨.builtin .append, #[s, x], #[t, t]⟩, ty, pos, af, none⟩ :: rest) n l ds w := by
  obtain ⟨v, w1, hr, ha⟩ := run_app (P := P) (ty := ty) (c := c) (ad := ⟨bx, ox, none⟩) ht hi hz hsize hby hzs hsz own (fun j u hj => by rw [addr_add]; exact hnews j u hj) hl h1 hb hb' hbase
  exact s_go (r_app (e := e) hs hx hr) (h v w1 ha)
theorem blk_cells {b : Nat} {cs : List Value} {T : TypeId} {fz : Nat × Nat} (h : w.heap[b]? = some (.cells cs.toArray T fz)) : ∀ j u, cs[j]? = some u → w.cell? ⟨b, 0 + j, none⟩ = some u :=
  fun j u hj => cell_of_blk h (by simpa using hj)
/-- Any operation by the kit's own law at a list of operations. -/
theorem s_kit {L : List Oper} (h : wpList P ops q.den L (A n l ds) w) : Wl P ops q L n l ds w := ⟨h⟩

/-! ### guarded operations -/
def ylk (ops : List Oper) (n : Nat) (l : Slots) (j : Nat) : Option Value :=
  match ops[j]? with
  | some o => (match o.dst with | some d => (bif Nat.blt d n then some (look l d) else none) | none => none)
  | none => none
theorem fr_get (n : Nat) (l : Slots) (t : Nat) : (fr n l)[t]? = bif Nat.blt t n then some (look l t) else none := by
  unfold fr
  by_cases h : t < n
  · have hb : Nat.blt t n = true := by simpa [Nat.blt_eq] using h
    simp [h, hb]
  · have hb : Nat.blt t n = false := by
      rw [Bool.eq_false_iff]; intro hh; exact h (by simpa [Nat.blt_eq] using hh)
    simp [h, hb]
theorem ylk_eq {j : Nat} {b : Bool} (h : ylk os n l j = some (.bool b)) : yielded os.toArray (fr n l) j = some b := by
  unfold ylk at h
  unfold yielded
  cases ho : os[j]? with
  | none => simp [ho] at h
  | some o =>
    cases hd : o.dst with
    | none => simp [ho, hd] at h
    | some d' =>
      simp only [ho, hd] at h
      simp [List.getElem?_toArray, ho, hd, fr_get, h]
/-- A guarded operation that runs; that doesn't. -/
theorem s_gy {j : Nat} {b : Bool} (hy : ylk os n l j = some (.bool b))
    (h : ∀ K : Act → World → Prop, (∀ a w, wpList P os.toArray q.den rest a w → K a w) → Oper.wp P ⟨dst, op, ty, pos, af, some (j, b)⟩ (A n l ds) w K q.den) : Wl P os.toArray q (⟨dst, op, ty, pos, af, some (j, b)⟩ :: rest) n l ds w := by
  refine ⟨wpList_step fun K hK => ?_⟩
  rw [if_pos (by simp [Region.wanted, A, ylk_eq hy])]
  exact h K hK
theorem s_gn {j : Nat} {b b' : Bool} (hy : ylk os n l j = some (.bool b')) (hb : (b' == b) = false) (h : Wl P os.toArray q rest n ((d, undef) :: l) ds w) :
    Wl P os.toArray q (⟨some d, op, ty, pos, af, some (j, b)⟩ :: rest) n l ds w := by
  refine ⟨wpList_step fun K hK => ?_⟩
  have hb2 : ¬ b' = b := by simpa using hb
  rw [if_neg (by simp [Region.wanted, A, ylk_eq hy, hb2]), put_A]
  exact hK _ _ h.up
theorem s_gv {j : Nat} {b : Bool} (hy : ylk os n l j = some (.bool b)) (hr : Rn P (ev n l) ⟨some d, op, ty, pos, af, some (j, b)⟩ w (.ok (.value v) w)) (h : Wl P os.toArray q rest n ((d, v) :: l) ds w) :
    Wl P os.toArray q (⟨some d, op, ty, pos, af, some (j, b)⟩ :: rest) n l ds w := by
  refine s_gy hy fun K hK => ?_
  unfold Oper.wp
  rw [eval_A, hr.eq, Oper.upon_value, put_A]
  exact hK _ _ h.up
theorem s_gcall {j : Nat} {b : Bool} {f : FuncId} {c : Operand} {xs : List Operand} {vs us zs : List Value} {ats : Array TypeId} {R : Value → World → Prop} (hy : ylk os n l j = some (.bool b)) (hf : callOk P f = true) (hcv : ev n l c = .func (.func f) us.toArray zs.toArray) (hxs : evs (ev n l) xs = some vs)
    (hc : Ret P f (us ++ vs ++ zs) w R) (h : ∀ v w1, R v w1 → Wl P os.toArray q rest n ((d, v) :: l) ds w1) :
    Wl P os.toArray q (⟨some d, .call ⟨.value c, xs.toArray, ats⟩, ty, pos, af, some (j, b)⟩ :: rest) n l ds w := by
  refine s_gy hy fun K hK => ?_
  unfold Oper.wp
  rw [eval_A, (run_call hf hcv hxs).eq, Oper.upon_enter]
  refine Calls.mono hc ?_
  rintro e w1 ⟨v, rfl, hR⟩
  simp only [put_A]
  exact hK _ _ (h _ _ hR).up
/-- A guard that is not decided: both ways; a bool in a slot, when it is known. -/
theorem s_split {L : List Oper} (t : Nat) {b : Bool} (hy : look l t = .bool b) (ht : b = true → Wl P ops q L n ((t, .bool true) :: l) ds w) (hf : b = false → Wl P ops q L n ((t, .bool false) :: l) ds w) : Wl P ops q L n l ds w := by
  cases b with
  | true => exact ⟨by rw [A_pre hy]; exact (ht rfl).up⟩
  | false => exact ⟨by rw [A_pre hy]; exact (hf rfl).up⟩
theorem s_set {L : List Oper} (t : Nat) {b : Bool} (b' : Bool) (hy : look l t = .bool b) (hb : b = b') (h : Wl P ops q L n ((t, .bool b') :: l) ds w) : Wl P ops q L n l ds w := by
  subst hb; exact ⟨by rw [A_pre hy]; exact h.up⟩
/-- A slot's value, said otherwise. -/
theorem s_re {L : List Oper} (t : Nat) {v v' : Value} (hy : look l t = v) (hv : v = v') (h : Wl P ops q L n ((t, v') :: l) ds w) : Wl P ops q L n l ds w := by
  subst hv; exact ⟨by rw [A_pre hy]; exact h.up⟩
theorem k_re {c : Code} (t : Nat) {v v' : Value} (hy : look l t = v) (hv : v = v') (h : Wc P c q n ((t, v') :: l) ds w) : Wc P c q n l ds w := by
  subst hv; exact ⟨by rw [A_pre hy]; exact h.up⟩
theorem r_pt {c x y : Operand} (hc : ρ c = .bool true) (hx : mvv (ρ x) = some v) : Rn P ρ ⟨dst, .pick c x y, ty, pos, af, g⟩ w (.ok (.value v) w) := by
  refine ⟨?_⟩; simp only [execOp, hc, asBool, Sem.run_bind, Sem.run_pure, Result.andThen_ok, if_true, mvv_eq hx]
theorem r_pf {c x y : Operand} (hc : ρ c = .bool false) (hy : mvv (ρ y) = some v) : Rn P ρ ⟨dst, .pick c x y, ty, pos, af, g⟩ w (.ok (.value v) w) := by
  refine ⟨?_⟩; simp only [execOp, hc, asBool, Sem.run_bind, Sem.run_pure, Result.andThen_ok, Bool.false_eq_true, if_false, mvv_eq hy]
/-- 'a || b', 'a && b', when the guard has been passed over by both ways at once. -/
theorem r_pk {c x y : Operand} {b : Bool} {u u' : Bool} (hc : ρ c = .bool b) (hx : ρ x = .bool u) (hy : ρ y = .bool u') : Rn P ρ ⟨dst, .pick c x y, ty, pos, af, g⟩ w (.ok (.value (.bool (if b then u else u'))) w) := by
  refine ⟨?_⟩; cases b <;> simp only [execOp, hc, hx, hy, asBool, Sem.run_bind, Sem.run_pure, Result.andThen_ok, Bool.false_eq_true, if_false, if_true]

/-! ### regions that draw their order, and only read or call what leaves old memory alone -/
structure Wq (P : Program) (ops : Array Oper) (C : World → Prop) (Qq : Act → Prop) (L : List Oper) (n : Nat) (l : Slots) (ds : List Deferred) : Prop where
  up : wpQuiet P ops C Qq L (A n l ds)
/-- What is asked behind such a region. -/
def Aft (P : Program) (q : Pst P) (w : World) (a : Act) : Prop := ∀ w', Kp No w w' → q.den .normal a w'
theorem k_q {i : Nat} (hm : P.follows .mixedOrders = true) (hB : Region.lexB .any os.toArray = true)
    (h : Wq P os.toArray (fun w' => Kp No w w') (Aft P q w) os n l ds) : Wc P (.region i os.toArray true) q n l ds w :=
  ⟨wp_region_quiet (C := fun w' => Kp No w w') hm hB ⟨rfl, rfl, rfl, Nat.le_refl _, fun _ _ _ => rfl⟩ (by have := h.up; unfold Aft at this; simpa using this)⟩
variable {C : World → Prop} {Qq : Act → Prop}
theorem q_nil (h : ∀ w', Kp No w w' → Po q .normal n l ds w') : Wq P ops C (Aft P q w) [] n l ds := ⟨fun w' hw => (h w' hw).up⟩
theorem q_v (hr : ∀ w, C w → Rn P (ev n l) ⟨some d, op, ty, pos, af, none⟩ w (.ok (.value v) w)) (h : Wq P ops C Qq rest n ((d, v) :: l) ds) :
    Wq P ops C Qq (⟨some d, op, ty, pos, af, none⟩ :: rest) n l ds := by
  refine ⟨?_⟩
  unfold wpQuiet
  rw [if_pos (by simp [Region.wanted])]
  refine ⟨v, fun w hw => ?_, by rw [put_A]; exact h.up⟩
  unfold Oper.quietAt
  rw [eval_A, (hr w hw).eq]
  exact ⟨rfl, rfl⟩
theorem q_call {f : FuncId} {c : Operand} {xs : List Operand} {vs us zs : List Value} {ats : Array TypeId} (hf : callOk P f = true) (hcv : ev n l c = .func (.func f) us.toArray zs.toArray) (hxs : evs (ev n l) xs = some vs)
    (hc : ∀ w, C w → Ret P f (us ++ vs ++ zs) w (fun u w1 => u = v ∧ C w1)) (h : Wq P ops C Qq rest n ((d, v) :: l) ds) :
    Wq P ops C Qq (⟨some d, .call ⟨.value c, xs.toArray, ats⟩, ty, pos, af, none⟩ :: rest) n l ds := by
  refine ⟨?_⟩
  unfold wpQuiet
  rw [if_pos (by simp [Region.wanted])]
  refine ⟨v, fun w hw => ?_, by rw [put_A]; exact h.up⟩
  unfold Oper.quietAt
  rw [eval_A, (run_call hf hcv hxs).eq]
  refine ⟨rfl, Calls.mono (hc w hw) ?_⟩
  rintro e w1 ⟨u, rfl, rfl, hC⟩
  exact ⟨rfl, hC⟩
theorem q_gv {j : Nat} {b : Bool} (hy : ylk os n l j = some (.bool b)) (hr : ∀ w, C w → Rn P (ev n l) ⟨some d, op, ty, pos, af, some (j, b)⟩ w (.ok (.value v) w)) (h : Wq P os.toArray C Qq rest n ((d, v) :: l) ds) :
    Wq P os.toArray C Qq (⟨some d, op, ty, pos, af, some (j, b)⟩ :: rest) n l ds := by
  refine ⟨?_⟩
  unfold wpQuiet
  rw [if_pos (by simp [Region.wanted, A, ylk_eq hy])]
  refine ⟨v, fun w hw => ?_, by rw [put_A]; exact h.up⟩
  unfold Oper.quietAt
  rw [eval_A, (hr w hw).eq]
  exact ⟨rfl, rfl⟩
theorem q_gn {j : Nat} {b b' : Bool} (hy : ylk os n l j = some (.bool b')) (hb : (b' == b) = false) (h : Wq P os.toArray C Qq rest n ((d, undef) :: l) ds) :
    Wq P os.toArray C Qq (⟨some d, op, ty, pos, af, some (j, b)⟩ :: rest) n l ds := by
  refine ⟨?_⟩
  unfold wpQuiet
  have hb2 : ¬ b' = b := by simpa using hb
  rw [if_neg (by simp [Region.wanted, A, ylk_eq hy, hb2]), put_A]
  exact h.up
theorem q_gcall {j : Nat} {b : Bool} {f : FuncId} {c : Operand} {xs : List Operand} {vs us zs : List Value} {ats : Array TypeId} (hy : ylk os n l j = some (.bool b)) (hf : callOk P f = true) (hcv : ev n l c = .func (.func f) us.toArray zs.toArray) (hxs : evs (ev n l) xs = some vs)
    (hc : ∀ w, C w → Ret P f (us ++ vs ++ zs) w (fun u w1 => u = v ∧ C w1)) (h : Wq P os.toArray C Qq rest n ((d, v) :: l) ds) :
    Wq P os.toArray C Qq (⟨some d, .call ⟨.value c, xs.toArray, ats⟩, ty, pos, af, some (j, b)⟩ :: rest) n l ds := by
  refine ⟨?_⟩
  unfold wpQuiet
  rw [if_pos (by simp [Region.wanted, A, ylk_eq hy])]
  refine ⟨v, fun w hw => ?_, by rw [put_A]; exact h.up⟩
  unfold Oper.quietAt
  rw [eval_A, (run_call hf hcv hxs).eq]
  refine ⟨rfl, Calls.mono (hc w hw) ?_⟩
  rintro e w1 ⟨u, rfl, rfl, hC⟩
  exact ⟨rfl, hC⟩
theorem q_set {L : List Oper} (t : Nat) {b : Bool} (b' : Bool) (hy : look l t = .bool b) (hb : b = b') (h : Wq P ops C Qq L n ((t, .bool b') :: l) ds) : Wq P ops C Qq L n l ds := by
  subst hb; exact ⟨by rw [A_pre hy]; exact h.up⟩
theorem q_split {L : List Oper} (t : Nat) {b : Bool} (hy : look l t = .bool b) (ht : b = true → Wq P ops C Qq L n ((t, .bool true) :: l) ds) (hf : b = false → Wq P ops C Qq L n ((t, .bool false) :: l) ds) : Wq P ops C Qq L n l ds := by
  cases b with
  | true => exact ⟨by rw [A_pre hy]; exact (ht rfl).up⟩
  | false => exact ⟨by rw [A_pre hy]; exact (hf rfl).up⟩
end
end Go.Proofs.YtlkipdfipaipbaaDoor.Fw
