/- Own walk lemmas over any program: appends that fit, clear, slices with three indexes, statements without a result. -/
import Derived.Test.YtlkipdfipaipbaaDoorFh
namespace Go.Proofs.YtlkipdfipaipbaaDoor.Fw
open Go Go.RowKit
set_option linter.unusedSimpArgs false
set_option linter.unusedVariables false
section
variable {P : Program} {w : World} {ρ : Operand → Value} {dst : Option Tmp} {ty : TypeId} {pos : String} {af : Array Edge} {g : Option (Nat × Bool)} {v : Value}
theorem r_sl3 {t e : TypeId} {x : Operand} {lo hi mx : Operand} {a : Option Addr} {n c size : Nat} {k1 k2 k3 : IntKind} {l h m : Int} (ht : P.underlying t = some (.slice e)) (hs : szT P e = some size) (hx : ρ x = .slice a n c)
    (hl : ρ lo = .int k1 l) (hh : ρ hi = .int k2 h) (hm : ρ mx = .int k3 m) (h0 : 0 ≤ l) (h1 : l ≤ h) (h2 : h ≤ m) (h3 : m ≤ c) :
    Rn P ρ ⟨dst, .slice t x (some lo) (some hi) (some mx), ty, pos, af, g⟩ w (.ok (.value (.slice (subA a l.toNat m.toNat size) (h.toNat - l.toNat) (m.toNat - l.toNat))) w) := by
  refine ⟨run_v ?_⟩
  have hb : ∀ (k : IntKind) (i : Int) (y : Nat) (cd : BoundsCode), 0 ≤ i → i ≤ y → (Instr.sliceBound (.int k i) y cd).run P w = .ok i.toNat w := by
    intro k i y cd a b
    simp [Instr.sliceBound, asIntOf, a, b, Sem.run_bind, Sem.run_pure, Result.andThen_ok]
  simp only [Option.map_some, hx, hl, hh, hm, Instr.sliceAt, Sem.run_bind, und_some ht, Result.andThen_ok]
  simp only [Instr.slice, Sem.run_bind, und_some ht, Result.andThen_ok, Instr.sliceBounds, Option.isSome_some, if_true]
  rw [hb _ _ _ _ (by omega) h3]
  simp only [Result.andThen_ok]
  rw [hb _ _ _ _ (by omega) (by omega)]
  simp only [Result.andThen_ok]
  rw [hb _ _ _ _ (by omega) (by omega)]
  simp only [Result.andThen_ok, Sem.run_pure, run_szT hs, subA]
/-- A slice's part, its address, length and room said by the caller. -/
theorem r_slx {t e : TypeId} {x : Operand} {lo hi : Option Operand} {a a' : Option Addr} {n c size n' c' : Nat} {l h : Int} (ht : P.underlying t = some (.slice e)) (hs : szT P e = some size) (hx : ρ x = .slice a n c)
    (hl : bnd 0 (lo.map ρ) = some l) (hh : bnd n (hi.map ρ) = some h) (h0 : 0 ≤ l) (h1 : l ≤ h) (h2 : h ≤ c) (h3 : n ≤ c) (ha : subA a l.toNat c size = a') (hn : h.toNat - l.toNat = n') (hc : c - l.toNat = c') :
    Rn P ρ ⟨dst, .slice t x lo hi none, ty, pos, af, g⟩ w (.ok (.value (.slice a' n' c')) w) := by
  subst ha hn hc; exact r_sls ht hs hx hl hh h0 h1 h2 h3
theorem subA_at {gb o l c size : Nat} (h : l < c) : subA (some ⟨gb, o, none⟩) l c size = some ⟨gb, o + l * size, none⟩ := by
  unfold subA; rw [if_neg (by omega)]; simp [addr_add]
theorem subA_0 {a : Option Addr} {c size : Nat} : subA a 0 c size = a := by
  unfold subA; split
  · rfl
  · cases a <;> simp [Addr.add]
theorem wf_i64 {n : Int} (h : (Lit.int .i64 n).wf = true) : -9223372036854775808 ≤ n ∧ n ≤ 9223372036854775807 := by
  simp [Lit.wf, IntKind.min, IntKind.max, IntKind.signed, IntKind.bits] at h; omega
theorem wf_u8 {n : Int} (h : (Lit.int .u8 n).wf = true) : 0 ≤ n ∧ n < 256 := by
  simp [Lit.wf, IntKind.min, IntKind.max, IntKind.signed, IntKind.bits] at h; omega
theorem wf_u16 {n : Int} (h : (Lit.int .u16 n).wf = true) : 0 ≤ n ∧ n < 65536 := by
  simp [Lit.wf, IntKind.min, IntKind.max, IntKind.signed, IntKind.bits] at h; omega
theorem wf_str {s : ByteArray} (h : s.size ≤ maxLen) : s.size ≤ 9223372036854775807 := by unfold maxLen at h; omega
/-- What a slice's cells read as. -/
def Src (w : World) (a : Option Addr) (news : List Value) : Prop := news = [] ∨ ∃ b o, a = some ⟨b, o, none⟩ ∧ ∀ j u, news[j]? = some u → w.cell? ⟨b, o + j, none⟩ = some u
theorem run_firstCells {a : Option Addr} {size m c : Nat} {news : List Value} (hl : news.length = m * size) (h : Src w a news) : (Builtin.firstCells size m (.slice a m c)).run P w = .ok news.toArray w := by
  rcases h with rfl | ⟨b, o, rfl, h⟩
  · have h0 : m * size = 0 := by simpa using hl.symm
    cases a with
    | none => simp [Builtin.firstCells, Sem.run, pure]
    | some a => simp [Builtin.firstCells, h0, loadCells, loadCellsFrom, Sem.run, pure]
  · simp only [Builtin.firstCells, loadCells]
    rw [run_loadCells (m * size) 0 #[] news hl (fun j hj => by
      rw [Nat.add_zero, List.getElem?_eq_getElem (by omega)]
      exact h j _ (List.getElem?_eq_getElem (by omega)))]
    simp
/-- An append that fits: into the cells behind. -/
theorem r_apf {s x : Operand} {t e : TypeId} {size gb o k c m c' : Nat} {a' : Option Addr} {cs news : List Value} {T : TypeId} (ht : P.underlying t = some (.slice e)) (hsz : szT P e = some size) (hs : ρ s = .slice (some ⟨gb, o, none⟩) k c) (hx : ρ x = .slice a' m c')
    (hfit : k + m ≤ c) (hl : news.length = m * size) (hsrc : Src w a' news) (h1 : news.all Value.oneCell' = true) (hb : w.heap[gb]? = some (.cells cs.toArray T (0, 0))) (ho : o + k * size + news.length ≤ cs.length) :
    Rn P ρ ⟨dst, .call ⟨.builtin .append, #[s, x], #[t, t]⟩, ty, pos, af, g⟩ w (.ok (.value (.slice (some ⟨gb, o, none⟩) (k + m) c)) (w.setRow gb (setAt cs (o + k * size) news).toArray)) := by
  refine run_bi (xs := [s, x]) (Builtin.append_ #[t, t] ty #[ρ s, ρ x]) (fun cn args e => by subst e; rfl) ?_
  rw [hs, hx]
  have hz : (underlying t).run P w = .ok (.slice e) w := und_some ht
  have hst := run_storeCells_at (P := P) gb (o + k * size) T news 0 cs.toArray w hb (by simpa using ho) (by simpa using h1)
  simp only [Nat.add_zero] at hst
  rw [setAt_eq news (o + k * size) cs ho]
  simp only [Builtin.append_, List.getElem?_toArray, List.getElem?_cons_zero, List.getElem?_cons_succ, Sem.run_bind, hz, Result.andThen_ok, run_szT hsz, Sem.run_pure, Bool.false_eq_true, if_false, Builtin.lenOf, hfit, if_true, Bool.not_false]
  rw [run_firstCells hl hsrc]
  simp only [Result.andThen_ok, addr_add]
  rw [show (storeCells ⟨gb, o + k * size, none⟩ news.toArray.toList).run P w = _ from hst]
  simp
/-- Zeros of so many things. -/
def zcs (zs : List Value) (n : Nat) : List Value := (Builtin.zeroCells zs.toArray n).toList
theorem zcs_len (zs : List Value) (n : Nat) : (zcs zs n).length = n * zs.length := by simp [zcs, Builtin.zeroCells]
/-- clear: zeros. -/
theorem r_clr {x : Operand} {t e : TypeId} {gb o n c : Nat} {cs zs : List Value} {T : TypeId} {ats : Array TypeId} (hat : ats = #[t]) (ht : P.underlying t = some (.slice e)) (hx : ρ x = .slice (some ⟨gb, o, none⟩) n c) (hn : n ≠ 0) (hz : zeroL P e = some zs)
    (h1 : zs.all Value.oneCell' = true) (hb : w.heap[gb]? = some (.cells cs.toArray T (0, 0))) (ho : o + n * zs.length ≤ cs.length) :
    Rn P ρ ⟨dst, .call ⟨.builtin .clear, #[x], ats⟩, ty, pos, af, g⟩ w (.ok (.value (.tuple #[])) (w.setRow gb (setAt cs o (zcs zs n)).toArray)) := by
  subst hat
  obtain ⟨zv, hz1, hz2⟩ := run_zero (w := w) hz
  have hzc : zcs zs n = (Builtin.zeroCells zv.cells n).toList := by rw [cells_toArray, hz2]; rfl
  rw [hzc]
  refine run_bi (xs := [x]) (Builtin.clear_ #[t] ty #[ρ x]) (fun cn args e => by subst e; rfl) ?_
  rw [hx]
  have hlen : (Builtin.zeroCells zv.cells n).toList.length = n * zs.length := by simp [Builtin.zeroCells, cells_toArray, hz2]
  have hall : ∀ u ∈ (Builtin.zeroCells zv.cells n).toList, u.oneCell' = true := by
    intro u hu
    simp only [Builtin.zeroCells, Array.toList_map, List.mem_map, cells_toArray, hz2] at hu
    obtain ⟨i, hi, rfl⟩ := hu
    have hne : zs.length ≠ 0 := by
      intro h0
      simp [h0] at hi
    have hlt : i % zs.length < zs.length := Nat.mod_lt _ (by omega)
    have : zs.toArray[i % zs.toArray.size]! = zs[i % zs.length] := by
      simp [List.getElem!_eq_getElem?_getD, hlt]
    rw [this]
    exact List.all_eq_true.1 h1 _ (List.getElem_mem hlt)
  have hst := run_storeCells_at (P := P) gb o T (Builtin.zeroCells zv.cells n).toList 0 cs.toArray w hb (by simp only [Nat.add_zero, hlen, List.size_toArray]; exact ho) hall
  simp only [Nat.add_zero] at hst
  rw [setAt_eq _ o cs (by rw [hlen]; exact ho)]
  cases n with
  | zero => exact absurd rfl hn
  | succ n =>
    simp only [Builtin.clear_, List.getElem?_toArray, List.getElem?_cons_zero, Sem.run_bind, und_some ht, Result.andThen_ok, hz1, Sem.run_pure]
    rw [show (storeCells ⟨gb, o, none⟩ (Builtin.zeroCells zv.cells (n + 1)).toList).run P w = _ from hst]
    rfl
variable {ops : Array Oper} {rest : List Oper} {q : Pst P} {n : Nat} {l : Slots} {ds : List Deferred} {d : Nat} {op : Op}
/-- A step that writes one block: its value in a slot, or in none. -/
theorem s_wr {gb : Nat} {cs cs' : List Value} {T : TypeId} (hb : w.heap[gb]? = some (.cells cs.toArray T (0, 0))) (hr : Rn P (ev n l) ⟨some d, op, ty, pos, af, none⟩ w (.ok (.value v) (w.setRow gb cs'.toArray)))
    (h : ∀ w1, Sb w gb cs' T w1 → Wl P ops q rest n ((d, v) :: l) ds w1) : Wl P ops q (⟨some d, op, ty, pos, af, none⟩ :: rest) n l ds w := by
  refine ⟨wpList_plain rfl fun K hK => ?_⟩
  unfold Oper.wp
  rw [eval_A, hr.eq, Oper.upon_value, put_A]
  exact hK _ _ (h _ (sb_setRow hb)).up
theorem s_wr0 {gb : Nat} {cs cs' : List Value} {T : TypeId} (hb : w.heap[gb]? = some (.cells cs.toArray T (0, 0))) (hr : Rn P (ev n l) ⟨none, op, ty, pos, af, none⟩ w (.ok (.value v) (w.setRow gb cs'.toArray)))
    (h : ∀ w1, Sb w gb cs' T w1 → Wl P ops q rest n l ds w1) : Wl P ops q (⟨none, op, ty, pos, af, none⟩ :: rest) n l ds w := by
  refine ⟨wpList_plain rfl fun K hK => ?_⟩
  unfold Oper.wp
  rw [eval_A, hr.eq, Oper.upon_value, put_A_none]
  exact hK _ _ (h _ (sb_setRow hb)).up
variable {S : World → Prop} {z i : Nat} {restO : List (Nat × Bool × Oper)}
theorem h_wr {gb : Nat} {cs cs' : List Value} {T : TypeId} (hb : w.heap[gb]? = some (.cells cs.toArray T (0, 0))) (hr : Rn P (ev n l) ⟨some d, op, ty, pos, af, none⟩ w (.ok (.value v) (w.setRow gb cs'.toArray)))
    (h : ∀ w1, Sb w gb cs' T w1 → (i ≠ z → S w1) ∧ Wo P ops q S z restO n ((d, v) :: l) ds w1) : Wo P ops q S z ((i, true, ⟨some d, op, ty, pos, af, none⟩) :: restO) n l ds w := by
  refine ⟨?_⟩
  unfold wpO
  rw [if_pos (by simp [Region.wanted])]
  unfold Oper.wp
  rw [eval_A, hr.eq, Oper.upon_value, put_A]
  have := h _ (sb_setRow hb)
  exact ⟨this.1, this.2.up⟩
end
end Go.Proofs.YtlkipdfipaipbaaDoor.Fw
