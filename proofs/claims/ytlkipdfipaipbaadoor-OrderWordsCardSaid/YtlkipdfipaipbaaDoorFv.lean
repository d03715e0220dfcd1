/- Own walk lemmas over any program: empty rows, slices of strings that come in. -/
import Derived.Test.YtlkipdfipaipbaaDoorFu
import Derived.SliceStrings
namespace Go.Proofs.YtlkipdfipaipbaaDoor.Fw
open Go Go.RowKit
set_option linter.unusedSimpArgs false
set_option linter.unusedVariables false
section
variable {P : Program} {w : World} {ρ : Operand → Value} {dst : Option Tmp} {ty : TypeId} {pos : String} {af : Array Edge} {g : Option (Nat × Bool)} {v : Value}
/-- An empty row that is not nil. -/
theorem r_bs0 {t e : TypeId} {size : Nat} (ht : P.underlying t = some (.slice e)) (hs : szT P e = some size) :
    Rn P ρ ⟨dst, .buildSlice t 0 #[], ty, pos, af, g⟩ w (.ok (.value (.slice (some ⟨w.heap.size, 0, none⟩) 0 0)) (w.alloc (.cells ([] : List Value).toArray e))) := by
  refine ⟨run_v ?_⟩
  have h := run_new (P := P) (w := w) e []
  simp only [Instr.buildSlice, Sem.run_bind, und_some ht, Result.andThen_ok, run_szT hs, Nat.zero_mul, if_true, Sem.run_pure]
  simp [Instr.fill, Sem.run_bind, Result.andThen_ok, Sem.run_pure]
  have e0 : (Array.map (fun x => (default : Value)) (Array.range 0)) = ([] : List Value).toArray := by simp
  rw [e0, h]
  rfl
variable {ops : Array Oper} {rest : List Oper} {q : Pst P} {n : Nat} {l : Slots} {ds : List Deferred} {d : Nat} {op : Op}
theorem s_bs0 {t e : TypeId} {size : Nat} (ht : P.underlying t = some (.slice e)) (hs : szT P e = some size)
    (h : ∀ b w1, Nb w b [] e w1 → Wl P ops q rest n ((d, .slice (some ⟨b, 0, none⟩) 0 0) :: l) ds w1) :
    Wl P ops q (⟨some d, .buildSlice t 0 #[], ty, pos, af, none⟩ :: rest) n l ds w := s_nb (r := fun a => .slice (some a) 0 0) (r_bs0 ht hs) h
end
/-- A new empty row is one's own. -/
theorem own_empty {w w1 : World} {b base : Nat} {e size : Nat} (h : Nb w b [] e w1) (hb : base ≤ b) : w1.ownsRow base e size (.slice (some ⟨b, 0, none⟩) 0 0) 0 [] :=
  ⟨by simp, .inr ⟨b, 0, #[], rfl, hb, h.blk, Nat.le_refl _, by unfold maxLen; omega, by simp, by simp⟩⟩
/-- A slice of strings that comes in. -/
def IsStrs (w : World) (a : Option Addr) (len cap : Nat) (zs : List ByteArray) : Prop :=
  (a = none ∧ len = 0 ∧ cap = 0 ∧ zs = []) ∨
  ∃ x, a = some x ∧ len ≤ cap ∧ cap ≤ maxLen ∧ zs.length = cap ∧ (∀ i, i < zs.length → w.cell? (x.add i) = some (.string (zs.getD i ByteArray.empty))) ∧ ∀ s ∈ zs, s.size ≤ maxLen
theorem IsStrs.elems {w : World} {a : Option Addr} {len cap : Nat} {zs : List ByteArray} (h : IsStrs w a len cap zs) :
    ∃ ls : List ByteArray, ls.length = len ∧ len ≤ cap ∧ (∀ s ∈ ls, s.size ≤ maxLen) ∧ (len ≠ 0 → ∃ b o, a = some ⟨b, o, none⟩ ∧ ∀ i s, ls[i]? = some s → w.cell? ⟨b, o + i, none⟩ = some (.string s)) := by
  rcases h with ⟨rfl, rfl, rfl, rfl⟩ | ⟨⟨b, o, s⟩, rfl, hl, hm, hz, hc, hw⟩
  · exact ⟨[], rfl, Nat.le_refl _, fun n h => (by cases h), fun h => absurd rfl h⟩
  · refine ⟨zs.take len, by simp; omega, hl, fun n h => hw n (List.mem_of_mem_take h), fun h0 => ?_⟩
    have h1 := hc 0 (by omega)
    have hs : s = none := by simpa [Addr.add] using World.cell?_spot h1
    subst hs
    refine ⟨b, o, rfl, fun i n hi => ?_⟩
    rw [List.getElem?_take] at hi
    split at hi
    · have hlt : i < zs.length := (List.getElem?_eq_some_iff.1 hi).1
      have := hc i hlt
      rw [addr_add] at this
      rw [this, List.getD_eq_getElem?_getD, hi]; rfl
    · cases hi
/-- Strings, numbers, as cells. -/
def sc (ls : List ByteArray) : List Value := ls.map .string
theorem sc_get {ls : List ByteArray} {i : Nat} {s : ByteArray} (h : ls[i]? = some s) : (sc ls)[i]? = some (.string s) := by simp [sc, h]
theorem sc_len (ls : List ByteArray) : (sc ls).length = ls.length := by simp [sc]
theorem sc_one (ls : List ByteArray) : (sc ls).all Value.oneCell' = true := by simp [sc, Value.oneCell']
end Go.Proofs.YtlkipdfipaipbaaDoor.Fw
