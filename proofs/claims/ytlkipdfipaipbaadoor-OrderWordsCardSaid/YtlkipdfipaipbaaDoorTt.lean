/- Tokens: a row of tokens that is read. -/
import Derived.Test.YtlkipdfipaipbaaDoorTa
namespace Go.Proofs.YtlkipdfipaipbaaDoor
open Go Go.RowKit Fw
set_option linter.unusedVariables false
namespace Tk
/-- A row of tokens that is read. -/
def RdT (w : World) (a : Option Addr) (ts : List T3) : Prop := ts = [] ∨ ∃ b o, a = some ⟨b, o, none⟩ ∧ ∀ j u, (tc ts)[j]? = some u → w.cell? ⟨b, o + j, none⟩ = some u
theorem RdT.kp {S : Nat → Prop} {w w' : World} {a : Option Addr} {ts : List T3} (h : RdT w a ts) (k : Kp S w w') (hS : ∀ ad, a = some ad → ¬ S ad.block) : RdT w' a ts := by
  rcases h with h | ⟨b, o, rfl, h⟩
  · exact .inl h
  · exact .inr ⟨b, o, rfl, fun j s hj => k.cell (h j s hj) (show ¬ S b from hS ⟨b, o, none⟩ rfl)⟩
theorem RdT.kp0 {w w' : World} {a : Option Addr} {ts : List T3} (h : RdT w a ts) (k : Kp No w w') : RdT w' a ts := h.kp k fun _ _ => id
theorem RdT.at {w : World} {a : Option Addr} {ts : List T3} (h : RdT w a ts) {i : Nat} {t : T3} (ht : ts[i]? = some t) :
    ∃ b o, a = some ⟨b, o, none⟩ ∧ ∀ w', Kp No w w' → ∀ j, j < 3 → w'.cell? ⟨b, o + (i : Int).toNat * 3 + j, none⟩ = [Value.int .i64 t.1, .int .i64 t.2.1, .int .i64 t.2.2][j]? := by
  rcases h with h | ⟨b, o, rfl, h⟩
  · subst h; simp at ht
  · obtain ⟨h1, h2, h3⟩ := tc_get ht
    refine ⟨b, o, rfl, fun w' k j hj => ?_⟩
    have e : o + (i : Int).toNat * 3 + j = o + (i * 3 + j) := by simp; omega
    rw [e]
    match j, hj with
    | 0, _ => exact k.cell0 (h _ _ h1)
    | 1, _ => exact k.cell0 (h _ _ h2)
    | 2, _ => exact k.cell0 (h _ _ h3)
theorem RdT.of {w : World} {base c : Nat} {T : TypeId} {a : Option Addr} {ts : List T3} (h : w.ownsRow base T 3 (.slice a ts.length c) ts.length (tc ts)) : RdT w a ts := by
  obtain ⟨a', c', e, hc, ha, hr⟩ := own_read h
  simp only [Value.slice.injEq, true_and] at e
  obtain ⟨rfl, rfl⟩ := e
  cases a with
  | none => exact .inl (List.length_eq_zero_iff.1 (ha rfl))
  | some ad =>
    obtain ⟨g, rfl, _, _, hcell⟩ := hr _ rfl
    exact .inr ⟨g, 0, rfl, hcell⟩
end Tk
end Go.Proofs.YtlkipdfipaipbaaDoor
