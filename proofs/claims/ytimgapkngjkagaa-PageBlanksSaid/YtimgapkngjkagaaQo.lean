/- An array of three small numbers that comes in, opened. -/
import Derived.Test.YtimgapkngjkagaaQs
import Derived.Lib.SmallJoins
import Derived.OpenShut
import Derived.ProofKit
namespace Go.Proofs.Ytimgapkngjkagaa
open Go Go.RowKit
namespace Pg
theorem open_arr3 {H : Type} {enc : TypeId × Value → H} {P : Program} {w : World} {base : Nat} {held : Bool} {spare : Nat → Bool} {r : Reach} {b0 : Nat} {t e : TypeId} {k : IntKind} {v : Value} {d : DataW H} {p : List MemPlace} (ht : P.underlying t = some (.array 3 e)) (he : P.underlying e = some (.int k)) (hce : P.cellsOf e = 1) (hC : P.cellsOf t = 3)
    (hv : Value.okWide P w r b0 t v) (h : DataW.Trod enc P w base spare held t v d p) : ∃ n0 n1 n2 : Int, v = .agg #[.int k n0, .int k n1, .int k n2] ∧ (Lit.int k n0).wf = true ∧ (Lit.int k n1).wf = true ∧ (Lit.int k n2).wf = true := by
  simp only [Value.okWide, ht] at hv
  obtain ⟨cs, rfl, hsz, _⟩ := hv
  obtain ⟨c0, c1, c2, rfl⟩ := Joins.array3 (hsz.trans hC)
  obtain ⟨fuel, hf⟩ := h
  obtain ⟨xs, m, _, _, _, hx, hi⟩ := DataW.trod_array ht hf
  have h0 := hi 0 (by decide)
  have h1 := hi 1 (by decide)
  have h2 := hi 2 (by decide)
  rw [hce] at h0 h1 h2
  obtain ⟨y0, hy0⟩ : ∃ y, xs[0]? = some y := ⟨_, List.getElem?_eq_getElem (by omega)⟩
  obtain ⟨y1, hy1⟩ : ∃ y, xs[1]? = some y := ⟨_, List.getElem?_eq_getElem (by omega)⟩
  obtain ⟨y2, hy2⟩ : ∃ y, xs[2]? = some y := ⟨_, List.getElem?_eq_getElem (by omega)⟩
  rw [hy0] at h0
  rw [hy1] at h1
  rw [hy2] at h2
  obtain ⟨n0, e0, _, w0⟩ := DataW.trod_int he h0
  obtain ⟨n1, e1, _, w1⟩ := DataW.trod_int he h1
  obtain ⟨n2, e2, _, w2⟩ := DataW.trod_int he h2
  simp [Value.cells] at e0 e1 e2
  subst e0 e1 e2
  exact ⟨n0, n1, n2, rfl, w0, w1, w2⟩
end Pg
end Go.Proofs.Ytimgapkngjkagaa
