/- Package-level tables that are laid: an array of texts, opened. -/
import Derived.Test.YtlkipdfipaipbaaDoorFe
import Derived.OpenShut
import Derived.LaidMore
namespace Go.Proofs.YtlkipdfipaipbaaDoor.Fw
open Go Go.RowKit
/-- An array of texts that reads as these: its cells. -/
theorem arr_strings {H : Type} {enc : TypeId × Value → H} {P : Program} {w : World} {base : Nat} {spare : Nat → Bool} {held : Bool} {fuel n : Nat} {t e : TypeId} {cs : List Value} {ls : List (List UInt8)} {p : List MemPlace}
    (ht : P.underlying t = some (.array n e)) (he : P.underlying e = some TypeDesc.string) (hc : P.cellsOf e = 1) (h : DataW.trod enc P w base spare held fuel t cs = some (.agg (ls.map fun l : List UInt8 => DataW.lit (Lit.string l)), p)) :
    ∀ (i : Nat) (l : List UInt8), ls[i]? = some l → cs[i]? = some (Value.string ⟨l.toArray⟩) := by
  intro i l hi
  obtain ⟨xs, m, rfl, hx, hlen, hn, hel⟩ := DataW.trod_array ht h
  simp only [Prod.mk.injEq, DataW.agg.injEq] at hx
  have hxl : xs.length = ls.length := by have := congrArg List.length hx.1; simpa using this.symm
  have hil : i < ls.length := (List.getElem?_eq_some_iff.1 hi).1
  obtain ⟨x, hxi⟩ : ∃ x, xs[i]? = some x := ⟨_, List.getElem?_eq_getElem (by omega)⟩
  have h1 := hel i (by omega)
  rw [hxi, hc, Nat.mul_one] at h1
  obtain ⟨s, hs, hx2, _⟩ := DataW.trod_string he h1
  have h2 : x.1 = .lit (.string l) := by
    have := congrArg (fun z => z[i]?) hx.1
    simp only [List.getElem?_map, hi, hxi, Option.map_some, Option.some.injEq] at this
    exact this.symm
  rw [hx2] at h2
  simp only [DataW.lit.injEq, Lit.string.injEq] at h2
  have h3 : cs[i]? = some (.string s) := by
    have := congrArg (fun z => z[0]?) hs
    simpa [List.getElem?_take, List.getElem?_drop] using this
  rw [h3, ← h2]
end Go.Proofs.YtlkipdfipaipbaaDoor.Fw
