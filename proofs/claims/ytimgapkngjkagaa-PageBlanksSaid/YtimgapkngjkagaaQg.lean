/- Pages: a slice of spans that comes in, opened. -/
import Derived.Test.YtimgapkngjkagaaQs
import Derived.Lib.SmallJoins
import Derived.OpenShut
import Derived.ProofKit
namespace Go.Proofs.Ytimgapkngjkagaa
open Go Go.RowKit Go.ChangeShapes
set_option linter.unusedVariables false
namespace Pg
def numV : Option Value → Int
  | some (.int _ n) => n
  | _ => 0
theorem spans_of_trod {H : Type} {enc : TypeId × Value → H} {P : Program} {w : World} {base : Nat} {held : Bool} {spare : Nat → Bool} {fuel : Nat} {t e : TypeId} {f0 f1 : Field} {v : Value} {x : DataW H × List MemPlace} (ht : P.underlying t = some (.slice e)) (he : P.underlying e = some (.struct #[f0, f1]))
    (h0 : P.underlying f0.type = some (.int .i64)) (h1 : P.underlying f1.type = some (.int .i64)) (c0 : P.cellsOf f0.type = 1) (c1 : P.cellsOf f1.type = 1) (o0 : f0.offset = 0) (o1 : f1.offset = 1) (hC : P.cellsOf e = 2)
    (h : DataW.trod enc P w base spare held fuel t [v] = some x) :
    ∃ a cap, ∃ ls : List (Int × Int), v = .slice a ls.length cap ∧ ls.length ≤ cap ∧ (a = none → cap = 0) ∧ Rs w a ls := by
  rcases DataW.trod_slice ht h with ⟨h2, _⟩ | ⟨⟨b, o, s⟩, len, cap, elems, rest, n, _, hcs, _, hb, hl, hm, hlen, hel, _⟩
  · simp at h2
    exact ⟨none, 0, [], h2, Nat.le_refl _, fun _ => rfl, .inl rfl⟩
  · simp at hcs
    have raw : ∀ i, i < len → ∃ p : Int × Int, w.cell? (((⟨b, o, s⟩ : Addr).add (i * 2)).add 0) = some (.int .i64 p.1) ∧ w.cell? (((⟨b, o, s⟩ : Addr).add (i * 2)).add 1) = some (.int .i64 p.2) := by
      intro i hi
      have hy := hel i hi
      obtain ⟨y, hy2⟩ : ∃ y, elems[i]? = some y := ⟨_, List.getElem?_eq_getElem (by omega)⟩
      rw [hy2, hC, Option.bind_eq_some_iff] at hy
      obtain ⟨cs, hcs', hty⟩ := hy
      obtain ⟨_, hl2, hcell⟩ := World.cells?_some hcs'
      obtain ⟨y0, y1, n', _, _, t0, t1⟩ := trod_struct2 he hty
      obtain ⟨v0, v1, rfl⟩ : ∃ v0 v1, cs = [v0, v1] := by
        match cs, hl2 with
        | [v0, v1], _ => exact ⟨v0, v1, rfl⟩
      rw [c0, o0] at t0
      rw [c1, o1] at t1
      obtain ⟨m0, e0, _, _⟩ := DataW.trod_int h0 t0
      obtain ⟨m1, e1, _, _⟩ := DataW.trod_int h1 t1
      simp at e0 e1
      subst e0 e1
      have k0 := hcell 0 (by decide)
      have k1 := hcell 1 (by decide)
      exact ⟨(m0, m1), k0, k1⟩
    have each : ∀ i, i < len → s = none ∧ ∃ p : Int × Int, w.cell? ⟨b, o + i * 2, none⟩ = some (.int .i64 p.1) ∧ w.cell? ⟨b, o + i * 2 + 1, none⟩ = some (.int .i64 p.2) := by
      intro i hi
      obtain ⟨q, hq, _⟩ := raw 0 (by omega)
      have hs : s = none := World.cell?_spot (a := ⟨b, o, s⟩) hq
      subst hs
      obtain ⟨p, k0, k1⟩ := raw i hi
      have ea : ∀ j q, ((⟨b, o, none⟩ : Addr).add j).add q = ⟨b, o + j + q, none⟩ := fun j q => by
        have e : ∀ b' o' i', (⟨b', o', none⟩ : Addr).add i' = ⟨b', o' + i', none⟩ := fun b' o' i' => by unfold Addr.add; split <;> simp_all
        rw [e, e]
      rw [ea] at k0 k1
      exact ⟨rfl, p, k0, k1⟩
    obtain ⟨ls, hls⟩ : ∃ ls : List (Int × Int), ls = (List.range len).map fun i => (numV (w.cell? ⟨b, o + i * 2, none⟩), numV (w.cell? ⟨b, o + i * 2 + 1, none⟩)) := ⟨_, rfl⟩
    have hll : ls.length = len := by rw [hls]; simp
    refine ⟨some ⟨b, o, s⟩, cap, ls, by rw [hll]; exact hcs, by omega, (fun h => by cases h), ?_⟩
    by_cases hz : len = 0
    · exact .inl (List.eq_nil_of_length_eq_zero (by omega))
    · obtain ⟨rfl, p0, hp0, _⟩ := each 0 (by omega)
      obtain ⟨ob, hob⟩ := Fw.blk_of_cell hp0
      refine .inr ⟨b, o, rfl, Fw.lt_of_get hob, fun j p hj => ?_⟩
      have hjl := (List.getElem?_eq_some_iff.1 hj).1
      obtain ⟨_, q, hq0, hq1⟩ := each j (by omega)
      rw [hls, List.getElem?_map, List.getElem?_range (by omega)] at hj
      simp only [Option.map_some, Option.some.injEq, hq0, hq1, numV] at hj
      rw [← hj]
      exact ⟨hq0, hq1⟩
end Pg
end Go.Proofs.Ytimgapkngjkagaa
