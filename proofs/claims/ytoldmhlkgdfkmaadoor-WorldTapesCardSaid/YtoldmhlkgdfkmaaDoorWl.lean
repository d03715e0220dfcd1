/- Worlds: what the laid tables and errors give a walk; a world that has them; a struct of an int and ints, opened. -/
import Derived.Test.YtoldmhlkgdfkmaaDoorRows
import Derived.Test.YtoldmhlkgdfkmaaDoorWw
import Derived.Lib.SmallJoins
import Derived.OpenShut
import Derived.LaidMore
import Derived.ProofKit
import Derived.Stop.Joined
import Derived.Lay
namespace Go.Proofs.YtoldmhlkgdfkmaaDoor
open Go.ChangeShapes Go.WideShapes Go.ChangeAt Go.RowKit
set_option linter.unusedVariables false
namespace Wo
theorem trod_ifc {H : Type} {enc : TypeId × Value → H} {P : Program} {w : World} {base : Nat} {spare : Nat → Bool} {fuel : Nat} {t : TypeId} {cs : List Value} {nm : String} {d : DataW H} {p : List MemPlace} {ms : Array (String × TypeId)} (ht : P.underlying t = some (.interface ms))
    (h : DataW.trod enc P w base spare false fuel t cs = some (.iface nm d, p)) : ∃ u v, cs = [.iface u v] := by
  cases fuel with
  | zero => simp [DataW.trod] at h
  | succ n =>
    unfold DataW.trod at h
    rw [ht] at h
    split at h <;> simp_all
/-- A slice of ints within a struct that comes in. -/
theorem ints_of_trod {H : Type} {enc : TypeId × Value → H} {P : Program} {w : World} {base : Nat} {held : Bool} {fuel : Nat} {t e : TypeId} {v : Value} {x : DataW H × List MemPlace} (ht : P.underlying t = some (.slice e)) (he : P.underlying e = some (.int .i64)) (hc : P.cellsOf e = 1)
    (h : DataW.trod enc P w base (fun _ => true) held fuel t [v] = some x) :
    ∃ a len cap ls, v = .slice a len cap ∧ ls.length = len ∧ len ≤ cap ∧ Ri w a ls ∧ ∀ n ∈ ls, Nu.I64 n := by
  obtain ⟨a, len, cap, zs, rfl, g⟩ : ∃ a len cap zs, v = .slice a len cap ∧ Fw.IsInts .i64 w a len cap zs := by
    rcases open_ints ht he hc h with ⟨hcs, _⟩ | ⟨x, l, c, zs, hcs, _, hl, hm, hz, _, hcell, hwz⟩
    · simp at hcs
      exact ⟨none, 0, 0, [], hcs, .inl ⟨rfl, rfl, rfl, rfl⟩⟩
    · simp at hcs
      exact ⟨some x, l, c, zs, hcs, .inr ⟨_, rfl, hl, hm, by simpa using hz, hcell, hwz⟩⟩
  obtain ⟨ls, h1, h2, h3, h4⟩ := g.elems
  refine ⟨a, len, cap, ls, rfl, h1, h2, ?_, fun n hn => Fw.wf_i64 (h3 n hn)⟩
  by_cases h0 : len = 0
  · subst h0
    exact .inl (List.eq_nil_of_length_eq_zero h1)
  · obtain ⟨b, o, rfl, hcell⟩ := h4 h0
    obtain ⟨y, hy⟩ : ∃ y, ls[0]? = some y := ⟨_, List.getElem?_eq_getElem (by omega)⟩
    obtain ⟨ob, hob⟩ := Fw.blk_of_cell (hcell 0 y hy)
    exact .inr ⟨b, o, rfl, Fw.lt_of_get hob, hcell⟩
def laid : List (String × DataW Unit) := [("math/bits.deBruijn32tab", Rows.laid_math_bits_deBruijn32tab), ("math/bits.deBruijn64tab", Rows.laid_math_bits_deBruijn64tab), ("internal/strconv.uint64pow10", Rows.laid_internal_strconv_uint64pow10), ("unicode/utf8.acceptRanges", Rows.laid_unicode_utf8_acceptRanges), ("strconv.ErrRange", Rows.laid_strconv_ErrRange), ("strconv.ErrSyntax", Rows.laid_strconv_ErrSyntax), ("unicode/utf8.first", Rows.laid_unicode_utf8_first)]
theorem gRng : Tryd.prog.globalNamed "strconv.ErrRange" = some 1 := by kernel_rfl
theorem gSyn : Tryd.prog.globalNamed "strconv.ErrSyntax" = some 0 := by kernel_rfl
theorem gPow : Tryd.prog.globalNamed "internal/strconv.uint64pow10" = some 2 := by kernel_rfl
theorem tRng : (Tryd.prog.globals[1]?).map (·.type) = some 65 := by kernel_rfl
theorem tSyn : (Tryd.prog.globals[0]?).map (·.type) = some 65 := by kernel_rfl
theorem tPow : (Tryd.prog.globals[2]?).map (·.type) = some 107 := by kernel_rfl
theorem glob_of_laid {W : World} (h : laidMetH Tryd.prog laid W) : Lb.Glob W := by
  rw [MakeChecks.laidMetH_plain _ _ _ (by kernel_rfl)] at h
  obtain ⟨ps, ⟨_, _, _, _, _, _, _, _, _, _, ⟨_, _, _, _, _, _, _, _, _, _, ⟨g2, t2, cs2, f2, p2, q2, hg2, ht2, hv2, hd2, ⟨_, _, _, _, _, _, _, _, _, _, ⟨g4, t4, cs4, f4, p4, q4, hg4, ht4, hv4, hd4, ⟨g5, t5, cs5, f5, p5, q5, hg5, ht5, hv5, hd5, _⟩, _⟩, _⟩, _⟩, _⟩, _⟩, _, _⟩ := h
  obtain rfl := Option.some.inj (gPow.symm.trans hg2)
  obtain rfl := Option.some.inj (gRng.symm.trans hg4)
  obtain rfl := Option.some.inj (gSyn.symm.trans hg5)
  obtain rfl := Option.some.inj (tPow.symm.trans ht2)
  obtain rfl := Option.some.inj (tRng.symm.trans ht4)
  obtain rfl := Option.some.inj (tSyn.symm.trans ht5)
  refine ⟨?_, ?_, ?_⟩
  · have := Lib.cells_of_tab (k := .u64) (zs := Lib.pow10Tab) Tryd.underlying107 Tryd.underlying90 (by kernel_rfl) (by kernel_rfl) hd2
    unfold Lib.TabIs
    rw [hv2, ← this]
  · obtain ⟨u, v, hc⟩ := trod_ifc Tryd.underlying65 hd5
    refine ⟨u, v, ?_⟩
    rw [World.var?_cell hg5 hv5 0, ← Array.getElem?_toList, hc]; rfl
  · obtain ⟨u, v, hc⟩ := trod_ifc Tryd.underlying65 hd4
    refine ⟨u, v, ?_⟩
    rw [World.var?_cell hg4 hv4 0, ← Array.getElem?_toList, hc]; rfl
/-- A world that has them. -/
theorem lay_met (os : Os) (args : Array Value) : laidMetH Tryd.prog laid ((World.laidAll Tryd.prog os laid).forCall (fun _ _ => 0) ⟨#[], args, []⟩).memory := by
  rw [MakeChecks.laidMetH_plain _ _ _ (by kernel_rfl)]
  exact laidMet_laidAll _ (by kernel_rfl) (by kernel_rfl)
end Wo
end Go.Proofs.YtoldmhlkgdfkmaaDoor
