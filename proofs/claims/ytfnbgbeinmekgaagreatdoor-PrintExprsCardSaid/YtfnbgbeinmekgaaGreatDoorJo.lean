/- Print: what the laid tables, and a world's shape, give a walk; a world that has them. -/
import Derived.Test.YtfnbgbeinmekgaaGreatDoorRows
import Derived.Test.YtfnbgbeinmekgaaGreatDoorPd12
import Derived.Lib.SmallJoins
import Derived.OpenShut
import Derived.LaidMore
import Derived.ProofKit
import Derived.Stop.Joined
import Derived.Lay
import Derived.Handed
import Derived.Shelf.Vars
namespace Go.Proofs.YtfnbgbeinmekgaaGreatDoor
open Go Go.ChangeShapes Go.WideShapes Go.ChangeAt Go.RowKit
set_option linter.unusedVariables false
set_option maxRecDepth 20000
namespace Pr
open Tk
def laid : List (String × DataW Unit) := [("math/bits.deBruijn32tab", Rows.laid_math_bits_deBruijn32tab), ("math/bits.deBruijn64tab", Rows.laid_math_bits_deBruijn64tab), ("internal/strconv.uint64pow10", Rows.laid_internal_strconv_uint64pow10), ("rewind/print.levels", Rows.laid_rewind_print_levels), ("rewind/token.words", Rows.laid_rewind_token_words), ("rewind/token.pairs", Rows.laid_rewind_token_pairs)]
theorem gPow : Tryz.prog.globalNamed "internal/strconv.uint64pow10" = some 4 := by kernel_rfl
theorem gLev : Tryz.prog.globalNamed "rewind/print.levels" = some 2 := by kernel_rfl
theorem gWords : Tryz.prog.globalNamed "rewind/token.words" = some 0 := by kernel_rfl
theorem gPairs : Tryz.prog.globalNamed "rewind/token.pairs" = some 1 := by kernel_rfl
theorem tPow : (Tryz.prog.globals[4]?).map (·.type) = some 184 := by kernel_rfl
theorem tLev : (Tryz.prog.globals[2]?).map (·.type) = some 166 := by kernel_rfl
theorem tWords : (Tryz.prog.globals[0]?).map (·.type) = some 132 := by kernel_rfl
theorem tPairs : (Tryz.prog.globals[1]?).map (·.type) = some 149 := by kernel_rfl
theorem max_of {W : World} (hsh : W.ShapedOpen Tryz.prog) : ∃ m, W.cell? ⟨3, 0, none⟩ = some (.int .i64 m) :=
  cell_of_shapedOpen_int (P := Tryz.prog) (g := 3) (t := 3) (zero := #[.int .i64 0]) hsh (of_decide_eq_true (by kernel_rfl)) (by kernel_rfl) rfl (by kernel_rfl) (by kernel_rfl) Tryz.underlying3
theorem glob_of_laid {W : World} (h : laidMetH Tryz.prog laid W) (hsh : W.ShapedOpen Tryz.prog) : GG W := by
  rw [MakeChecks.laidMetH_plain _ _ _ (by kernel_rfl)] at h
  obtain ⟨ps, ⟨_, _, _, _, _, _, _, _, _, _, ⟨_, _, _, _, _, _, _, _, _, _, ⟨g2, t2, cs2, f2, p2, q2, hg2, ht2, hv2, hd2, ⟨g3, t3, cs3, f3, p3, q3, hg3, ht3, hv3, hd3, ⟨g6, t6, cs6, f6, p6, q6, hg6, ht6, hv6, hd6, ⟨g7, t7, cs7, f7, p7, q7, hg7, ht7, hv7, hd7, _⟩, _⟩, _⟩, _⟩, _⟩, _⟩, _, _⟩ := h
  obtain rfl := Option.some.inj (gPow.symm.trans hg2)
  obtain rfl := Option.some.inj (gLev.symm.trans hg3)
  obtain rfl := Option.some.inj (gWords.symm.trans hg6)
  obtain rfl := Option.some.inj (gPairs.symm.trans hg7)
  obtain rfl := Option.some.inj (tPow.symm.trans ht2)
  obtain rfl := Option.some.inj (tLev.symm.trans ht3)
  obtain rfl := Option.some.inj (tWords.symm.trans ht6)
  obtain rfl := Option.some.inj (tPairs.symm.trans ht7)
  have e3 := Fw.arr_strings (ls := levL.map fun l => l.map fun c => c.toNat.toUInt8) Tryz.underlying166 Tryz.underlying9 (by kernel_rfl) hd3
  have e6 := Fw.arr_strings (ls := wordsL.map fun l => l.map fun c => c.toNat.toUInt8) Tryz.underlying132 Tryz.underlying9 (by kernel_rfl) hd6
  have e7 := Fw.arr_strings (ls := pairsL.map fun l => l.map fun c => c.toNat.toUInt8) Tryz.underlying149 Tryz.underlying9 (by kernel_rfl) hd7
  refine ⟨⟨?_, ?_⟩, ?_, ?_, max_of hsh⟩
  · intro j s hj
    simp only [wordsB, List.getElem?_map, Option.map_eq_some_iff] at hj
    obtain ⟨l, hl, rfl⟩ := hj
    have := e6 j _ (by rw [List.getElem?_map, hl]; rfl)
    rw [Nat.zero_add, World.var?_cell hg6 hv6 j, ← Array.getElem?_toList, this]
    rfl
  · intro j s hj
    simp only [pairsB, List.getElem?_map, Option.map_eq_some_iff] at hj
    obtain ⟨l, hl, rfl⟩ := hj
    have := e7 j _ (by rw [List.getElem?_map, hl]; rfl)
    rw [Nat.zero_add, World.var?_cell hg7 hv7 j, ← Array.getElem?_toList, this]
    rfl
  · have := Lib.cells_of_tab (k := .u64) (zs := Lib.pow10Tab) Tryz.underlying184 Tryz.underlying158 (by kernel_rfl) (by kernel_rfl) hd2
    unfold Lib.TabIs
    rw [hv2, ← this]
  · intro j s hj
    simp only [levB, List.getElem?_map, Option.map_eq_some_iff] at hj
    obtain ⟨l, hl, rfl⟩ := hj
    have := e3 j _ (by rw [List.getElem?_map, hl]; rfl)
    rw [World.var?_cell hg3 hv3 j, ← Array.getElem?_toList, this]
    rfl
/-- A world that has them. -/
theorem lay_met (os : Os) (args : Array Value) : laidMetH Tryz.prog laid ((World.laidAll Tryz.prog os laid).forCall (fun _ _ => 0) ⟨#[], args, []⟩).memory := by
  rw [MakeChecks.laidMetH_plain _ _ _ (by kernel_rfl)]
  exact laidMet_laidAll _ (by kernel_rfl) (by kernel_rfl)
/-- The wrap of a row with laid variables, the world's shape kept. -/
theorem wrap_shaped {H : Type} {enc : TypeId × Value → H} {a : Assume} {C : Checked} {os : Os} {f : FuncId} {fn : Func} {s : ChangeSpec} {conds : List PathCond} {apart fresh handsOn again : Bool} {X : World → Array Value → Prop}
    (hX : ∀ (w w' : World) (args : Array Value), w.heap = w'.heap → X w args → X w' args)
    (own : ownKnob C.prog.godebug = none) (started : os.Started) (noInit : C.prog.inits.idxOf? f = none) (hfn : C.prog.funcs[f]? = some fn)
    (witness : ∃ (w : World) (tape : Tape) (i : Input), w.os = os ∧ (w.forCall tape i).Shaped C.prog ∧ i.vars = [] ∧ Input.okWide C.prog (w.forCall tape i) .any w.heap.size f i ∧
      ((s.pre enc C.prog fn conds apart (w.forCall tape i).memory i.args ∧ X (w.forCall tape i).memory i.args) ∧ sizedMet enc C.prog fn (OpenSpec.ofChange s) apart (w.forCall tape i).memory i.args) ∧ a.holds C.prog (lone (Frame.enter C.prog f i.args .normal) [] (w.forCall tape i)))
    (contract : ∀ (W : World) (base : Nat) (args : Array Value) (ds gs : List (DataW H)) (before : List MemPlace),
      (∀ (j : Nat) t v, fn.params[j]? = some t → args[j]? = some v → Value.okWide C.prog W .any base t v) →
      DataW.Whole enc C.prog fn.params.toList s.vars apart W args.toList ds gs before → X W args → W.ShapedOpen C.prog →
      Calls C.prog f args W fun e W' => ∃ v, e = .returned v ∧ s.post enc C.prog fn apart fresh handsOn again W args v W') :
    ReturnsInHanded a C os f .any (fun w args => (s.pre enc C.prog fn conds apart w args ∧ X w args) ∧ sizedMet enc C.prog fn (OpenSpec.ofChange s) apart w args) (s.post enc C.prog fn apart fresh handsOn again) := by
  refine returnsInHanded_of_calls own started noInit witness ?_
  intro w tape i _ hsh _ hok hpre hholds
  obtain ⟨_, _, _, fn', hfn', _, _, _, _, hval⟩ := hok
  have e : fn' = fn := Option.some.inj (hfn'.symm.trans hfn)
  subst e
  obtain ⟨⟨⟨ds, gs, before, hw, hc⟩, hx⟩, hz⟩ := hpre
  have hw' := DataW.Whole.of_heap (w' := w.forCall tape i) (by rfl) hw
  refine (contract (w.forCall tape i) w.heap.size i.args ds gs before hval hw' (hX _ _ _ (by rfl) hx) hsh).mono fun e W' ⟨v, he, hp⟩ => ?_
  subst he
  exact ChangeSpec.post_blind hp
end Pr
end Go.Proofs.YtfnbgbeinmekgaaGreatDoor
