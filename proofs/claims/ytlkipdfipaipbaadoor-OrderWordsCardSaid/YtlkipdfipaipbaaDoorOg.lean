/- Orders: what the laid tables give a walk; a world that has them. -/
import Derived.Test.YtlkipdfipaipbaaDoorRows
import Derived.Test.YtlkipdfipaipbaaDoorLc
import Derived.Test.YtlkipdfipaipbaaDoorTa
import Derived.Test.YtlkipdfipaipbaaDoorOd
import Derived.Test.YtlkipdfipaipbaaDoorFg
import Derived.Lib.SmallJoins
import Derived.OpenShut
import Derived.LaidMore
import Derived.ProofKit
import Derived.Stop.Joined
import Derived.Lay
namespace Go.Proofs.YtlkipdfipaipbaaDoor
open Go Go.ChangeShapes Go.WideShapes Go.ChangeAt Go.RowKit
set_option linter.unusedVariables false
namespace Od
open Tk
/-- The words of the kinds. -/
def owL : List (List Int) := [[115, 116, 101, 112], [98, 97, 99, 107], [110, 101, 120, 116], [112, 114, 101, 118], [102, 105, 110, 105, 115, 104], [115, 116, 97, 114, 116], [114, 117, 110], [114, 101, 114, 117, 110], [103, 111], [98, 114, 101, 97, 107], [99, 108, 101, 97, 114], [119, 97, 116, 99, 104], [100, 114, 111, 112], [112, 114, 105, 110, 116], [119, 104, 121], [114, 101, 97, 99, 104, 101, 100], [115, 108, 105, 99, 101], [119, 104, 101, 114, 101], [108, 105, 115, 116], [113, 117, 105, 116]]
def owB : List ByteArray := owL.map Tk.strOf
theorem B_ow : owB.map Fw.B = owL := by kernel_rfl
structure Glob (w : World) : Prop where
  tk : Tk.Glob w
  lb : Lb.Glob w
  ow : ∀ j s, owB[j]? = some s → w.cell? ⟨0, 0 + j, none⟩ = some (.string s)
theorem Glob.kp {w w' : World} (h : Glob w) (k : Fw.Kp Fw.No w w') : Glob w' := ⟨h.tk.kp k, h.lb.kp k, fun j s hj => k.cell0 (h.ow j s hj)⟩
def laid : List (String × DataW Unit) := [("math/bits.deBruijn32tab", Rows.laid_math_bits_deBruijn32tab), ("math/bits.deBruijn64tab", Rows.laid_math_bits_deBruijn64tab), ("internal/strconv.uint64pow10", Rows.laid_internal_strconv_uint64pow10), ("strconv.ErrRange", Rows.laid_strconv_ErrRange), ("strconv.ErrSyntax", Rows.laid_strconv_ErrSyntax), ("rewind/token.words", Rows.laid_rewind_token_words), ("rewind/token.pairs", Rows.laid_rewind_token_pairs), ("rewind/order.words", Rows.laid_rewind_order_words)]
theorem gRng : Tryd.prog.globalNamed "strconv.ErrRange" = some 3 := by kernel_rfl
theorem gSyn : Tryd.prog.globalNamed "strconv.ErrSyntax" = some 2 := by kernel_rfl
theorem gPow : Tryd.prog.globalNamed "internal/strconv.uint64pow10" = some 6 := by kernel_rfl
theorem gWords : Tryd.prog.globalNamed "rewind/token.words" = some 1 := by kernel_rfl
theorem gPairs : Tryd.prog.globalNamed "rewind/token.pairs" = some 5 := by kernel_rfl
theorem gOw : Tryd.prog.globalNamed "rewind/order.words" = some 0 := by kernel_rfl
theorem tRng : (Tryd.prog.globals[3]?).map (·.type) = some 56 := by kernel_rfl
theorem tSyn : (Tryd.prog.globals[2]?).map (·.type) = some 56 := by kernel_rfl
theorem tPow : (Tryd.prog.globals[6]?).map (·.type) = some 115 := by kernel_rfl
theorem tWords : (Tryd.prog.globals[1]?).map (·.type) = some 91 := by kernel_rfl
theorem tPairs : (Tryd.prog.globals[5]?).map (·.type) = some 108 := by kernel_rfl
theorem tOw : (Tryd.prog.globals[0]?).map (·.type) = some 43 := by kernel_rfl
theorem trod_ifc {H : Type} {enc : TypeId × Value → H} {P : Program} {w : World} {base : Nat} {spare : Nat → Bool} {fuel : Nat} {t : TypeId} {cs : List Value} {nm : String} {d : DataW H} {p : List MemPlace} {ms : Array (String × TypeId)} (ht : P.underlying t = some (.interface ms))
    (h : DataW.trod enc P w base spare false fuel t cs = some (.iface nm d, p)) : ∃ u v, cs = [.iface u v] := by
  cases fuel with
  | zero => simp [DataW.trod] at h
  | succ n =>
    unfold DataW.trod at h
    rw [ht] at h
    split at h <;> simp_all
theorem glob_of_laid {W : World} (h : laidMetH Tryd.prog laid W) : Glob W := by
  rw [MakeChecks.laidMetH_plain _ _ _ (by kernel_rfl)] at h
  obtain ⟨ps, ⟨_, _, _, _, _, _, _, _, _, _, ⟨_, _, _, _, _, _, _, _, _, _, ⟨g2, t2, cs2, f2, p2, q2, hg2, ht2, hv2, hd2, ⟨g4, t4, cs4, f4, p4, q4, hg4, ht4, hv4, hd4, ⟨g5, t5, cs5, f5, p5, q5, hg5, ht5, hv5, hd5, ⟨g6, t6, cs6, f6, p6, q6, hg6, ht6, hv6, hd6, ⟨g7, t7, cs7, f7, p7, q7, hg7, ht7, hv7, hd7, ⟨g8, t8, cs8, f8, p8, q8, hg8, ht8, hv8, hd8, _⟩, _⟩, _⟩, _⟩, _⟩, _⟩, _⟩, _⟩, _, _⟩ := h
  obtain rfl := Option.some.inj (gPow.symm.trans hg2)
  obtain rfl := Option.some.inj (gRng.symm.trans hg4)
  obtain rfl := Option.some.inj (gSyn.symm.trans hg5)
  obtain rfl := Option.some.inj (gWords.symm.trans hg6)
  obtain rfl := Option.some.inj (gPairs.symm.trans hg7)
  obtain rfl := Option.some.inj (gOw.symm.trans hg8)
  obtain rfl := Option.some.inj (tPow.symm.trans ht2)
  obtain rfl := Option.some.inj (tRng.symm.trans ht4)
  obtain rfl := Option.some.inj (tSyn.symm.trans ht5)
  obtain rfl := Option.some.inj (tWords.symm.trans ht6)
  obtain rfl := Option.some.inj (tPairs.symm.trans ht7)
  obtain rfl := Option.some.inj (tOw.symm.trans ht8)
  have e6 := Fw.arr_strings (ls := wordsL.map fun l => l.map fun c => c.toNat.toUInt8) Tryd.underlying91 Tryd.underlying9 (by kernel_rfl) hd6
  have e7 := Fw.arr_strings (ls := pairsL.map fun l => l.map fun c => c.toNat.toUInt8) Tryd.underlying108 Tryd.underlying9 (by kernel_rfl) hd7
  have e8 := Fw.arr_strings (ls := owL.map fun l => l.map fun c => c.toNat.toUInt8) Tryd.underlying43 Tryd.underlying9 (by kernel_rfl) hd8
  refine ⟨⟨?_, ?_⟩, ⟨?_, ?_, ?_⟩, ?_⟩
  · intro j s hj
    simp only [wordsB, List.getElem?_map, Option.map_eq_some_iff] at hj
    obtain ⟨l, hl, rfl⟩ := hj
    have := e6 j _ (by rw [List.getElem?_map, hl]; rfl)
    rw [Nat.zero_add, World.var?_cell hg6 hv6 j, ← Array.getElem?_toList, this]
    rfl
  · intro j s hj
    simp only [pairsB, List.getElem?_map, Option.map_eq_some_iff] at hj
    obtain ⟨l, hl, rfl⟩ := hj
    have := e7 j _ (by rw [List.getElem?_map, hl]; rfl)
    rw [Nat.zero_add, World.var?_cell hg7 hv7 j, ← Array.getElem?_toList, this]
    rfl
  · have := Lib.cells_of_tab (k := .u64) (zs := Lib.pow10Tab) Tryd.underlying115 Tryd.underlying92 (by kernel_rfl) (by kernel_rfl) hd2
    unfold Lib.TabIs
    rw [hv2, ← this]
  · obtain ⟨u, v, hc⟩ := trod_ifc Tryd.underlying56 hd5
    refine ⟨u, v, ?_⟩
    rw [World.var?_cell hg5 hv5 0, ← Array.getElem?_toList, hc]; rfl
  · obtain ⟨u, v, hc⟩ := trod_ifc Tryd.underlying56 hd4
    refine ⟨u, v, ?_⟩
    rw [World.var?_cell hg4 hv4 0, ← Array.getElem?_toList, hc]; rfl
  · intro j s hj
    simp only [owB, List.getElem?_map, Option.map_eq_some_iff] at hj
    obtain ⟨l, hl, rfl⟩ := hj
    have := e8 j _ (by rw [List.getElem?_map, hl]; rfl)
    rw [Nat.zero_add, World.var?_cell hg8 hv8 j, ← Array.getElem?_toList, this]
    rfl
/-- A world that has them. -/
theorem lay_met (os : Os) (args : Array Value) : laidMetH Tryd.prog laid ((World.laidAll Tryd.prog os laid).forCall (fun _ _ => 0) ⟨#[], args, []⟩).memory := by
  rw [MakeChecks.laidMetH_plain _ _ _ (by kernel_rfl)]
  exact laidMet_laidAll _ (by kernel_rfl) (by kernel_rfl)
end Od
end Go.Proofs.YtlkipdfipaipbaaDoor
