/- Code: what the laid tables give a walk; a world that has them. -/
import Derived.Test.YtpamkidcmjfieaaDoorRows
import Derived.Test.YtpamkidcmjfieaaDoorLc
import Derived.Test.YtpamkidcmjfieaaDoorTc
import Derived.Test.YtpamkidcmjfieaaDoorCw
import Derived.Test.YtpamkidcmjfieaaDoorFz
import Derived.Lib.SmallJoins
import Derived.OpenShut
import Derived.LaidMore
import Derived.ProofKit
import Derived.Stop.Joined
import Derived.Lay
namespace Go.Proofs.YtpamkidcmjfieaaDoor
open Go Go.ChangeShapes Go.WideShapes Go.ChangeAt Go.RowKit
set_option linter.unusedVariables false
set_option maxRecDepth 20000
namespace Cd
open Tk
structure Glob (w : World) : Prop where
  tk : Tk.Glob w
  lb : Lb.Glob w
  sh : Shp w
theorem Glob.kp {w w' : World} (h : Glob w) (k : Fw.Kp Fw.No w w') : Glob w' := ⟨h.tk.kp k, h.lb.kp k, h.sh.kp k⟩
def laid : List (String × DataW Unit) := [("math/bits.deBruijn32tab", Rows.laid_math_bits_deBruijn32tab), ("math/bits.deBruijn64tab", Rows.laid_math_bits_deBruijn64tab), ("internal/strconv.uint64pow10", Rows.laid_internal_strconv_uint64pow10), ("unicode/utf8.acceptRanges", Rows.laid_unicode_utf8_acceptRanges), ("strconv.ErrRange", Rows.laid_strconv_ErrRange), ("strconv.ErrSyntax", Rows.laid_strconv_ErrSyntax), ("rewind/token.words", Rows.laid_rewind_token_words), ("rewind/token.pairs", Rows.laid_rewind_token_pairs), ("rewind/code.shapes", Rows.laid_rewind_code_shapes), ("unicode/utf8.first", Rows.laid_unicode_utf8_first)]
theorem gRng : Tryd.prog.globalNamed "strconv.ErrRange" = some 4 := by kernel_rfl
theorem gSyn : Tryd.prog.globalNamed "strconv.ErrSyntax" = some 3 := by kernel_rfl
theorem gPow : Tryd.prog.globalNamed "internal/strconv.uint64pow10" = some 8 := by kernel_rfl
theorem gWords : Tryd.prog.globalNamed "rewind/token.words" = some 2 := by kernel_rfl
theorem gPairs : Tryd.prog.globalNamed "rewind/token.pairs" = some 5 := by kernel_rfl
theorem gSh : Tryd.prog.globalNamed "rewind/code.shapes" = some 0 := by kernel_rfl
theorem tRng : (Tryd.prog.globals[4]?).map (·.type) = some 80 := by kernel_rfl
theorem tSyn : (Tryd.prog.globals[3]?).map (·.type) = some 80 := by kernel_rfl
theorem tPow : (Tryd.prog.globals[8]?).map (·.type) = some 139 := by kernel_rfl
theorem tWords : (Tryd.prog.globals[2]?).map (·.type) = some 113 := by kernel_rfl
theorem tPairs : (Tryd.prog.globals[5]?).map (·.type) = some 126 := by kernel_rfl
theorem tSh : (Tryd.prog.globals[0]?).map (·.type) = some 64 := by kernel_rfl
theorem trod_ifc {H : Type} {enc : TypeId × Value → H} {P : Program} {w : World} {base : Nat} {spare : Nat → Bool} {fuel : Nat} {t : TypeId} {cs : List Value} {nm : String} {d : DataW H} {p : List MemPlace} {ms : Array (String × TypeId)} (ht : P.underlying t = some (.interface ms))
    (h : DataW.trod enc P w base spare false fuel t cs = some (.iface nm d, p)) : ∃ u v, cs = [.iface u v] := by
  cases fuel with
  | zero => simp [DataW.trod] at h
  | succ n =>
    unfold DataW.trod at h
    rw [ht] at h
    split at h <;> simp_all
/-- A shape, as a datum. -/
def shD {H : Type} (x : List Int × Int × Int × Int) : DataW H := .agg [.lit (.string (x.1.map fun c => c.toNat.toUInt8)), .lit (.int .i64 x.2.1), .lit (.int .i64 x.2.2.1), .lit (.int .i64 x.2.2.2)]
theorem shapes_D : (Rows.laid_rewind_code_shapes : DataW Unit) = .agg (shL.map shD) := by kernel_rfl
theorem shapes_of {enc : TypeId × Value → Unit} {w : World} {base : Nat} {spare : Nat → Bool} {held : Bool} {fuel : Nat} {cs : List Value} {p : List MemPlace}
    (h : DataW.trod enc Tryd.prog w base spare held fuel 64 cs = some (.agg (shL.map shD), p)) :
    ∀ (i : Nat) x, shL[i]? = some x → cs[i * 4]? = some (.string (Tk.strOf x.1)) ∧ cs[i * 4 + 1]? = some (.int .i64 x.2.1) ∧ cs[i * 4 + 2]? = some (.int .i64 x.2.2.1) ∧ cs[i * 4 + 3]? = some (.int .i64 x.2.2.2) := by
  intro i x hi
  obtain ⟨xs, m, rfl, hx, hlen, hn, hel⟩ := DataW.trod_array Tryd.underlying64 h
  simp only [Prod.mk.injEq, DataW.agg.injEq] at hx
  have hxl : xs.length = shL.length := by have := congrArg List.length hx.1; simpa using this.symm
  have hil : i < shL.length := (List.getElem?_eq_some_iff.1 hi).1
  obtain ⟨y, hyi⟩ : ∃ y, xs[i]? = some y := ⟨_, List.getElem?_eq_getElem (by omega)⟩
  have h1 := hel i (by omega)
  have hC : Tryd.prog.cellsOf 63 = 4 := by kernel_rfl
  rw [hyi, hC] at h1
  obtain ⟨y0, y1, y2, y3, n, hy, hcl, t0, t1, t2, t3⟩ := Joins.trod_struct4 Tryd.underlying63 h1
  have hyd : y.1 = shD x := by
    have := congrArg (fun z => z[i]?) hx.1
    simp only [List.getElem?_map, hi, hyi, Option.map_some, Option.some.injEq] at this
    exact this.symm
  rw [hy] at hyd
  simp only [shD, DataW.agg.injEq, List.cons.injEq, and_true] at hyd
  obtain ⟨d0, d1, d2, d3⟩ := hyd
  have s1 : Tryd.prog.cellsOf 9 = 1 := by kernel_rfl
  have s2 : Tryd.prog.cellsOf 61 = 1 := by kernel_rfl
  have s3 : Tryd.prog.cellsOf 3 = 1 := by kernel_rfl
  have t0 : DataW.trod enc Tryd.prog w base spare held n 9 ((((cs.drop (i * 4)).take 4).drop 0).take (Tryd.prog.cellsOf 9)) = some y0 := t0
  have t1 : DataW.trod enc Tryd.prog w base spare held n 61 ((((cs.drop (i * 4)).take 4).drop 1).take (Tryd.prog.cellsOf 61)) = some y1 := t1
  have t2 : DataW.trod enc Tryd.prog w base spare held n 3 ((((cs.drop (i * 4)).take 4).drop 2).take (Tryd.prog.cellsOf 3)) = some y2 := t2
  have t3 : DataW.trod enc Tryd.prog w base spare held n 3 ((((cs.drop (i * 4)).take 4).drop 3).take (Tryd.prog.cellsOf 3)) = some y3 := t3
  rw [s1] at t0
  rw [s2] at t1
  rw [s3] at t2 t3
  obtain ⟨s, hs, hy0, _⟩ := DataW.trod_string Tryd.underlying9 t0
  obtain ⟨a1, ha1, hy1, _⟩ := DataW.trod_int Tryd.underlying61 t1
  obtain ⟨a2, ha2, hy2, _⟩ := DataW.trod_int Tryd.underlying3 t2
  obtain ⟨a3, ha3, hy3, _⟩ := DataW.trod_int Tryd.underlying3 t3
  rw [hy0] at d0
  rw [hy1] at d1
  rw [hy2] at d2
  rw [hy3] at d3
  simp only [DataW.lit.injEq, Lit.string.injEq, Lit.int.injEq, true_and] at d0 d1 d2 d3
  have g : ∀ k (v : Value), k < 4 → (((cs.drop (i * 4)).take 4).drop k).take 1 = [v] → cs[i * 4 + k]? = some v := fun k v hk hh => by
    have := congrArg (fun z => z[0]?) hh
    simpa [List.getElem?_take, List.getElem?_drop, hk] using this
  have g0 := g 0 _ (by omega) hs
  rw [Nat.add_zero] at g0
  refine ⟨?_, ?_, ?_, ?_⟩
  · rw [g0]
    congr 2
    unfold Tk.strOf
    cases s with
    | mk a => cases a with
      | mk b =>
        simp only at d0
        rw [d0]
  · rw [g 1 _ (by omega) ha1, d1]
  · rw [g 2 _ (by omega) ha2, d2]
  · rw [g 3 _ (by omega) ha3, d3]
theorem glob_of_laid {W : World} (h : laidMetH Tryd.prog laid W) : Glob W := by
  rw [MakeChecks.laidMetH_plain _ _ _ (by kernel_rfl)] at h
  obtain ⟨ps, ⟨_, _, _, _, _, _, _, _, _, _, ⟨_, _, _, _, _, _, _, _, _, _, ⟨g2, t2, cs2, f2, p2, q2, hg2, ht2, hv2, hd2, ⟨_, _, _, _, _, _, _, _, _, _, ⟨g4, t4, cs4, f4, p4, q4, hg4, ht4, hv4, hd4, ⟨g5, t5, cs5, f5, p5, q5, hg5, ht5, hv5, hd5, ⟨g6, t6, cs6, f6, p6, q6, hg6, ht6, hv6, hd6, ⟨g7, t7, cs7, f7, p7, q7, hg7, ht7, hv7, hd7, ⟨g8, t8, cs8, f8, p8, q8, hg8, ht8, hv8, hd8, _⟩, _⟩, _⟩, _⟩, _⟩, _⟩, _⟩, _⟩, _⟩, _, _⟩ := h
  obtain rfl := Option.some.inj (gPow.symm.trans hg2)
  obtain rfl := Option.some.inj (gRng.symm.trans hg4)
  obtain rfl := Option.some.inj (gSyn.symm.trans hg5)
  obtain rfl := Option.some.inj (gWords.symm.trans hg6)
  obtain rfl := Option.some.inj (gPairs.symm.trans hg7)
  obtain rfl := Option.some.inj (gSh.symm.trans hg8)
  obtain rfl := Option.some.inj (tPow.symm.trans ht2)
  obtain rfl := Option.some.inj (tRng.symm.trans ht4)
  obtain rfl := Option.some.inj (tSyn.symm.trans ht5)
  obtain rfl := Option.some.inj (tWords.symm.trans ht6)
  obtain rfl := Option.some.inj (tPairs.symm.trans ht7)
  obtain rfl := Option.some.inj (tSh.symm.trans ht8)
  rw [shapes_D] at hd8
  have e6 := Fw.arr_strings (ls := wordsL.map fun l => l.map fun c => c.toNat.toUInt8) Tryd.underlying113 Tryd.underlying9 (by kernel_rfl) hd6
  have e7 := Fw.arr_strings (ls := pairsL.map fun l => l.map fun c => c.toNat.toUInt8) Tryd.underlying126 Tryd.underlying9 (by kernel_rfl) hd7
  have e8 := shapes_of hd8
  refine ⟨⟨?_, ?_⟩, ⟨?_, ?_, ?_⟩, ⟨?_⟩⟩
  · intro j s hj
    simp only [wordsB, List.getElem?_map, Option.map_eq_some_iff] at hj
    obtain ⟨l, hl, rfl⟩ := hj
    have := e6 j _ (by rw [List.getElem?_map, hl]; rfl)
    rw [Nat.zero_add, World.var?_cell hg6 hv6 j, ← Array.getElem?_toList, this]
    rfl
  · intro j s hj
    simp only [pairsB, List.getElem?_map, Option.map_eq_some_iff] at hj
    obtain ⟨l, hl, rfl⟩ := hj
    have := e7 j _ (by rw [List.getElem?_map, hl]; rfl)
    rw [Nat.zero_add, World.var?_cell hg7 hv7 j, ← Array.getElem?_toList, this]
    rfl
  · have := Lib.cells_of_tab (k := .u64) (zs := Lib.pow10Tab) Tryd.underlying139 Tryd.underlying72 (by kernel_rfl) (by kernel_rfl) hd2
    unfold Lib.TabIs
    rw [hv2, ← this]
  · obtain ⟨u, v, hc⟩ := trod_ifc Tryd.underlying80 hd5
    refine ⟨u, v, ?_⟩
    rw [World.var?_cell hg5 hv5 0, ← Array.getElem?_toList, hc]; rfl
  · obtain ⟨u, v, hc⟩ := trod_ifc Tryd.underlying80 hd4
    refine ⟨u, v, ?_⟩
    rw [World.var?_cell hg4 hv4 0, ← Array.getElem?_toList, hc]; rfl
  · intro j x hj
    obtain ⟨a1, a2, a3, a4⟩ := e8 j x hj
    have g : ∀ k, Tryd.prog.globals.size = Tryd.prog.globals.size → W.cell? ⟨0, k, none⟩ = cs8.toList[k]? := fun k _ => by
      rw [World.var?_cell hg8 hv8 k, ← Array.getElem?_toList]
    refine ⟨?_, ?_, ?_, ?_⟩
    · rw [Nat.zero_add, g _ rfl]; exact a1
    · rw [Nat.zero_add, g _ rfl]; exact a2
    · rw [Nat.zero_add, g _ rfl]; exact a3
    · rw [Nat.zero_add, g _ rfl]; exact a4
/-- A world that has them. -/
theorem lay_met (os : Os) (args : Array Value) : laidMetH Tryd.prog laid ((World.laidAll Tryd.prog os laid).forCall (fun _ _ => 0) ⟨#[], args, []⟩).memory := by
  rw [MakeChecks.laidMetH_plain _ _ _ (by kernel_rfl)]
  exact laidMet_laidAll _ (by kernel_rfl) (by kernel_rfl)
end Cd
end Go.Proofs.YtpamkidcmjfieaaDoor
