/- The Go function PrintExprs returns true at every input, and leaves its arguments as they were. No condition beyond the row's own. -/
import Derived.Test.YtfnbgbeinmekgaaGreatDoorCards
import Derived.Test.YtfnbgbeinmekgaaGreatDoorTie
import Derived.Test.YtfnbgbeinmekgaaGreatDoorJo
import Derived.Test.YtfnbgbeinmekgaaGreatDoorJx
import Derived.WalkKit
import Derived.ProofKit
import Derived.OpenShut
import Derived.ShutString
import Derived.ChangeOld
import Derived.Below
import Derived.LaidMore
import Derived.Stop.Joined
import Derived.Lay
namespace Go.Proofs.YtfnbgbeinmekgaaGreatDoor.RowPrintExprs
open Go.ChangeShapes Go.WideShapes Go.ChangeAt Go.RowKit
open Go.ChangeMaps (open_string shut_string)
set_option linter.unusedVariables false
theorem own : ownKnob Tryz.prog.godebug = none := by kernel_rfl
theorem laidOut : laidOutB Tryz.prog = true := by kernel_rfl
set_option maxRecDepth 100000 in
theorem lifted (os : Os) (started : os.Started) (H : Type) (enc : TypeId × Value → H) :
    ReturnsInHanded {} Tryz.checked os 6 .any (fun w args => (Rows.printExprsSpec.pre enc Tryz.prog Tryz.f6 [] false w args ∧ laidMetH Tryz.prog Pr.laid w) ∧ sizedMet enc Tryz.prog Tryz.f6 (OpenSpec.ofChange Rows.printExprsSpec) false w args)
      (Rows.printExprsSpec.post enc Tryz.prog Tryz.f6 false true false false) := by
  refine Pr.wrap_shaped (C := Tryz.checked) (X := fun w _ => laidMetH Tryz.prog Pr.laid w) (fun _ _ _ hh h => h.of_heap hh) own started (by kernel_rfl) Tryz.func6
    (ChangeSpec.witness_shaped (enc := enc) (C := Tryz.checked) (os := os) (X := fun w _ => laidMetH Tryz.prog Pr.laid w) false (World.laidAll Tryz.prog os Pr.laid) #[.string .empty] 8 (World.laidAll_os _ _ _) (World.shaped_of_ZipB (by kernel_rfl) (by kernel_rfl)) (by kernel_rfl) (by kernel_rfl) (by kernel_rfl) (Pr.lay_met os _)) ?_
  intro W base args ds gs before hval0 hW hL hsh
  have hg := Pr.glob_of_laid hL hsh
  have hval : ∀ (j : Nat) t v, Tryz.f6.params[j]? = some t → args[j]? = some v → Value.okWide Tryz.prog W .any base t v := hval0
  have hW' := hW
  obtain ⟨p, q, hA0, hV, rfl, hfz, hnd⟩ := hW
  have hA : DataW.TrodAll enc Tryz.prog W 0 (fun _ => true) true Tryz.f6.params.toList args.toList ds p := hA0
  rw [Tryz.params6] at hA hval
  obtain ⟨v0, vs0, d0, ds0, p0, q0, hargs, rfl, rfl, h0, r0⟩ := trodAll_cons hA
  obtain ⟨rfl, rfl, rfl⟩ := trodAll_nil r0
  obtain rfl : args = #[v0] := by cases args; simp_all
  obtain ⟨rfl, rfl⟩ := trodVars_none hV
  obtain ⟨a0, rfl, rfl, rfl, x0⟩ := open_string Tryz.underlying9 (hval 0 9 v0 rfl rfl) h0
  have f0 := Fw.wf_str x0
  clear hA0 hval0
  refine Calls.mono (Pr.exprsF a0 W hg) fun e W' ⟨v, he, hv, hk⟩ => ?_
  subst hv
  subst he
  have bel := hk.below
  exact ⟨_, rfl, _, _, _, [], _, [], hW', trodAll_mk1 (shut_bool Tryz.underlying4 _), (trodAll_cons_mk (shut_string Tryz.underlying9 x0) trodAll_mk0), rfl, bel.frame _, fun h => by cases h⟩
theorem over : Rows.printExprsRow.holds Tryz.pinned (OpenSpec.ofChange Rows.printExprsSpec) :=
  OpenClaim.holds_of_wide 6 Tryz.f6 rfl rfl rfl rfl rfl rfl rfl ⟨rfl, rfl, rfl, rfl, rfl⟩ rfl rfl rfl rfl rfl (by kernel_rfl) Tryz.func6 (by kernel_rfl)
    (of_decide_eq_true (by kernel_rfl)) (by unfold Func.isWrapper; rw [if_neg (of_decide_eq_false (by kernel_rfl))]; exact ⟨rfl, rfl⟩)
    (fun os started H enc _ => lifted os started H enc)
theorem card : Rows.PrintExprsCardSaid :=
  Claim7.holds_tied_plain_at .later [] [.data, .data, .data, .widerDeep, .widerDeep, .widerDeep] true (true, "2c7d8373d074a9b1bfbb2c361f22aa4626739214750733e64b7636dde74562b4") true
    over (fun _ h => by cases h) (by kernel_rfl) (fun _ h => by cases h) printExprs_row_tie rfl ⟨rfl, rfl⟩ (by kernel_rfl) rfl
    (fun f fn hf hfn => by
      obtain rfl : f = 6 := Option.some.inj ((show Tryz.prog.funcNamed "rewind/rewindlaw05.PrintExprs" = some 6 by kernel_rfl).symm.trans hf) |>.symm
      obtain rfl : fn = Tryz.f6 := (Option.some.inj (Tryz.func6.symm.trans hfn)).symm
      exact ⟨by kernel_rfl, fun j t ht => by
        rw [Tryz.params6] at ht
        match j with
        | 0 => (have h3 : t = 9 := by simpa using ht.symm); subst h3; exact (show Tryz.prog.wantsStandIn 9 = false by kernel_rfl)
        | j + 1 => simp at ht⟩)
    (by kernel_rfl)
#print axioms card
end Go.Proofs.YtfnbgbeinmekgaaGreatDoor.RowPrintExprs
