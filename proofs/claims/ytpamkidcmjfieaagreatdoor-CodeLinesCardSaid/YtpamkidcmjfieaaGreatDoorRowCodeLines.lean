/- The Go function CodeLines returns true at every input, and leaves its arguments as they were. No condition beyond the row's own. -/
import Derived.Test.YtpamkidcmjfieaaGreatDoorCards
import Derived.Test.YtpamkidcmjfieaaGreatDoorTie
import Derived.Test.YtpamkidcmjfieaaGreatDoorDp
import Derived.Test.YtpamkidcmjfieaaGreatDoorDu
import Derived.WalkKit
import Derived.ProofKit
import Derived.OpenShut
import Derived.ShutString
import Derived.ChangeOld
import Derived.Below
import Derived.LaidMore
import Derived.Stop.Joined
import Derived.Lay
namespace Go.Proofs.YtpamkidcmjfieaaGreatDoor.RowCodeLines
open Go.ChangeShapes Go.WideShapes Go.ChangeAt Go.RowKit
open Go.ChangeMaps (open_string shut_string)
set_option linter.unusedVariables false
theorem own : ownKnob Tryz.prog.godebug = none := by kernel_rfl
theorem laidOut : laidOutB Tryz.prog = true := by kernel_rfl
set_option maxRecDepth 100000 in
theorem lifted (os : Os) (started : os.Started) (H : Type) (enc : TypeId × Value → H) :
    ReturnsInHanded {} Tryz.checked os 4 .any (fun w args => (Rows.codeLinesSpec.pre enc Tryz.prog Tryz.f4 [] false w args ∧ laidMetH Tryz.prog Cd.laid w) ∧ sizedMet enc Tryz.prog Tryz.f4 (OpenSpec.ofChange Rows.codeLinesSpec) false w args)
      (Rows.codeLinesSpec.post enc Tryz.prog Tryz.f4 false true false false) := by
  refine returnsInHanded_of_change_and (C := Tryz.checked) (X := fun w _ => laidMetH Tryz.prog Cd.laid w) (fun _ _ _ hh h => h.of_heap hh) own started (by kernel_rfl) Tryz.func4
    (ChangeSpec.witness_shaped (enc := enc) (C := Tryz.checked) (os := os) (X := fun w _ => laidMetH Tryz.prog Cd.laid w) false (World.laidAll Tryz.prog os Cd.laid) #[.agg #[.slice none 0 0, .slice none 0 0], .int .u16 0] 8 (World.laidAll_os _ _ _) (World.shaped_of_ZipB (by kernel_rfl) (by kernel_rfl)) (by kernel_rfl) (by kernel_rfl) (by kernel_rfl) (Cd.lay_met os _)) ?_
  intro W base args ds gs before hval0 hW _ _ hL _
  have hg := Cd.glob_of_laid hL
  have hval : ∀ (j : Nat) t v, Tryz.f4.params[j]? = some t → args[j]? = some v → Value.okWide Tryz.prog W .any base t v := hval0
  have hW' := hW
  obtain ⟨p, q, hA0, hV, rfl, hfz, hnd⟩ := hW
  have hA : DataW.TrodAll enc Tryz.prog W 0 (fun _ => true) true Tryz.f4.params.toList args.toList ds p := hA0
  rw [Tryz.params4] at hA hval
  obtain ⟨v0, vs0, d0, ds0, p0, q0, hargs, rfl, rfl, h0, r0⟩ := trodAll_cons hA
  obtain ⟨v1, vs1, d1, ds1, p1, q1, rfl, rfl, rfl, h1, r1⟩ := trodAll_cons r0
  obtain ⟨rfl, rfl, rfl⟩ := trodAll_nil r1
  obtain rfl : args = #[v0, v1] := by cases args; simp_all
  obtain ⟨rfl, rfl⟩ := trodVars_none hV
  have k0 := h0
  have lt0 : ∀ x ∈ p0, x.block < W.heap.size := by obtain ⟨m, hm⟩ := k0; exact DataW.trod_lt m _ _ _ hm
  obtain ⟨c0, ap0, al0, cp0, cl0, rfl, lp0, ll0, mp0, ml0, rp0, ri0, wp0, wi0⟩ := Cd.code_of_okWide (hval 0 26 v0 rfl rfl) h0
  obtain ⟨a1, rfl, rfl, rfl, x1⟩ := open_int Tryz.underlying40 (hval 1 40 v1 rfl rfl) h1
  have f1 := Fw.wf_u16 x1
  clear hA0 hval0
  refine Calls.mono (Cd.Lines c0 ap0 al0 cp0 cl0 a1 W hg rp0 ri0 lp0 ll0 mp0 ml0 wp0 wi0 ⟨f1.1, f1.2⟩) fun e W' ⟨v, he, hv, hk⟩ => ?_
  subst hv
  subst he
  have bel := hk.below
  exact ⟨_, rfl, _, _, _, [], _, [], hW', trodAll_mk1 (shut_bool Tryz.underlying4 _), (trodAll_cons_mk (Below.trod laidOut (by kernel_rfl) (of_decide_eq_true (by kernel_rfl)) k0 bel lt0) (trodAll_cons_mk (shut_int Tryz.underlying40 x1) trodAll_mk0)), rfl, bel.frame _, fun h => by cases h⟩
theorem over : Rows.codeLinesRow.holds Tryz.pinned (OpenSpec.ofChange Rows.codeLinesSpec) :=
  OpenClaim.holds_of_wide 4 Tryz.f4 rfl rfl rfl rfl rfl rfl rfl ⟨rfl, rfl, rfl, rfl, rfl⟩ rfl rfl rfl rfl rfl (by kernel_rfl) Tryz.func4 (by kernel_rfl)
    (of_decide_eq_true (by kernel_rfl)) (by unfold Func.isWrapper; rw [if_neg (of_decide_eq_false (by kernel_rfl))]; exact ⟨rfl, rfl⟩)
    (fun os started H enc _ => lifted os started H enc)
theorem card : Rows.CodeLinesCardSaid :=
  Claim7.holds_tied_plain_at .later [] [.data, .data, .data, .data, .sentinel, .sentinel, .widerDeep, .widerDeep, .widerDeep, .pinned] true (true, "2699112597258dc7351fdcd09e1f2763414339d8a278a543bf17c607646358c8") true
    over (fun _ h => by cases h) (by kernel_rfl) (fun _ h => by cases h) codeLines_row_tie rfl ⟨rfl, rfl⟩ (by kernel_rfl) rfl
    (fun f fn hf hfn => by
      obtain rfl : f = 4 := Option.some.inj ((show Tryz.prog.funcNamed "rewind/rewindlaw10.CodeLines" = some 4 by kernel_rfl).symm.trans hf) |>.symm
      obtain rfl : fn = Tryz.f4 := (Option.some.inj (Tryz.func4.symm.trans hfn)).symm
      exact ⟨by kernel_rfl, fun j t ht => by
        rw [Tryz.params4] at ht
        match j with
        | 0 => (have h3 : t = 26 := by simpa using ht.symm); subst h3; exact (show Tryz.prog.wantsStandIn 26 = false by kernel_rfl)
        | 1 => (have h3 : t = 40 := by simpa using ht.symm); subst h3; exact (show Tryz.prog.wantsStandIn 40 = false by kernel_rfl)
        | j + 2 => simp at ht⟩)
    (by kernel_rfl)
#print axioms card
end Go.Proofs.YtpamkidcmjfieaaGreatDoor.RowCodeLines
