/- The Go function OrderOthers returns true at every input, and leaves its arguments as they were. No condition beyond the row's own. -/
import Derived.Test.YtlkipdfipaipbaaDoorCards
import Derived.Test.YtlkipdfipaipbaaDoorTie
import Derived.Test.YtlkipdfipaipbaaDoorOg
import Derived.Test.YtlkipdfipaipbaaDoorOt
import Derived.WalkKit
import Derived.ProofKit
import Derived.OpenShut
import Derived.ShutString
import Derived.ChangeOld
import Derived.Below
import Derived.LaidMore
import Derived.Stop.Joined
import Derived.Lay
namespace Go.Proofs.YtlkipdfipaipbaaDoor.RowOrderOthers
open Go.ChangeShapes Go.WideShapes Go.ChangeAt Go.RowKit
open Go.ChangeMaps (open_string shut_string)
set_option linter.unusedVariables false
theorem own : ownKnob Tryd.prog.godebug = none := by kernel_rfl
theorem laidOut : laidOutB Tryd.prog = true := by kernel_rfl
set_option maxRecDepth 100000 in
theorem lifted (os : Os) (started : os.Started) (H : Type) (enc : TypeId × Value → H) :
    ReturnsInHanded {} Tryd.checked os 8 .any (fun w args => (Rows.orderOthersSpec.pre enc Tryd.prog Tryd.f8 [] false w args ∧ laidMetH Tryd.prog Od.laid w) ∧ sizedMet enc Tryd.prog Tryd.f8 (OpenSpec.ofChange Rows.orderOthersSpec) false w args)
      (Rows.orderOthersSpec.post enc Tryd.prog Tryd.f8 false true false false) := by
  refine returnsInHanded_of_change_and (C := Tryd.checked) (X := fun w _ => laidMetH Tryd.prog Od.laid w) (fun _ _ _ hh h => h.of_heap hh) own started (by kernel_rfl) Tryd.func8
    (ChangeSpec.witness_shaped (enc := enc) (C := Tryd.checked) (os := os) (X := fun w _ => laidMetH Tryd.prog Od.laid w) false (World.laidAll Tryd.prog os Od.laid) #[.agg #[.int .i64 0, .string .empty, .int .i64 0], .agg #[.int .i64 0, .string .empty, .int .i64 0]] 8 (World.laidAll_os _ _ _) (World.shaped_of_ZipB (by kernel_rfl) (by kernel_rfl)) (by kernel_rfl) (by kernel_rfl) (by kernel_rfl) (Od.lay_met os _)) ?_
  intro W base args ds gs before hval0 hW _ _ hL _
  have hg := Od.glob_of_laid hL
  have hval : ∀ (j : Nat) t v, Tryd.f8.params[j]? = some t → args[j]? = some v → Value.okWide Tryd.prog W .any base t v := hval0
  have hW' := hW
  obtain ⟨p, q, hA0, hV, rfl, hfz, hnd⟩ := hW
  have hA : DataW.TrodAll enc Tryd.prog W 0 (fun _ => true) true Tryd.f8.params.toList args.toList ds p := hA0
  rw [Tryd.params8] at hA hval
  obtain ⟨v0, vs0, d0, ds0, p0, q0, hargs, rfl, rfl, h0, r0⟩ := trodAll_cons hA
  obtain ⟨v1, vs1, d1, ds1, p1, q1, rfl, rfl, rfl, h1, r1⟩ := trodAll_cons r0
  obtain ⟨rfl, rfl, rfl⟩ := trodAll_nil r1
  obtain rfl : args = #[v0, v1] := by cases args; simp_all
  obtain ⟨rfl, rfl⟩ := trodVars_none hV
  have k0 := h0
  have lt0 : ∀ x ∈ p0, x.block < W.heap.size := by obtain ⟨m, hm⟩ := k0; exact DataW.trod_lt m _ _ _ hm
  have k1 := h1
  have lt1 : ∀ x ∈ p1, x.block < W.heap.size := by obtain ⟨m, hm⟩ := k1; exact DataW.trod_lt m _ _ _ hm
  obtain ⟨u0, s0, n0, y0, z0, r0', m0, rfl, rfl, rfl, tu0, ts0, tn0⟩ := Joins.open_agg3 Tryd.underlying25 (by kernel_rfl) (by kernel_rfl) (hval 0 25 v0 rfl rfl) h0
  obtain ⟨a0, hu0, _, x0⟩ := DataW.trod_int Tryd.underlying3 tu0
  obtain ⟨b0, hs0, _, x0'⟩ := DataW.trod_string Tryd.underlying9 ts0
  obtain ⟨c0, hn0, _, x0''⟩ := DataW.trod_int Tryd.underlying3 tn0
  simp only [List.cons.injEq, and_true] at hu0 hs0 hn0
  subst hu0 hs0 hn0
  have f0 := Fw.wf_i64 x0
  have g0 : b0.size ≤ 9223372036854775807 := by have h := x0'; unfold maxLen at h; omega
  have i0 := Fw.wf_i64 x0''
  obtain ⟨u1, s1, n1, y1, z1, r1', m1, rfl, rfl, rfl, tu1, ts1, tn1⟩ := Joins.open_agg3 Tryd.underlying25 (by kernel_rfl) (by kernel_rfl) (hval 1 25 v1 rfl rfl) h1
  obtain ⟨a1, hu1, _, x1⟩ := DataW.trod_int Tryd.underlying3 tu1
  obtain ⟨b1, hs1, _, x1'⟩ := DataW.trod_string Tryd.underlying9 ts1
  obtain ⟨c1, hn1, _, x1''⟩ := DataW.trod_int Tryd.underlying3 tn1
  simp only [List.cons.injEq, and_true] at hu1 hs1 hn1
  subst hu1 hs1 hn1
  have f1 := Fw.wf_i64 x1
  have g1 : b1.size ≤ 9223372036854775807 := by have h := x1'; unfold maxLen at h; omega
  have i1 := Fw.wf_i64 x1''
  clear hA0 hval0
  refine Calls.mono (Od.Others a0 b0 c0 a1 b1 c1 W hg i0 i1 g0 g1) fun e W' ⟨v, he, hv, hk⟩ => ?_
  subst hv
  subst he
  have bel := hk.below
  exact ⟨_, rfl, _, _, _, [], _, [], hW', trodAll_mk1 (shut_bool Tryd.underlying4 _), (trodAll_cons_mk (Below.trod laidOut (by kernel_rfl) (of_decide_eq_true (by kernel_rfl)) k0 bel lt0) (trodAll_cons_mk (Below.trod laidOut (by kernel_rfl) (of_decide_eq_true (by kernel_rfl)) k1 bel lt1) trodAll_mk0)), rfl, bel.frame _, fun h => by cases h⟩
theorem over : Rows.orderOthersRow.holds Tryd.pinned (OpenSpec.ofChange Rows.orderOthersSpec) :=
  OpenClaim.holds_of_wide 8 Tryd.f8 rfl rfl rfl rfl rfl rfl rfl ⟨rfl, rfl, rfl, rfl, rfl⟩ rfl rfl rfl rfl rfl (by kernel_rfl) Tryd.func8 (by kernel_rfl)
    (of_decide_eq_true (by kernel_rfl)) (by unfold Func.isWrapper; rw [if_neg (of_decide_eq_false (by kernel_rfl))]; exact ⟨rfl, rfl⟩)
    (fun os started H enc _ => lifted os started H enc)
theorem card : Rows.OrderOthersCardSaid :=
  Claim7.holds_tied_plain_at .later [] [.data, .data, .data, .sentinel, .sentinel, .widerDeep, .widerDeep, .widerDeep] true (true, "cfc0292fe137a16f36656ee7b9e0c3350a00540eccbd4d8135fc40d0d82a5a0c") true
    over (fun _ h => by cases h) (by kernel_rfl) (fun _ h => by cases h) orderOthers_row_tie rfl ⟨rfl, rfl⟩ (by kernel_rfl) rfl
    (fun f fn hf hfn => by
      obtain rfl : f = 8 := Option.some.inj ((show Tryd.prog.funcNamed "rewind/rewindlaw18.OrderOthers" = some 8 by kernel_rfl).symm.trans hf) |>.symm
      obtain rfl : fn = Tryd.f8 := (Option.some.inj (Tryd.func8.symm.trans hfn)).symm
      exact ⟨by kernel_rfl, fun j t ht => by
        rw [Tryd.params8] at ht
        match j with
        | 0 => (have h3 : t = 25 := by simpa using ht.symm); subst h3; exact (show Tryd.prog.wantsStandIn 25 = false by kernel_rfl)
        | 1 => (have h3 : t = 25 := by simpa using ht.symm); subst h3; exact (show Tryd.prog.wantsStandIn 25 = false by kernel_rfl)
        | j + 2 => simp at ht⟩)
    (by kernel_rfl)
#print axioms card
end Go.Proofs.YtlkipdfipaipbaaDoor.RowOrderOthers
