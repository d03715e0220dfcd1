/- The fixed text of layer 9; LeanFalls: walked. -/
import Derived.Test.YtkllhfajldnpoaaLh
import Derived.Test.YtkllhfajldnpoaaLk
namespace Go.Proofs.Ytkllhfajldnpoaa.Ck
open Go Go.RowKit Fw Sy Rf Fn
set_option linter.unusedVariables false
set_option maxRecDepth 20000
def aw9 : ByteArray := ⟨#[102, 117, 110, 99, 32, 109, 97, 105, 110, 40, 41, 32, 123, 32, 119, 104, 105, 108, 101, 32, 116, 114, 117, 101, 32, 123, 32, 112, 114, 105, 110, 116, 32, 49, 59, 32, 125, 32, 125]⟩
def chk9 : Bool := match prs (B aw9) with
  | .ok () S => (match S.fn with
    | [f] => decide (f.nm = wMain ∧ f.ps = [] ∧ f.ty = 4) && (kbody (kst0 S 0 5) f.bd ⟨[], 0, 0, [[]]⟩).isSome && decide (nxS S = nx9)
    | _ => false)
  | _ => false
theorem chk9_ok : chk9 = true := by decide +kernel
theorem aw9_of : ∃ S, prs (B aw9) = .ok () S ∧ kchk0 S ∧ nxS S = nx9 := by
  have h := chk9_ok
  unfold chk9 at h
  split at h
  · rename_i S hS
    split at h
    · rename_i f hf
      rw [Bool.and_eq_true, Bool.and_eq_true] at h
      obtain ⟨⟨h1, h2⟩, h3⟩ := h
      obtain ⟨k', hk'⟩ := Option.isSome_iff_exists.1 h2
      have h1 := of_decide_eq_true h1
      exact ⟨S, hS, ⟨f, k', 5, hf, h1.1, h1.2.1, h1.2.2, hk'⟩, of_decide_eq_true h3⟩
    · cases h
  · cases h
set_option maxHeartbeats 1000000 in
theorem awake9F (w : World) : Ret Try.prog 21 [] w (fun v w1 => v = .bool true ∧ Kp No w w1) := by
  obtain ⟨S, hS, hK, hnx⟩ := aw9_of
  refine ret_enter Try.func21 rfl Try.ntmps21 rfl ?_
  (repeat refine Zlr ?_)
  refine s_call (us := []) (zs := []) (by kernel_rfl) rfl rfl (rightF aw9 w) ?_
  rintro _ w1 ⟨ux, us, uf, b, rfl, k1, hT, hX⟩
  have hb : b = true := (hX (by decide) S hS).1 hK
  subst hb
  obtain ⟨S', _, hS', hTy, hW⟩ := hT rfl
  have e : S' = S := by rw [hS] at hS'; cases hS'; rfl
  subst e
  have G := (Lw.start w).no k1
  (repeat refine Zlr ?_)
  refine s_al rfl (fun b1 w2 n2 => ?_)
  have G := G.new n2
  have h0 := G.blk 0 rfl; try have h1 := G.blk 1 rfl; try have h2 := G.blk 2 rfl; try have h3 := G.blk 3 rfl; try have h4 := G.blk 4 rfl; try have h5 := G.blk 5 rfl
  (repeat refine Zlr ?_)
  refine s_stw (vs := [ux.v, us.v, uf.v]) rfl rfl rfl rfl rfl h0 rfl (fun w3 s3 => ?_)
  have G : Lw w No w3 [(b1, [ux.v, us.v, uf.v], tTree)] := G.put 0 rfl s3
  have k13 : Kp No w1 w3 := n2.kp.trans s3.kp fun i hi e => (by have := n2.ge; have e : i = b1 := e; omega)
  clear h0 n2 s3
  have h0 := G.blk 0 rfl; try have h1 := G.blk 1 rfl; try have h2 := G.blk 2 rfl; try have h3 := G.blk 3 rfl; try have h4 := G.blk 4 rfl; try have h5 := G.blk 5 rfl
  have hTy3 : Ty w3 ux us uf S' := ⟨hTy.tr.kp k13, hTy.ch, hTy.fn, hTy.sb, hTy.fb⟩
  (repeat refine Zlr ?_)
  have g0 := h0
  refine k_h (fun w' => Kp No w3 w') [(0, false), (2, false), (1, true), (3, true), (4, false), (5, true), (6, false)] 6 (by kernel_rfl) (waits_of_last (by kernel_rfl)) (by kernel_rfl) (by kernel_rfl) (by kernel_rfl) rfl (fun w4 k4 _ => ?_)
  refine h_v k4 (fun w' hw => r_ldw rfl (hw.get0 g0) rfl rfl) ?_
  refine h_v k4 (fun w' hw => r_ldw rfl (hw.get0 g0) rfl rfl) ?_
  refine h_call (us := []) (zs := []) (by kernel_rfl) rfl rfl (firstsF (w := w4) ⟨hTy3.tr.kp k4, hTy3.ch, hTy3.fn, hTy3.sb, hTy3.fb⟩) ?_
  rintro _ w5 ⟨⟨fs, rfl⟩, k5⟩
  have k5 := k4.no k5
  refine ⟨fun _ => k5, ?_⟩
  refine h_call (us := []) (zs := []) (by kernel_rfl) rfl rfl (allF hTy3 hW k5) ?_
  rintro nv w6 ⟨hN, k6⟩
  have W9 : Wel nx9 := by rw [← hnx]; exact hW.wel
  rw [hnx] at hN
  obtain ⟨va, vc, rfl⟩ := hN.val
  have k6 := k5.no k6
  refine ⟨fun _ => k6, ?_⟩
  refine h_v k6 (fun w' hw => r_bd rfl) ?_
  refine h_call (us := []) (zs := []) (by kernel_rfl) rfl rfl (ofF (fs := fs) W9 hN) ?_
  rintro _ w7 ⟨g, vs, base, rfl, hB, k7⟩
  have k7 := k6.no k7
  refine ⟨fun _ => k7, ?_⟩
  refine h_v k7 (fun w' hw => r_as rfl) ?_
  refine h_nil ?_
  obtain ⟨v0, hv0⟩ : ∃ v, vs[0]? = some v := ⟨_, List.getElem?_eq_getElem (by rw [hB.len]; decide)⟩
  obtain ⟨v1, hv1⟩ : ∃ v, vs[1]? = some v := ⟨_, List.getElem?_eq_getElem (by rw [hB.len]; decide)⟩
  have o0 := hB.own 0 v0 _ hv0 rfl
  have o1 := hB.own 1 v1 _ hv1 rfl
  have cl0 : w7.cell? ⟨g, 0 + (0 : Int).toNat * 1, none⟩ = some v0.v := blk_cells hB.blk 0 v0.v (by rw [List.getElem?_map, hv0]; rfl)
  have cl1 : w7.cell? ⟨g, 0 + (1 : Int).toNat * 1, none⟩ = some v1.v := blk_cells hB.blk 1 v1.v (by rw [List.getElem?_map, hv1]; rfl)
  have rr : ∀ {v : Sl}, w7.ownsRow base tLean 2 v.v 1 [.int .i64 1, .int .i64 0] → ∃ bg cc, v.v = .slice (some ⟨bg, 0, none⟩) 1 cc ∧ ∀ j, j < 2 → w7.cell? ⟨bg, 0 + (0 : Int).toNat * 2 + j, none⟩ = [Value.int .i64 1, .int .i64 0][j]? := fun {v} ho => by
    obtain ⟨a, c, e, _, h0, hr⟩ := own_read ho
    cases a with
    | none => have := h0 rfl; omega
    | some ad =>
      obtain ⟨bg, rfl, _, _, hc⟩ := hr _ rfl
      refine ⟨bg, c, e, fun j hj => ?_⟩
      match j, hj with
      | 0, _ => exact hc 0 _ rfl
      | 1, _ => exact hc 1 _ rfl
  obtain ⟨bg0, c0, e0, r0⟩ := rr o0
  obtain ⟨bg1, c1, e1, r1⟩ := rr o1
  rw [e0] at cl0
  rw [e1] at cl1
  (repeat refine Zlr ?_)
  (repeat (first | refine Zlr ?_ | refine Zn ?_ | refine Zu ?_ | refine Zg ?_ | refine Zgl ?_))
  refine s_set 20 true rfl (by decide) ?_
  (repeat (first | refine Zlr ?_ | refine Zn ?_ | refine Zu ?_ | refine Zg ?_ | refine Zgl ?_))
  try (refine s_gv rfl (r_ia (size := 1) rfl rfl rfl rfl (by decide) (by decide)) ?_; (repeat (first | refine Zlr ?_ | refine Zn ?_ | refine Zu ?_ | refine Zg ?_ | refine Zgl ?_)))
  try (refine s_gv rfl (r_ld rfl rfl cl0) ?_; (repeat (first | refine Zlr ?_ | refine Zn ?_ | refine Zu ?_ | refine Zg ?_ | refine Zgl ?_)))
  refine s_set 27 true rfl (by decide) ?_
  (repeat (first | refine Zlr ?_ | refine Zn ?_ | refine Zu ?_ | refine Zg ?_ | refine Zgl ?_))
  try (refine s_gv rfl (r_ia (size := 1) rfl rfl rfl rfl (by decide) (by decide)) ?_; (repeat (first | refine Zlr ?_ | refine Zn ?_ | refine Zu ?_ | refine Zg ?_ | refine Zgl ?_)))
  try (refine s_gv rfl (r_ld rfl rfl cl0) ?_; (repeat (first | refine Zlr ?_ | refine Zn ?_ | refine Zu ?_ | refine Zg ?_ | refine Zgl ?_)))
  try (refine s_gv rfl (r_ia (size := 2) rfl rfl rfl rfl (by decide) (by decide)) ?_; (repeat (first | refine Zlr ?_ | refine Zn ?_ | refine Zu ?_ | refine Zg ?_ | refine Zgl ?_)))
  refine s_gv rfl (r_lda (n := 2) (vs := [.int .i64 1, .int .i64 0]) rfl rfl rfl rfl r0) ?_
  (repeat (first | refine Zlr ?_ | refine Zn ?_ | refine Zu ?_ | refine Zg ?_ | refine Zgl ?_))
  refine s_gv rfl (r_eqs [tLean] (by kernel_rfl) (by kernel_rfl) rfl rfl rfl) ?_
  (repeat (first | refine Zlr ?_ | refine Zn ?_ | refine Zu ?_ | refine Zg ?_ | refine Zgl ?_))
  refine s_set 36 true rfl (by decide) ?_
  (repeat (first | refine Zlr ?_ | refine Zn ?_ | refine Zu ?_ | refine Zg ?_ | refine Zgl ?_))
  try (refine s_gv rfl (r_ia (size := 1) rfl rfl rfl rfl (by decide) (by decide)) ?_; (repeat (first | refine Zlr ?_ | refine Zn ?_ | refine Zu ?_ | refine Zg ?_ | refine Zgl ?_)))
  try (refine s_gv rfl (r_ld rfl rfl cl1) ?_; (repeat (first | refine Zlr ?_ | refine Zn ?_ | refine Zu ?_ | refine Zg ?_ | refine Zgl ?_)))
  refine s_set 43 true rfl (by decide) ?_
  (repeat (first | refine Zlr ?_ | refine Zn ?_ | refine Zu ?_ | refine Zg ?_ | refine Zgl ?_))
  try (refine s_gv rfl (r_ia (size := 1) rfl rfl rfl rfl (by decide) (by decide)) ?_; (repeat (first | refine Zlr ?_ | refine Zn ?_ | refine Zu ?_ | refine Zg ?_ | refine Zgl ?_)))
  try (refine s_gv rfl (r_ld rfl rfl cl1) ?_; (repeat (first | refine Zlr ?_ | refine Zn ?_ | refine Zu ?_ | refine Zg ?_ | refine Zgl ?_)))
  try (refine s_gv rfl (r_ia (size := 2) rfl rfl rfl rfl (by decide) (by decide)) ?_; (repeat (first | refine Zlr ?_ | refine Zn ?_ | refine Zu ?_ | refine Zg ?_ | refine Zgl ?_)))
  refine s_gv rfl (r_lda (n := 2) (vs := [.int .i64 1, .int .i64 0]) rfl rfl rfl rfl r1) ?_
  (repeat (first | refine Zlr ?_ | refine Zn ?_ | refine Zu ?_ | refine Zg ?_ | refine Zgl ?_))
  refine s_gv rfl (r_eqs [tLean] (by kernel_rfl) (by kernel_rfl) rfl rfl rfl) ?_
  (repeat (first | refine Zlr ?_ | refine Zn ?_ | refine Zu ?_ | refine Zg ?_ | refine Zgl ?_))
  exact ret_c1 rfl (rv_t rfl) ⟨congrArg Value.bool (by decide), k1.no (k13.no k7)⟩
end Go.Proofs.Ytkllhfajldnpoaa.Ck
