/- LeanFalls: walked. -/
import Derived.Test.YtkllhfajldnpoaaLi
namespace Go.Proofs.Ytkllhfajldnpoaa.Ck
open Go Go.RowKit Fw Sy Rf Fn
set_option linter.unusedVariables false
set_option maxRecDepth 20000
set_option maxHeartbeats 2000000 in
theorem leanFallsF (s : ByteArray) (w : World) : Ret Try.prog 9 [.string s] w (fun v w1 => v = .bool true ∧ Kp No w w1) := by
  refine ret_enter Try.func9 rfl Try.ntmps9 rfl ?_
  (repeat refine Zlr ?_)
  refine s_call (us := []) (zs := []) (by kernel_rfl) rfl rfl (awake9F w) ?_
  rintro _ w1 ⟨rfl, k1⟩
  (repeat refine Zlr ?_)
  refine c_f rfl ?_
  (repeat refine Zlr ?_)
  refine s_call (us := []) (zs := []) (by kernel_rfl) rfl rfl (rightF s w1) ?_
  rintro _ w2 ⟨ux, us, uf, b, rfl, k2, hT, _⟩
  have G := (Lw.start w).no (k1.no k2)
  (repeat refine Zlr ?_)
  refine s_al rfl (fun b3 w3 n3 => ?_)
  have G := G.new n3
  have h0 := G.blk 0 rfl; try have h1 := G.blk 1 rfl; try have h2 := G.blk 2 rfl; try have h3 := G.blk 3 rfl; try have h4 := G.blk 4 rfl; try have h5 := G.blk 5 rfl
  (repeat refine Zlr ?_)
  refine s_stw (vs := [ux.v, us.v, uf.v]) rfl rfl rfl rfl rfl h0 rfl (fun w4 s4 => ?_)
  have G : Lw w No w4 [(b3, [ux.v, us.v, uf.v], tTree)] := G.put 0 rfl s4
  have k24 : Kp No w2 w4 := n3.kp.trans s4.kp fun i hi e => (by have := n3.ge; have e : i = b3 := e; omega)
  clear h0 n3 s4 k1
  have h0 := G.blk 0 rfl; try have h1 := G.blk 1 rfl; try have h2 := G.blk 2 rfl; try have h3 := G.blk 3 rfl; try have h4 := G.blk 4 rfl; try have h5 := G.blk 5 rfl
  (repeat refine Zlr ?_)
  cases b with
  | false =>
    refine c_t rfl ?_
    (repeat refine Zlr ?_)
    exact ret_c1 rfl (rv_t rfl) ⟨rfl, G.kE⟩
  | true =>
  refine c_f rfl ?_
  obtain ⟨S, _, hS, hTy, hW⟩ := hT rfl
  have K4 := G.kE
  have T4 : Ty w4 ux us uf S := ⟨hTy.tr.kp k24, hTy.ch, hTy.fn, hTy.sb, hTy.fb⟩
  have husn := hTy.usn
  have hsb := hTy.sb
  obtain ⟨hfl, hfs⟩ := falL_spec hW
  (repeat refine Zlr ?_)
  refine s_call (us := []) (zs := []) (by kernel_rfl) rfl rfl (fallsF T4) ?_
  rintro _ w5 ⟨go, rfl, _, hgo, k5⟩
  have h0 := k5.get0 h0
  (repeat refine Zlr ?_)
  refine c_ne rfl (fun h => (h (by omega)).elim) (fun _ => ?_)
  (repeat refine Zlr ?_)
  refine s_call (us := []) (zs := []) (by kernel_rfl) rfl rfl (placesF T4 k5) ?_
  rintro _ w6 ⟨g, rfl, hP, hg, k6⟩
  have hgo := k6.get0 hgo
  have h0 := k6.get0 h0
  have k6 := k5.no k6
  (repeat refine Zlr ?_)
  refine k_loop (σ := Nat) (fun i => [(3, .pointer (some ⟨b3, 0, none⟩)), (5, .slice (some ⟨go, 0, none⟩) S.st.length S.st.length), (6, .slice (some ⟨g, 0, none⟩) S.st.length S.st.length), (28, .int .i64 (S.st.length : Int)), (29, .int .i64 (i : Int))])
    (fun i w' => i ≤ S.st.length ∧ Kp No w6 w') (fun i => S.st.length - i) 0 ⟨rfl, rfl, rfl, rfl, rfl, trivial⟩ ⟨Nat.zero_le _, Kp.refl _ _⟩ ?_
  rintro i l7 w7 ⟨hi, k7⟩
  (repeat refine Zlr ?_)
  refine c_dec rfl (fun hlt => ?_) (fun hge => ?_)
  · have hlt : i < S.st.length := by omega
    have hni : Nd S.st.length (i : Int) := ⟨by omega, by omega⟩
    have h0 := k7.get0 h0
    have cy : ∀ w', Kp No w7 w' → w'.cell? ⟨go, 0 + (i : Int).toNat * 1, none⟩ = some (.int .i64 (gi (falL S.st (S.fn.map Sy.Fn.bd)) (i : Int))) := fun w' k => (k7.no k).cell0 (cell_i hgo hni.1 (by omega))
    (repeat refine Zlr ?_)
    refine k_h (fun w' => Kp No w7 w') [(0, false), (1, false), (2, false), (3, false), (4, false), (5, false), (6, false), (7, true), (8, false)] 8 (by kernel_rfl) (waits_of_last (by kernel_rfl)) (by kernel_rfl) (by kernel_rfl) (by kernel_rfl) rfl (fun w8 k8 _ => ?_)
    have g0 := h0
    refine h_v k8 (fun w' hw => r_mv rfl) ?_
    refine h_v k8 (fun w' hw => r_mv rfl) ?_
    refine h_v k8 (fun w' hw => r_ia (size := 1) rfl rfl rfl rfl (by omega) (by omega)) ?_
    refine h_v k8 (fun w' hw => r_ld rfl rfl (cy w' hw)) ?_
    refine h_v k8 (fun w' hw => r_ldw rfl (hw.get0 g0) rfl rfl) ?_
    refine h_v k8 (fun w' hw => r_mv rfl) ?_
    refine h_v k8 (fun w' hw => r_mv rfl) ?_
    refine h_call (us := []) (zs := []) (by kernel_rfl) rfl rfl (behF T4 hW.T hW.pos _ (i : Int) hni (Nat.le_refl _) (k6.no (k7.no k8)) (hP.no (k7.no k8))) ?_
    rintro _ w9 ⟨rfl, k9⟩
    have k9 := k8.no k9
    refine ⟨fun _ => k9, ?_⟩
    rw [hfs _ hni]
    refine h_v k9 (fun w' hw => r_bin rfl) ?_
    refine h_nil ?_
    (repeat refine Zlr ?_)
    refine c_ne rfl (fun h => (h rfl).elim) (fun _ => ?_)
    (repeat refine Zlr ?_)
    exact l_next (i + 1) ⟨rfl, rfl, rfl, rfl, rfl, trivial⟩ ⟨hlt, k7.no k9⟩ (by show S.st.length - (i + 1) < S.st.length - i; omega)
  · (repeat refine Zlr ?_)
    exact ret_c1 rfl (rv_t rfl) ⟨rfl, (K4.no k6).no k7⟩
end Go.Proofs.Ytkllhfajldnpoaa.Ck
