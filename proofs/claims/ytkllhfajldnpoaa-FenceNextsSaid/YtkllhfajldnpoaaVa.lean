/- The law FenceNexts: walked. -/
import Derived.Test.YtkllhfajldnpoaaPk11
namespace Go.Proofs.Ytkllhfajldnpoaa.Ck
open Go Go.RowKit Fw Sy Rf Fn
set_option linter.unusedVariables false
set_option maxRecDepth 20000
set_option maxHeartbeats 2000000 in
theorem fenceNextsF (s : ByteArray) (w : World) : Ret Try.prog 3 [.string s] w (fun v w1 => v = .bool true ∧ Kp No w w1) := by
  refine ret_enter Try.func3 rfl Try.ntmps3 rfl ?_
  (repeat refine Zlr ?_)
  refine s_call (us := []) (zs := []) (by kernel_rfl) rfl rfl (awake8F w) ?_
  rintro _ w1 ⟨rfl, k1⟩
  (repeat refine Zlr ?_)
  refine c_f rfl ?_
  (repeat refine Zlr ?_)
  refine s_call (us := []) (zs := []) (by kernel_rfl) rfl rfl (graphF s w1) ?_
  rintro _ w2 ⟨fs, nv, b, rfl, k2, hG⟩
  have G := (Lw.start w).no (k1.no k2)
  (repeat refine Zlr ?_)
  refine s_al rfl (fun b3 w3 n3 => ?_)
  have G := G.new n3
  have h0 := G.blk 0 rfl; try have h1 := G.blk 1 rfl; try have h2 := G.blk 2 rfl; try have h3 := G.blk 3 rfl; try have h4 := G.blk 4 rfl; try have h5 := G.blk 5 rfl
  (repeat refine Zlr ?_)
  refine s_stw (vs := [fs.v, nv.v]) rfl rfl rfl rfl rfl h0 rfl (fun w4 s4 => ?_)
  have G : Lw w No w4 [(b3, [fs.v, nv.v], tGr)] := G.put 0 rfl s4
  have k24 : Kp No w2 w4 := n3.kp.trans s4.kp fun i hi e => (by have := n3.ge; have e : i = b3 := e; omega)
  clear h0 n3 s4 k1 k2
  have h0 := G.blk 0 rfl; try have h1 := G.blk 1 rfl; try have h2 := G.blk 2 rfl; try have h3 := G.blk 3 rfl; try have h4 := G.blk 4 rfl; try have h5 := G.blk 5 rfl
  (repeat refine Zlr ?_)
  cases b with
  | false =>
    refine c_t rfl ?_
    (repeat refine Zlr ?_)
    exact ret_c1 rfl (rv_t rfl) ⟨rfl, G.kE⟩
  | true =>
  refine c_f rfl ?_
  obtain ⟨S, hs8, hS, hW, hn1, hn40, hN⟩ := hG rfl
  have hN := hN.kp k24
  have W := hW.wel
  obtain ⟨nx, hnx⟩ : ∃ nx, nxS S = nx := ⟨_, rfl⟩
  rw [hnx] at hN W hn1 hn40
  have hb : nx.length ≤ 1000 := by omega
  obtain ⟨va, vc, e⟩ := hN.val
  obtain ⟨na, nn, nc⟩ := nv
  simp only [Sl.v, Value.slice.injEq] at e
  obtain ⟨rfl, rfl, rfl⟩ := e
  have hN : NX w4 (.slice na nx.length nc) nx := hN
  have K4 := G.kE
  (repeat refine Zlr ?_)
  refine s_call (us := []) (zs := []) (by kernel_rfl) rfl rfl (nextFn (fs := fs) W hb hn1 hN) ?_
  rintro _ w5 ⟨g, rfl, hf, k5⟩
  (repeat refine Zlr ?_)
  refine c_ne rfl (fun h => (h rfl).elim) (fun _ => ?_)
  (repeat refine Zlr ?_)
  have hfl : (fenL nx).length = nx.length := W.fen.len
  obtain ⟨_, _, e, hfat⟩ := li_at hf
  rw [Value.slice.injEq] at e
  obtain ⟨rfl, _, rfl⟩ := e
  refine k_loop (σ := Nat) (fun i => [(4, .slice na nx.length nc), (6, .slice (some ⟨g, 0, none⟩) nx.length nx.length), (26, .int .i64 (nx.length : Int)), (27, .int .i64 (i : Int))])
    (fun i w' => i ≤ nx.length ∧ Kp No w5 w') (fun i => nx.length - i) 0 ⟨rfl, rfl, rfl, rfl, trivial⟩ ⟨Nat.zero_le _, Kp.refl _ _⟩ ?_
  rintro i l6 w6 ⟨hi, k6⟩
  (repeat refine Zlr ?_)
  refine c_dec rfl (fun hlt => ?_) (fun hge => ?_)
  · have hlt : i < nx.length := by omega
    have hni : Nd nx.length (i : Int) := ⟨by omega, by omega⟩
    obtain ⟨y, hy⟩ : ∃ y, (fenL nx)[i]? = some y := ⟨_, List.getElem?_eq_getElem (by omega)⟩
    have hgy : gi (fenL nx) (i : Int) = y := by unfold gi; rw [List.getD_eq_getElem?_getD, Int.toNat_natCast, hy]; rfl
    obtain ⟨g', hg', hc⟩ := hfat i y hy
    cases hg'
    have cy : ∀ w', Kp No w6 w' → w'.cell? ⟨g, 0 + (i : Int).toNat * 1, none⟩ = some (.int .i64 y) := fun w' k => hc w' (k6.no k)
    (repeat refine Zlr ?_)
    refine k_h (fun w' => Kp No w6 w') [(0, false), (1, false), (2, false), (3, false), (4, false), (5, false), (6, true), (7, false)] 7 (by kernel_rfl) (waits_of_last (by kernel_rfl)) (by kernel_rfl) (by kernel_rfl) (by kernel_rfl) rfl (fun w7 k7 _ => ?_)
    refine h_v k7 (fun w' hw => r_mv rfl) ?_
    refine h_v k7 (fun w' hw => r_mv rfl) ?_
    refine h_v k7 (fun w' hw => r_ia (size := 1) rfl rfl rfl rfl (by omega) (by omega)) ?_
    refine h_v k7 (fun w' hw => r_ld rfl rfl (cy w' hw)) ?_
    refine h_v k7 (fun w' hw => r_mv rfl) ?_
    refine h_v k7 (fun w' hw => r_mv rfl) ?_
    refine h_call (us := []) (zs := []) (by kernel_rfl) rfl rfl (next8F W (hN.kp (k5.no (k6.no k7))) hb hni) ?_
    rintro _ w8 ⟨rfl, k8⟩
    have k8 := k7.no k8
    refine ⟨fun _ => k8, ?_⟩
    rw [W.nxR hni, hgy]
    refine h_v k8 (fun w' hw => r_bin rfl) ?_
    refine h_nil ?_
    (repeat refine Zlr ?_)
    refine c_ne rfl (fun h => (h rfl).elim) (fun _ => ?_)
    (repeat refine Zlr ?_)
    exact l_next (i + 1) ⟨rfl, rfl, rfl, rfl, trivial⟩ ⟨hlt, k6.no k8⟩ (by show nx.length - (i + 1) < nx.length - i; omega)
  · (repeat refine Zlr ?_)
    exact ret_c1 rfl (rv_t rfl) ⟨rfl, (K4.no k5).no k6⟩
end Go.Proofs.Ytkllhfajldnpoaa.Ck
