/- The law FenceRows: walked. -/
import Derived.Test.YtkllhfajldnpoaaPk11
namespace Go.Proofs.Ytkllhfajldnpoaa.Ck
open Go Go.RowKit Fw Sy Rf Fn
set_option linter.unusedVariables false
set_option maxRecDepth 20000
set_option maxHeartbeats 2000000 in
theorem fenceRowsF (s : ByteArray) (a : Int) (ha : 0 ≤ a ∧ a < 65536) (w : World) : Ret Try.prog 6 [.string s, .int .u16 a] w (fun v w1 => v = .bool true ∧ Kp No w w1) := by
  refine ret_enter Try.func6 rfl Try.ntmps6 rfl ?_
  (repeat refine Zlr ?_)
  refine s_call (us := []) (zs := []) (by kernel_rfl) rfl rfl (awake8F w) ?_
  rintro _ w1 ⟨rfl, k1⟩
  (repeat refine Zlr ?_)
  refine c_f rfl ?_
  (repeat refine Zlr ?_)
  refine s_call (us := []) (zs := []) (by kernel_rfl) rfl rfl (graphF s w1) ?_
  rintro _ w2 ⟨fs, nv, b, rfl, k2, hG⟩
  have G := (Lw.start w).no (k1.no k2)
  (repeat refine Zlr ?_)
  refine s_al rfl (fun b3 w3 n3 => ?_)
  have G := G.new n3
  have h0 := G.blk 0 rfl; try have h1 := G.blk 1 rfl; try have h2 := G.blk 2 rfl; try have h3 := G.blk 3 rfl; try have h4 := G.blk 4 rfl; try have h5 := G.blk 5 rfl
  (repeat refine Zlr ?_)
  refine s_stw (vs := [fs.v, nv.v]) rfl rfl rfl rfl rfl h0 rfl (fun w4 s4 => ?_)
  have G : Lw w No w4 [(b3, [fs.v, nv.v], tGr)] := G.put 0 rfl s4
  have k24 : Kp No w2 w4 := n3.kp.trans s4.kp fun i hi e => (by have := n3.ge; have e : i = b3 := e; omega)
  clear h0 n3 s4 k1 k2
  have h0 := G.blk 0 rfl; try have h1 := G.blk 1 rfl; try have h2 := G.blk 2 rfl; try have h3 := G.blk 3 rfl; try have h4 := G.blk 4 rfl; try have h5 := G.blk 5 rfl
  (repeat refine Zlr ?_)
  cases b with
  | false =>
    refine c_t rfl ?_
    (repeat refine Zlr ?_)
    exact ret_c1 rfl (rv_t rfl) ⟨rfl, G.kE⟩
  | true =>
  refine c_f rfl ?_
  obtain ⟨S, hs8, hS, hW, hn1, hn40, hN⟩ := hG rfl
  have hN := hN.kp k24
  have W := hW.wel
  obtain ⟨nx, hnx⟩ : ∃ nx, nxS S = nx := ⟨_, rfl⟩
  rw [hnx] at hN W hn1 hn40
  have hb : nx.length ≤ 1000 := by omega
  obtain ⟨va, vc, e⟩ := hN.val
  obtain ⟨na, nn, nc⟩ := nv
  simp only [Sl.v, Value.slice.injEq] at e
  obtain ⟨rfl, rfl, rfl⟩ := e
  have hN : NX w4 (.slice na nx.length nc) nx := hN
  have K4 := G.kE
  have hnp : (0 : Int) < nx.length := by omega
  obtain ⟨x, hxe⟩ : ∃ x : Int, a % (nx.length : Int) = x := ⟨_, rfl⟩
  have hx0 : 0 ≤ x := by rw [← hxe]; exact Int.emod_nonneg _ (by omega)
  have hxN : x < nx.length := by rw [← hxe]; exact Int.emod_lt_of_pos _ hnp
  have hx : Nd nx.length x := ⟨hx0, hxN⟩
  (repeat refine Zlr ?_)
  have g0 := h0
  refine k_h (fun w' => Kp No w4 w') [(0, false), (1, false), (2, false), (3, false), (4, false), (5, false), (6, true), (7, false)] 7 (by kernel_rfl) (waits_of_last (by kernel_rfl)) (by kernel_rfl) (by kernel_rfl) (by kernel_rfl) rfl (fun w5 k5 _ => ?_)
  refine h_v k5 (fun w' hw => r_ldw rfl (hw.get0 g0) rfl rfl) ?_
  refine h_v k5 (fun w' hw => r_mv rfl) ?_
  refine h_v k5 (fun w' hw => r_cvi (k' := .u16) (k := .i64) rfl rfl rfl (wrap_in (by omega))) ?_
  refine h_v k5 (fun w' hw => r_mv rfl) ?_
  refine h_v k5 (fun w' hw => r_len rfl) ?_
  refine h_v k5 (fun w' hw => r_rem (p := a) (q := (nx.length : Int)) rfl rfl (by omega) (by omega)) ?_
  rw [hxe]
  refine h_call (us := []) (zs := []) (by kernel_rfl) rfl rfl (allFn (fs := fs) W hb hn1 (hN.kp k5) (.inr hx)) ?_
  rintro u w6 ⟨hl, k6⟩
  obtain ⟨la, lc, rfl⟩ := hl.val
  have k6 := k5.no k6
  refine ⟨fun _ => k6, ?_⟩
  refine h_v k6 (fun w' hw => r_as rfl) ?_
  refine h_nil ?_
  obtain ⟨L, hL⟩ : ∃ L, chL nx x = L := ⟨_, rfl⟩
  have hnd : L.Nodup := by rw [← hL]; exact W.ch_nodup x (.inr hx)
  have hmem : ∀ z ∈ L, z = -1 ∨ Nd nx.length z := fun z hz => W.nd (.inr hx) ((W.ch_mem x (.inr hx) z).1 (by rw [hL]; exact hz))
  have hdr : ∀ (i : Nat) (z : Int), L[i]? = some z → chL nx z = L.drop i := fun i z hz => by
    have := W.ch_drop x (.inr hx) i z (by rw [hL]; exact hz)
    rw [hL] at this; exact this
  have hfen : ∀ (i k : Nat) (z y : Int), L[i]? = some z → L[k]? = some y → decide (y ∈ chL nx z) = decide ((k : Int) ≥ (i : Int)) := fun i k z y hz hy => by
    rw [hdr i z hz]
    apply decide_eq_decide.2
    constructor
    · intro h
      obtain ⟨j, hj⟩ := List.getElem?_of_mem h
      rw [List.getElem?_drop] at hj
      have := idx_inj hnd hj hy
      omega
    · intro h
      refine List.mem_of_getElem? (i := k - i) ?_
      rw [List.getElem?_drop, show i + (k - i) = k by omega]
      exact hy
  rw [hL] at hl ⊢
  obtain ⟨_, _, e, hlat⟩ := li_at hl
  cases e
  have hll : L.length ≤ 9223372036854775807 := by have := own_mx hl; unfold maxLen at this; omega
  have h0 := k6.get0 g0
  clear g0
  (repeat refine Zlr ?_)
  refine k_loop (σ := Nat) (fun i => [(5, .pointer (some ⟨b3, 0, none⟩)), (8, .slice la L.length lc), (30, .slice la L.length lc), (31, .int .i64 (L.length : Int)), (32, .int .i64 (i : Int))])
    (fun i w' => i ≤ L.length ∧ Kp No w6 w') (fun i => L.length - i) 0 ⟨rfl, rfl, rfl, rfl, rfl, trivial⟩ ⟨Nat.zero_le _, Kp.refl _ _⟩ ?_
  rintro i l7 w7 ⟨hi, k7⟩
  (repeat refine Zlr ?_)
  refine c_dec rfl (fun hlt => ?_) (fun hge => ?_)
  · have hlt : i < L.length := by omega
    obtain ⟨z, hz⟩ : ∃ z, L[i]? = some z := ⟨_, List.getElem?_eq_getElem hlt⟩
    obtain ⟨lg, hla, hlc⟩ := hlat i z hz
    have hls : Value.slice la L.length lc = .slice (some ⟨lg, 0, none⟩) L.length lc := by rw [hla]
    (repeat refine Zlr ?_)
    refine s_v (r_ia (size := 1) rfl rfl hls rfl (by omega) (by omega)) ?_
    refine s_v (r_ld rfl rfl (hlc _ k7)) ?_
    (repeat refine Zlr ?_)
    refine k_loop (σ := Nat) (fun k => [(5, .pointer (some ⟨b3, 0, none⟩)), (8, .slice la L.length lc), (9, .int .i64 (i : Int)), (10, .int .i64 z), (30, .slice la L.length lc), (31, .int .i64 (L.length : Int)), (32, .int .i64 (i : Int)), (37, .slice la L.length lc), (38, .int .i64 (L.length : Int)), (39, .int .i64 (k : Int))])
      (fun k w' => k ≤ L.length ∧ Kp No w6 w') (fun k => L.length - k) 0 ⟨rfl, rfl, rfl, rfl, rfl, rfl, rfl, rfl, rfl, rfl, trivial⟩ ⟨Nat.zero_le _, k7⟩ ?_
    clear k7
    rintro k l8 w8 ⟨hk, k8⟩
    have h0 := k8.get0 h0
    (repeat refine Zlr ?_)
    refine c_dec rfl (fun hlk => ?_) (fun hgk => ?_)
    · have hlk : k < L.length := by omega
      obtain ⟨y, hy⟩ : ∃ y, L[k]? = some y := ⟨_, List.getElem?_eq_getElem hlk⟩
      obtain ⟨lg2, hla2, hlc2⟩ := hlat k y hy
      cases hla.symm.trans hla2
      (repeat refine Zlr ?_)
      refine s_v (r_ia (size := 1) rfl rfl hls rfl (by omega) (by omega)) ?_
      refine s_v (r_ld rfl rfl (hlc2 _ k8)) ?_
      (repeat refine Zlr ?_)
      by_cases hz0 : z ≥ 0
      · have hzn : Nd nx.length z := (hmem z (List.mem_of_getElem? hz)).resolve_left (by omega)
        refine s_set 46 true rfl (decide_eq_true hz0) ?_
        (repeat (first | refine Zlr ?_ | refine Zn ?_ | refine Zu ?_ | refine Zg ?_ | refine Zgl ?_))
        refine s_gcall (us := []) (zs := []) rfl (by kernel_rfl) rfl rfl (fencesFn (fs := fs) W hb hn1 (hN.kp (k6.no k8)) y (.inr hzn)) ?_
        rintro _ w9 ⟨rfl, k9⟩
        rw [hfen i k z y hz hy]
        (repeat (first | refine Zlr ?_ | refine Zn ?_ | refine Zu ?_ | refine Zg ?_ | refine Zgl ?_))
        refine s_gv rfl (r_bne rfl rfl rfl) ?_
        (repeat (first | refine Zlr ?_ | refine Zn ?_ | refine Zu ?_ | refine Zg ?_ | refine Zgl ?_))
        refine c_f (congrArg Value.bool (by simp)) ?_
        (repeat refine Zlr ?_)
        exact l_next (k + 1) ⟨rfl, rfl, rfl, rfl, rfl, rfl, rfl, rfl, rfl, rfl, trivial⟩ ⟨hlk, k8.no k9⟩ (by show L.length - (k + 1) < L.length - k; omega)
      · refine s_set 46 false rfl (decide_eq_false hz0) ?_
        (repeat (first | refine Zlr ?_ | refine Zn ?_ | refine Zu ?_ | refine Zg ?_ | refine Zgl ?_))
        refine c_f rfl ?_
        (repeat refine Zlr ?_)
        exact l_next (k + 1) ⟨rfl, rfl, rfl, rfl, rfl, rfl, rfl, rfl, rfl, rfl, trivial⟩ ⟨hlk, k8⟩ (by show L.length - (k + 1) < L.length - k; omega)
    · (repeat refine Zlr ?_)
      exact l_next (i + 1) ⟨rfl, rfl, rfl, rfl, rfl, trivial⟩ ⟨hlt, k8⟩ (by show L.length - (i + 1) < L.length - i; omega)
  · (repeat refine Zlr ?_)
    exact ret_c1 rfl (rv_t rfl) ⟨rfl, (K4.no k6).no k7⟩
end Go.Proofs.Ytkllhfajldnpoaa.Ck
