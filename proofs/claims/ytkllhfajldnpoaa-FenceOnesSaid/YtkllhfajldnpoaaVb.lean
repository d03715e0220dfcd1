/- The law FenceOnes: walked. -/
import Derived.Test.YtkllhfajldnpoaaPk11
namespace Go.Proofs.Ytkllhfajldnpoaa.Ck
open Go Go.RowKit Fw Sy Rf Fn
set_option linter.unusedVariables false
set_option maxRecDepth 20000
set_option maxHeartbeats 2000000 in
theorem fenceOnesF (s : ByteArray) (a : Int) (ha : 0 ≤ a ∧ a < 65536) (w : World) : Ret Try.prog 4 [.string s, .int .u16 a] w (fun v w1 => v = .bool true ∧ Kp No w w1) := by
  refine ret_enter Try.func4 rfl Try.ntmps4 rfl ?_
  (repeat refine Zlr ?_)
  refine s_call (us := []) (zs := []) (by kernel_rfl) rfl rfl (awake8F w) ?_
  rintro _ w1 ⟨rfl, k1⟩
  (repeat refine Zlr ?_)
  refine c_f rfl ?_
  (repeat refine Zlr ?_)
  refine s_call (us := []) (zs := []) (by kernel_rfl) rfl rfl (graphF s w1) ?_
  rintro _ w2 ⟨fs, nv, b, rfl, k2, hG⟩
  have G := (Lw.start w).no (k1.no k2)
  (repeat refine Zlr ?_)
  refine s_al rfl (fun b3 w3 n3 => ?_)
  have G := G.new n3
  have h0 := G.blk 0 rfl; try have h1 := G.blk 1 rfl; try have h2 := G.blk 2 rfl; try have h3 := G.blk 3 rfl; try have h4 := G.blk 4 rfl; try have h5 := G.blk 5 rfl
  (repeat refine Zlr ?_)
  refine s_stw (vs := [fs.v, nv.v]) rfl rfl rfl rfl rfl h0 rfl (fun w4 s4 => ?_)
  have G : Lw w No w4 [(b3, [fs.v, nv.v], tGr)] := G.put 0 rfl s4
  have k24 : Kp No w2 w4 := n3.kp.trans s4.kp fun i hi e => (by have := n3.ge; have e : i = b3 := e; omega)
  clear h0 n3 s4 k1 k2
  have h0 := G.blk 0 rfl; try have h1 := G.blk 1 rfl; try have h2 := G.blk 2 rfl; try have h3 := G.blk 3 rfl; try have h4 := G.blk 4 rfl; try have h5 := G.blk 5 rfl
  (repeat refine Zlr ?_)
  cases b with
  | false =>
    refine c_t rfl ?_
    (repeat refine Zlr ?_)
    exact ret_c1 rfl (rv_t rfl) ⟨rfl, G.kE⟩
  | true =>
  refine c_f rfl ?_
  obtain ⟨S, hs8, hS, hW, hn1, hn40, hN⟩ := hG rfl
  have hN := hN.kp k24
  have W := hW.wel
  obtain ⟨nx, hnx⟩ : ∃ nx, nxS S = nx := ⟨_, rfl⟩
  rw [hnx] at hN W hn1 hn40
  have hb : nx.length ≤ 1000 := by omega
  obtain ⟨va, vc, e⟩ := hN.val
  obtain ⟨na, nn, nc⟩ := nv
  simp only [Sl.v, Value.slice.injEq] at e
  obtain ⟨rfl, rfl, rfl⟩ := e
  have hN : NX w4 (.slice na nx.length nc) nx := hN
  have K4 := G.kE
  have hnp : (0 : Int) < nx.length := by omega
  obtain ⟨x, hxe⟩ : ∃ x : Int, a % (nx.length : Int) = x := ⟨_, rfl⟩
  have hx0 : 0 ≤ x := by rw [← hxe]; exact Int.emod_nonneg _ (by omega)
  have hxN : x < nx.length := by rw [← hxe]; exact Int.emod_lt_of_pos _ hnp
  have hx : Nd nx.length x := ⟨hx0, hxN⟩
  (repeat refine Zlr ?_)
  try (refine s_v (r_cvi (k' := .u16) (k := .i64) rfl rfl rfl (wrap_in (by omega))) ?_; (repeat refine Zlr ?_))
  refine s_v (r_rem (p := a) (q := (nx.length : Int)) rfl rfl (by omega) (by omega)) ?_
  rw [hxe]
  (repeat refine Zlr ?_)
  refine s_call (us := []) (zs := []) (by kernel_rfl) rfl rfl (nextFn (fs := fs) W hb hn1 hN) ?_
  rintro _ w5 ⟨g, rfl, hf, k5⟩
  have hfl : (fenL nx).length = nx.length := W.fen.len
  obtain ⟨_, _, e, hfat⟩ := li_at hf
  rw [Value.slice.injEq] at e
  obtain ⟨rfl, _, rfl⟩ := e
  have rd : ∀ {i : Int}, Nd nx.length i → ∀ w', Kp No w5 w' → w'.cell? ⟨g, 0 + i.toNat * 1, none⟩ = some (.int .i64 (gi (fenL nx) i)) := fun {i} hi w' k => by
    have i0 := hi.1
    have iN := hi.2
    obtain ⟨y, hy⟩ : ∃ y, (fenL nx)[i.toNat]? = some y := ⟨_, List.getElem?_eq_getElem (by omega)⟩
    have hgy : gi (fenL nx) i = y := by unfold gi; rw [List.getD_eq_getElem?_getD, hy]; rfl
    obtain ⟨g', hg', hc⟩ := hfat _ y hy
    cases hg'
    have := hc w' k
    rw [show ((i.toNat : Nat) : Int).toNat = i.toNat by omega] at this
    rw [hgy]
    exact this
  have hN5 := hN.kp k5
  have cy := rd hx w5 (Kp.refl _ _)
  obtain ⟨y, hy⟩ : ∃ y, gi (fenL nx) x = y := ⟨_, rfl⟩
  rw [hy] at cy
  have hyn : y = -1 ∨ Nd nx.length y := by rw [← hy]; exact (W.fen.i1 x hx).imp id fun h => h.1
  have hyx : y ≠ x := by
    rw [← hy]
    intro e
    rcases W.fen.i1 x hx with h | h
    · omega
    · rw [e] at h; have := h.2; omega
  have hup : ∀ {b : Int}, Nd nx.length b → b ≠ x → fB nx b x = true → Nd nx.length y ∧ (b ≠ y → fB nx b y = true) := fun {b} hbn hne hbx => by
    have h1 := (W.fB hx (.inr hbn.1)).1 hbx
    have h2 : An (gr nx) (gi (fenL nx)) y b := by
      cases h1 with
      | rf => exact (hne rfl).elim
      | up _ h => rw [hy] at h; exact h
    have hy2 : Nd nx.length y := hyn.resolve_left fun e => by
      rw [e] at h2
      have := h2.exit
      have := hbn.1
      omega
    exact ⟨hy2, fun _ => (W.fB hy2 (.inr hbn.1)).2 h2⟩
  (repeat refine Zlr ?_)
  refine s_set 33 false rfl (by simp) ?_
  (repeat (first | refine Zlr ?_ | refine Zn ?_ | refine Zu ?_ | refine Zg ?_ | refine Zgl ?_))
  try (refine s_gv rfl (r_ia (size := 1) rfl rfl rfl rfl (by omega) (by omega)) ?_; (repeat (first | refine Zlr ?_ | refine Zn ?_ | refine Zu ?_ | refine Zg ?_ | refine Zgl ?_)))
  refine c_eq rfl (fun h => (hyx h).elim) (fun _ => ?_)
  (repeat refine Zlr ?_)
  refine k_loop (σ := Nat) (fun i => [(6, .slice na nx.length nc), (8, .int .i64 x), (9, .slice (some ⟨g, 0, none⟩) nx.length nx.length), (42, .int .i64 (nx.length : Int)), (43, .int .i64 (i : Int))])
    (fun i w' => i ≤ nx.length ∧ Kp No w5 w') (fun i => nx.length - i) 0 ⟨rfl, rfl, rfl, rfl, rfl, trivial⟩ ⟨Nat.zero_le _, Kp.refl _ _⟩ ?_
  rintro i l6 w6 ⟨hi, k6⟩
  (repeat refine Zlr ?_)
  refine c_dec rfl (fun hlt => ?_) (fun hge => ?_)
  · have hlt : i < nx.length := by omega
    have hni : Nd nx.length (i : Int) := ⟨by omega, by omega⟩
    (repeat refine Zlr ?_)
    by_cases hix : (i : Int) = x
    · refine s_set 49 false rfl (bne_eq_false_iff_eq.2 hix) ?_
      (repeat (first | refine Zlr ?_ | refine Zn ?_ | refine Zu ?_ | refine Zg ?_ | refine Zgl ?_))
      refine c_f rfl ?_
      (repeat refine Zlr ?_)
      exact l_next (i + 1) ⟨rfl, rfl, rfl, rfl, rfl, trivial⟩ ⟨hlt, k6⟩ (by show nx.length - (i + 1) < nx.length - i; omega)
    refine s_set 49 true rfl (bne_iff_ne.2 hix) ?_
    (repeat (first | refine Zlr ?_ | refine Zn ?_ | refine Zu ?_ | refine Zg ?_ | refine Zgl ?_))
    refine s_gcall (us := []) (zs := []) rfl (by kernel_rfl) rfl rfl (fencesF W (hN5.kp k6) hb (i : Int) hx) ?_
    rintro _ w7 ⟨rfl, k7⟩
    have k7 := k6.no k7
    obtain ⟨b1, hb1⟩ : ∃ b1, fB nx (i : Int) x = b1 := ⟨_, rfl⟩
    rw [hb1]
    cases b1 with
    | false =>
      (repeat (first | refine Zlr ?_ | refine Zn ?_ | refine Zu ?_ | refine Zg ?_ | refine Zgl ?_))
      refine c_f rfl ?_
      (repeat refine Zlr ?_)
      exact l_next (i + 1) ⟨rfl, rfl, rfl, rfl, rfl, trivial⟩ ⟨hlt, k7⟩ (by show nx.length - (i + 1) < nx.length - i; omega)
    | true =>
    obtain ⟨hyN, hyb⟩ := hup hni hix hb1
    have hy0 := hyN.1
    have cy7 := k7.cell0 cy
    (repeat (first | refine Zlr ?_ | refine Zn ?_ | refine Zu ?_ | refine Zg ?_ | refine Zgl ?_))
    try (refine s_gv rfl (r_ia (size := 1) rfl rfl rfl rfl (by omega) (by omega)) ?_; (repeat (first | refine Zlr ?_ | refine Zn ?_ | refine Zu ?_ | refine Zg ?_ | refine Zgl ?_)))
    refine s_set 61 false rfl (decide_eq_false (by omega)) ?_
    (repeat (first | refine Zlr ?_ | refine Zn ?_ | refine Zu ?_ | refine Zg ?_ | refine Zgl ?_))
    try (refine s_gv rfl (r_ia (size := 1) rfl rfl rfl rfl (by omega) (by omega)) ?_; (repeat (first | refine Zlr ?_ | refine Zn ?_ | refine Zu ?_ | refine Zg ?_ | refine Zgl ?_)))
    by_cases hiy : (i : Int) = y
    · refine s_set 68 false rfl (bne_eq_false_iff_eq.2 hiy) ?_
      (repeat (first | refine Zlr ?_ | refine Zn ?_ | refine Zu ?_ | refine Zg ?_ | refine Zgl ?_))
      refine c_f rfl ?_
      (repeat refine Zlr ?_)
      exact l_next (i + 1) ⟨rfl, rfl, rfl, rfl, rfl, trivial⟩ ⟨hlt, k7⟩ (by show nx.length - (i + 1) < nx.length - i; omega)
    refine s_set 68 true rfl (bne_iff_ne.2 hiy) ?_
    (repeat (first | refine Zlr ?_ | refine Zn ?_ | refine Zu ?_ | refine Zg ?_ | refine Zgl ?_))
    try (refine s_gv rfl (r_ia (size := 1) rfl rfl rfl rfl (by omega) (by omega)) ?_; (repeat (first | refine Zlr ?_ | refine Zn ?_ | refine Zu ?_ | refine Zg ?_ | refine Zgl ?_)))
    refine s_gcall (us := []) (zs := []) rfl (by kernel_rfl) rfl rfl (fencesF W (hN5.kp k7) hb (i : Int) hyN) ?_
    rintro _ w8 ⟨rfl, k8⟩
    rw [hyb hiy]
    (repeat (first | refine Zlr ?_ | refine Zn ?_ | refine Zu ?_ | refine Zg ?_ | refine Zgl ?_))
    refine c_f rfl ?_
    (repeat refine Zlr ?_)
    exact l_next (i + 1) ⟨rfl, rfl, rfl, rfl, rfl, trivial⟩ ⟨hlt, k7.no k8⟩ (by show nx.length - (i + 1) < nx.length - i; omega)
  · have cy6 := k6.cell0 cy
    (repeat refine Zlr ?_)
    refine s_v (r_ia (size := 1) rfl rfl rfl rfl (by omega) (by omega)) ?_
    refine s_v (r_ld rfl rfl cy6) ?_
    (repeat refine Zlr ?_)
    refine s_call (us := []) (zs := []) (by kernel_rfl) rfl rfl (fencesF W (hN5.kp k6) hb y hx) ?_
    rintro _ w7 ⟨rfl, k7⟩
    have hlast : fB nx y x = true := by
      refine (W.fB hx ?_).2 (.up (by exact hx) (by rw [hy]; exact .rf _))
      rcases hyn with h | h
      · exact .inl h
      · exact .inr h.1
    rw [hlast]
    (repeat refine Zlr ?_)
    exact ret_c1 rfl (rv_t rfl) ⟨rfl, ((K4.no k5).no k6).no k7⟩
end Go.Proofs.Ytkllhfajldnpoaa.Ck
