/- The law FenceChains: walked. -/
import Derived.Test.YtkllhfajldnpoaaPk11
namespace Go.Proofs.Ytkllhfajldnpoaa.Ck
open Go Go.RowKit Fw Sy Rf Fn
set_option linter.unusedVariables false
set_option maxRecDepth 20000
set_option maxHeartbeats 2000000 in
theorem fenceChainsF (s : ByteArray) (a : Int) (ha : 0 ≤ a ∧ a < 65536) (w : World) : Ret Try.prog 7 [.string s, .int .u16 a] w (fun v w1 => v = .bool true ∧ Kp No w w1) := by
  refine ret_enter Try.func7 rfl Try.ntmps7 rfl ?_
  (repeat refine Zlr ?_)
  refine s_call (us := []) (zs := []) (by kernel_rfl) rfl rfl (awake8F w) ?_
  rintro _ w1 ⟨rfl, k1⟩
  (repeat refine Zlr ?_)
  refine c_f rfl ?_
  (repeat refine Zlr ?_)
  refine s_call (us := []) (zs := []) (by kernel_rfl) rfl rfl (graphF s w1) ?_
  rintro _ w2 ⟨fs, nv, b, rfl, k2, hG⟩
  have G := (Lw.start w).no (k1.no k2)
  (repeat refine Zlr ?_)
  refine s_al rfl (fun b3 w3 n3 => ?_)
  have G := G.new n3
  have h0 := G.blk 0 rfl; try have h1 := G.blk 1 rfl; try have h2 := G.blk 2 rfl; try have h3 := G.blk 3 rfl; try have h4 := G.blk 4 rfl; try have h5 := G.blk 5 rfl
  (repeat refine Zlr ?_)
  refine s_stw (vs := [fs.v, nv.v]) rfl rfl rfl rfl rfl h0 rfl (fun w4 s4 => ?_)
  have G : Lw w No w4 [(b3, [fs.v, nv.v], tGr)] := G.put 0 rfl s4
  have k24 : Kp No w2 w4 := n3.kp.trans s4.kp fun i hi e => (by have := n3.ge; have e : i = b3 := e; omega)
  clear h0 n3 s4 k1 k2
  have h0 := G.blk 0 rfl; try have h1 := G.blk 1 rfl; try have h2 := G.blk 2 rfl; try have h3 := G.blk 3 rfl; try have h4 := G.blk 4 rfl; try have h5 := G.blk 5 rfl
  (repeat refine Zlr ?_)
  cases b with
  | false =>
    refine c_t rfl ?_
    (repeat refine Zlr ?_)
    exact ret_c1 rfl (rv_t rfl) ⟨rfl, G.kE⟩
  | true =>
  refine c_f rfl ?_
  obtain ⟨S, hs8, hS, hW, hn1, hn40, hN⟩ := hG rfl
  have hN := hN.kp k24
  have W := hW.wel
  obtain ⟨nx, hnx⟩ : ∃ nx, nxS S = nx := ⟨_, rfl⟩
  rw [hnx] at hN W hn1 hn40
  have hb : nx.length ≤ 1000 := by omega
  obtain ⟨va, vc, e⟩ := hN.val
  obtain ⟨na, nn, nc⟩ := nv
  simp only [Sl.v, Value.slice.injEq] at e
  obtain ⟨rfl, rfl, rfl⟩ := e
  have hN : NX w4 (.slice na nx.length nc) nx := hN
  have K4 := G.kE
  have hnp : (0 : Int) < nx.length := by omega
  obtain ⟨x, hxe⟩ : ∃ x : Int, a % (nx.length : Int) = x := ⟨_, rfl⟩
  have hx0 : 0 ≤ x := by rw [← hxe]; exact Int.emod_nonneg _ (by omega)
  have hxN : x < nx.length := by rw [← hxe]; exact Int.emod_lt_of_pos _ hnp
  have hx : Nd nx.length x := ⟨hx0, hxN⟩
  (repeat refine Zlr ?_)
  try (refine s_v (r_cvi (k' := .u16) (k := .i64) rfl rfl rfl (wrap_in (by omega))) ?_; (repeat refine Zlr ?_))
  refine s_v (r_rem (p := a) (q := (nx.length : Int)) rfl rfl (by omega) (by omega)) ?_
  rw [hxe]
  (repeat refine Zlr ?_)
  have g0 := h0
  refine k_h (fun w' => Kp No w4 w') [(0, false), (1, false), (3, false), (2, true), (4, true), (5, false), (6, false)] 6 (by kernel_rfl) (waits_of_last (by kernel_rfl)) (by kernel_rfl) (by kernel_rfl) (by kernel_rfl) rfl (fun w5 k5 _ => ?_)
  refine h_v k5 (fun w' hw => r_ldw rfl (hw.get0 g0) rfl rfl) ?_
  refine h_v k5 (fun w' hw => r_mv rfl) ?_
  refine h_v k5 (fun w' hw => r_ldw rfl (hw.get0 g0) rfl rfl) ?_
  refine h_call (us := []) (zs := []) (by kernel_rfl) rfl rfl (allFn (fs := fs) W hb hn1 (hN.kp k5) (.inr hx)) ?_
  rintro u w6 ⟨hl, k6⟩
  obtain ⟨la, lc, rfl⟩ := hl.val
  have k6 := k5.no k6
  refine ⟨fun _ => k6, ?_⟩
  refine h_call (us := []) (zs := []) (by kernel_rfl) rfl rfl (nextFn (fs := fs) W hb hn1 (hN.kp k6)) ?_
  rintro _ w7 ⟨g, rfl, hf, k7⟩
  have hl := LI.kp hl k7
  have k7 := k6.no k7
  refine ⟨fun _ => k7, ?_⟩
  refine h_v k7 (fun w' hw => r_as rfl) ?_
  refine h_v k7 (fun w' hw => r_as rfl) ?_
  refine h_nil ?_
  have hfl : (fenL nx).length = nx.length := W.fen.len
  obtain ⟨_, _, e, hfat⟩ := li_at hf
  rw [Value.slice.injEq] at e
  obtain ⟨rfl, _, rfl⟩ := e
  have rd : ∀ {i : Int}, Nd nx.length i → ∀ w', Kp No w7 w' → w'.cell? ⟨g, 0 + i.toNat * 1, none⟩ = some (.int .i64 (gi (fenL nx) i)) := fun {i} hi w' k => by
    have i0 := hi.1
    have iN := hi.2
    obtain ⟨y, hy⟩ : ∃ y, (fenL nx)[i.toNat]? = some y := ⟨_, List.getElem?_eq_getElem (by omega)⟩
    have hgy : gi (fenL nx) i = y := by unfold gi; rw [List.getD_eq_getElem?_getD, hy]; rfl
    obtain ⟨g', hg', hc⟩ := hfat _ y hy
    cases hg'
    have := hc w' k
    rw [show ((i.toNat : Nat) : Int).toNat = i.toNat by omega] at this
    rw [hgy]
    exact this
  have hself : meetP nx x x = x := by
    unfold meetP
    rw [W.ch_step hx, List.find?_cons]
    simp
  obtain ⟨L, hL⟩ : ∃ L, chL nx x = L := ⟨_, rfl⟩
  have hL2 : 2 ≤ L.length := by rw [← hL]; exact W.ch_len x hx
  have hL0 : L[0]? = some x := by rw [← hL, W.ch_step hx]; rfl
  have hLl : L[L.length - 1]? = some (-1) := by
    rw [← List.getLast?_eq_getElem?, ← hL]; exact W.ch_last x (.inr hx)
  have hnxt : ∀ (i : Nat) (p q : Int), L[i]? = some p → L[i + 1]? = some q → Nd nx.length p ∧ q = gi (fenL nx) p := fun i p q h1 h2 => W.ch_next x (.inr hx) i p q (by rw [hL]; exact h1) (by rw [hL]; exact h2)
  rw [hL] at hl ⊢
  obtain ⟨_, _, e, hlat⟩ := li_at hl
  cases e
  have hll : L.length ≤ 9223372036854775807 := by have := own_mx hl; unfold maxLen at this; omega
  obtain ⟨lg, rfl, hl0⟩ := hlat 0 x hL0
  have rl : ∀ (i : Nat) (y : Int), L[i]? = some y → ∀ w', Kp No w7 w' → w'.cell? ⟨lg, 0 + (i : Int).toNat * 1, none⟩ = some (.int .i64 y) := fun i y hy w' k => by
    obtain ⟨_, e, hc⟩ := hlat i y hy
    cases e
    exact hc w' k
  have c0 := hl0 w7 (Kp.refl _ _)
  have cl := rl (L.length - 1) (-1) hLl w7 (Kp.refl _ _)
  rw [show (((L.length - 1 : Nat) : Int)).toNat = ((L.length : Int) - 1).toNat by omega] at cl
  have h0 := k7.get0 g0
  clear g0
  (repeat refine Zlr ?_)
  refine s_set 35 false rfl (decide_eq_false (by omega)) ?_
  (repeat (first | refine Zlr ?_ | refine Zn ?_ | refine Zu ?_ | refine Zg ?_ | refine Zgl ?_))
  refine s_set 42 false rfl (by simp) ?_
  (repeat (first | refine Zlr ?_ | refine Zn ?_ | refine Zu ?_ | refine Zg ?_ | refine Zgl ?_))
  try (refine s_gv rfl (r_ia (size := 1) rfl rfl rfl rfl (by omega) (by omega)) ?_; (repeat (first | refine Zlr ?_ | refine Zn ?_ | refine Zu ?_ | refine Zg ?_ | refine Zgl ?_)))
  refine s_set 49 false rfl (by simp) ?_
  (repeat (first | refine Zlr ?_ | refine Zn ?_ | refine Zu ?_ | refine Zg ?_ | refine Zgl ?_))
  try (refine s_gv rfl (r_ia (size := 1) rfl rfl rfl rfl (by omega) (by omega)) ?_; (repeat (first | refine Zlr ?_ | refine Zn ?_ | refine Zu ?_ | refine Zg ?_ | refine Zgl ?_)))
  refine s_set 58 false rfl (by decide) ?_
  (repeat (first | refine Zlr ?_ | refine Zn ?_ | refine Zu ?_ | refine Zg ?_ | refine Zgl ?_))
  refine s_gcall (us := []) (zs := []) rfl (by kernel_rfl) rfl rfl (meetFn (fs := fs) W hb hn1 (hN.kp k7) (.inr hx) (.inr hx)) ?_
  rintro _ w8 ⟨rfl, k8⟩
  rw [hself]
  (repeat (first | refine Zlr ?_ | refine Zn ?_ | refine Zu ?_ | refine Zg ?_ | refine Zgl ?_))
  refine c_ne rfl (fun h => (h rfl).elim) (fun _ => ?_)
  (repeat refine Zlr ?_)
  refine k_loop (σ := Nat) (fun i => [(9, .slice (some ⟨lg, 0, none⟩) L.length lc), (10, .slice (some ⟨g, 0, none⟩) nx.length nx.length), (11, .int .i64 (i : Int))])
    (fun i w' => 1 ≤ i ∧ i ≤ L.length ∧ Kp No w7 w') (fun i => L.length - i) 1 ⟨rfl, rfl, rfl, trivial⟩ ⟨Nat.le_refl _, by omega, k8⟩ ?_
  rintro i l9 w9 ⟨hi1, hi, k9⟩
  (repeat refine Zlr ?_)
  refine c_dec rfl (fun hlt => ?_) (fun hge => ?_)
  · have hlt : i < L.length := by omega
    obtain ⟨q, hq⟩ : ∃ q, L[i]? = some q := ⟨_, List.getElem?_eq_getElem hlt⟩
    obtain ⟨p, hp⟩ : ∃ p, L[i - 1]? = some p := ⟨_, List.getElem?_eq_getElem (by omega)⟩
    obtain ⟨hpn, hqe⟩ := hnxt (i - 1) p q hp (by rw [show i - 1 + 1 = i by omega]; exact hq)
    have hp0 := hpn.1
    have hpN := hpn.2
    have cq : ∀ w', Kp No w9 w' → w'.cell? ⟨lg, 0 + (i : Int).toNat * 1, none⟩ = some (.int .i64 q) := fun w' k => rl i q hq w' (k9.no k)
    have cp : ∀ w', Kp No w9 w' → w'.cell? ⟨lg, 0 + ((i : Int) - 1).toNat * 1, none⟩ = some (.int .i64 p) := fun w' k => by
      have := rl (i - 1) p hp w' (k9.no k)
      rw [show (((i - 1 : Nat) : Int)).toNat = ((i : Int) - 1).toNat by omega] at this
      exact this
    have cn : ∀ w', Kp No w9 w' → w'.cell? ⟨g, 0 + p.toNat * 1, none⟩ = some (.int .i64 (gi (fenL nx) p)) := fun w' k => rd hpn w' (k9.no k)
    (repeat refine Zlr ?_)
    refine k_q (by kernel_rfl) (by kernel_rfl) ?_
    refine q_v (fun w' hw => r_mv rfl) ?_
    refine q_v (fun w' hw => r_mv rfl) ?_
    refine q_v (fun w' hw => r_ia (size := 1) rfl rfl rfl rfl (by omega) (by omega)) ?_
    refine q_v (fun w' hw => r_ld rfl rfl (cq w' hw)) ?_
    refine q_v (fun w' hw => r_mv rfl) ?_
    refine q_v (fun w' hw => r_mv rfl) ?_
    refine q_v (fun w' hw => r_mv rfl) ?_
    refine q_v (fun w' hw => r_sub rfl rfl (by omega)) ?_
    refine q_v (fun w' hw => r_ia (size := 1) rfl rfl rfl rfl (by omega) (by omega)) ?_
    refine q_v (fun w' hw => r_ld rfl rfl (cp w' hw)) ?_
    refine q_v (fun w' hw => r_ia (size := 1) rfl rfl rfl rfl (by omega) (by omega)) ?_
    refine q_v (fun w' hw => r_ld rfl rfl (cn w' hw)) ?_
    refine q_v (fun w' hw => r_bin rfl) ?_
    refine q_nil (fun w10 k10 => ?_)
    (repeat refine Zlr ?_)
    refine c_ne rfl (fun h => (h hqe).elim) (fun _ => ?_)
    (repeat refine Zlr ?_)
    exact l_next (i + 1) ⟨rfl, rfl, rfl, trivial⟩ ⟨by omega, hlt, k9.no k10⟩ (by show L.length - (i + 1) < L.length - i; omega)
  · (repeat refine Zlr ?_)
    exact ret_c1 rfl (rv_t rfl) ⟨rfl, (K4.no k7).no k9⟩
end Go.Proofs.Ytkllhfajldnpoaa.Ck
