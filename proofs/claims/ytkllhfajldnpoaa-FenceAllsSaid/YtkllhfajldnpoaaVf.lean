/- The law FenceAlls: walked. -/
import Derived.Test.YtkllhfajldnpoaaPk11
namespace Go.Proofs.Ytkllhfajldnpoaa.Ck
open Go Go.RowKit Fw Sy Rf Fn
set_option linter.unusedVariables false
set_option maxRecDepth 20000
set_option maxHeartbeats 2000000 in
theorem fenceAllsF (s : ByteArray) (a : Int) (ha : 0 ≤ a ∧ a < 65536) (c : Int) (hc : 0 ≤ c ∧ c < 65536) (w : World) : Ret Try.prog 8 [.string s, .int .u16 a, .int .u16 c] w (fun v w1 => v = .bool true ∧ Kp No w w1) := by
  refine ret_enter Try.func8 rfl Try.ntmps8 rfl ?_
  (repeat refine Zlr ?_)
  refine s_call (us := []) (zs := []) (by kernel_rfl) rfl rfl (awake8F w) ?_
  rintro _ w1 ⟨rfl, k1⟩
  (repeat refine Zlr ?_)
  refine c_f rfl ?_
  (repeat refine Zlr ?_)
  refine s_call (us := []) (zs := []) (by kernel_rfl) rfl rfl (graphF s w1) ?_
  rintro _ w2 ⟨fs, nv, b, rfl, k2, hG⟩
  have G := (Lw.start w).no (k1.no k2)
  (repeat refine Zlr ?_)
  refine s_al rfl (fun b3 w3 n3 => ?_)
  have G := G.new n3
  have h0 := G.blk 0 rfl; try have h1 := G.blk 1 rfl; try have h2 := G.blk 2 rfl; try have h3 := G.blk 3 rfl; try have h4 := G.blk 4 rfl; try have h5 := G.blk 5 rfl
  (repeat refine Zlr ?_)
  refine s_stw (vs := [fs.v, nv.v]) rfl rfl rfl rfl rfl h0 rfl (fun w4 s4 => ?_)
  have G : Lw w No w4 [(b3, [fs.v, nv.v], tGr)] := G.put 0 rfl s4
  have k24 : Kp No w2 w4 := n3.kp.trans s4.kp fun i hi e => (by have := n3.ge; have e : i = b3 := e; omega)
  clear h0 n3 s4 k1 k2
  have h0 := G.blk 0 rfl; try have h1 := G.blk 1 rfl; try have h2 := G.blk 2 rfl; try have h3 := G.blk 3 rfl; try have h4 := G.blk 4 rfl; try have h5 := G.blk 5 rfl
  (repeat refine Zlr ?_)
  cases b with
  | false =>
    refine c_t rfl ?_
    (repeat refine Zlr ?_)
    exact ret_c1 rfl (rv_t rfl) ⟨rfl, G.kE⟩
  | true =>
  refine c_f rfl ?_
  obtain ⟨S, hs8, hS, hW, hn1, hn40, hN⟩ := hG rfl
  have hN := hN.kp k24
  have W := hW.wel
  obtain ⟨nx, hnx⟩ : ∃ nx, nxS S = nx := ⟨_, rfl⟩
  rw [hnx] at hN W hn1 hn40
  have hb : nx.length ≤ 1000 := by omega
  obtain ⟨va, vc, e⟩ := hN.val
  obtain ⟨na, nn, nc⟩ := nv
  simp only [Sl.v, Value.slice.injEq] at e
  obtain ⟨rfl, rfl, rfl⟩ := e
  have hN : NX w4 (.slice na nx.length nc) nx := hN
  have K4 := G.kE
  have hnp : (0 : Int) < nx.length := by omega
  obtain ⟨x, hxe⟩ : ∃ x : Int, a % (nx.length : Int) = x := ⟨_, rfl⟩
  have hx0 : 0 ≤ x := by rw [← hxe]; exact Int.emod_nonneg _ (by omega)
  have hxN : x < nx.length := by rw [← hxe]; exact Int.emod_lt_of_pos _ hnp
  have hx : Nd nx.length x := ⟨hx0, hxN⟩
  have hnq : (0 : Int) < nx.length := by omega
  obtain ⟨y, hye⟩ : ∃ y : Int, c % (nx.length : Int) = y := ⟨_, rfl⟩
  have hy0 : 0 ≤ y := by rw [← hye]; exact Int.emod_nonneg _ (by omega)
  have hyN : y < nx.length := by rw [← hye]; exact Int.emod_lt_of_pos _ hnq
  have hy : Nd nx.length y := ⟨hy0, hyN⟩
  (repeat refine Zlr ?_)
  refine k_q (by kernel_rfl) (by kernel_rfl) ?_
  refine q_v (fun w' hw => r_mv rfl) ?_
  refine q_v (fun w' hw => r_cvi (k' := .u16) (k := .i64) rfl rfl rfl (wrap_in (by omega))) ?_
  refine q_v (fun w' hw => r_mv rfl) ?_
  refine q_v (fun w' hw => r_len rfl) ?_
  refine q_v (fun w' hw => r_rem (p := a) (q := (nx.length : Int)) rfl rfl (by omega) (by omega)) ?_
  rw [hxe]
  refine q_v (fun w' hw => r_mv rfl) ?_
  refine q_v (fun w' hw => r_cvi (k' := .u16) (k := .i64) rfl rfl rfl (wrap_in (by omega))) ?_
  refine q_v (fun w' hw => r_mv rfl) ?_
  refine q_v (fun w' hw => r_len rfl) ?_
  refine q_v (fun w' hw => r_rem (p := c) (q := (nx.length : Int)) rfl rfl (by omega) (by omega)) ?_
  rw [hye]
  refine q_v (fun w' hw => r_as rfl) ?_
  refine q_v (fun w' hw => r_as rfl) ?_
  refine q_nil (fun w5 k5 => ?_)
  (repeat refine Zlr ?_)
  refine s_call (us := []) (zs := []) (by kernel_rfl) rfl rfl (all8F W (hN.kp k5) hb hx) ?_
  rintro u w6 ⟨hl, k6⟩
  obtain ⟨la, lc, rfl⟩ := hl.val
  have k6 := k5.no k6
  (repeat refine Zlr ?_)
  refine s_call (us := []) (zs := []) (by kernel_rfl) rfl rfl (all8F W (hN.kp k6) hb hy) ?_
  rintro u w7 ⟨hm, k7⟩
  obtain ⟨ma, mc, rfl⟩ := hm.val
  have hl := LI.kp hl k7
  have k7 := k6.no k7
  have hmp : meetP nx x y = ((chL nx x).find? fun z => decide (z ∈ chL nx y)).getD (-1) := rfl
  have hfB : decide (x ∈ chL nx y) = fB nx x y := by
    have h1 := W.ch_mem y (.inr hy) x
    have h2 := W.fB (a := x) hy (.inr hx0)
    cases hq : fB nx x y with
    | true => exact decide_eq_true (h1.2 (h2.1 hq))
    | false => exact decide_eq_false fun h => by rw [h2.2 (h1.1 h)] at hq; cases hq
  have hex : decide ((-1 : Int) ∈ chL nx y) = true := decide_eq_true (List.mem_of_getLast? (W.ch_last y (.inr hy)))
  obtain ⟨L, hL⟩ : ∃ L, chL nx x = L := ⟨_, rfl⟩
  obtain ⟨M, hM⟩ : ∃ M, chL nx y = M := ⟨_, rfl⟩
  have hl' := hl
  rw [hL] at hl
  rw [hM] at hm
  rw [hL, hM] at hmp
  rw [hL, hM]
  obtain ⟨_, _, e, hlat⟩ := li_at hl
  cases e
  obtain ⟨_, _, e, hmat⟩ := li_at hm
  cases e
  have hll : L.length ≤ 9223372036854775807 := by have := own_mx hl; unfold maxLen at this; omega
  have hml : M.length ≤ 9223372036854775807 := by have := own_mx hm; unfold maxLen at this; omega
  (repeat refine Zlr ?_)
  refine k_loop (σ := Nat × Int) (fun t => [(7, .pointer (some ⟨b3, 0, none⟩)), (8, .slice na nx.length nc), (10, .int .i64 x), (11, .int .i64 y), (12, .slice la L.length lc), (13, .slice ma M.length mc), (14, .int .i64 t.2), (15, .int .i64 ((t.1 : Int) - 1))])
    (fun t w' => t.1 ≤ L.length ∧ t.2 = ((L.drop t.1).find? fun z => decide (z ∈ M)).getD (-1) ∧ Kp No w7 w') (fun t => t.1) (L.length, -1) ⟨rfl, rfl, rfl, rfl, rfl, rfl, rfl, rfl, trivial⟩ ⟨Nat.le_refl _, by simp, Kp.refl _ _⟩ ?_
  rintro ⟨i, me⟩ l8 w8 ⟨hi, hme, k8⟩
  simp only at hi hme k8
  try dsimp only
  (repeat refine Zlr ?_)
  refine c_dec rfl (fun hge => ?_) (fun hlt => ?_)
  · obtain ⟨j, rfl⟩ : ∃ j, i = j + 1 := ⟨i - 1, by omega⟩
    have hj : j < L.length := by omega
    obtain ⟨z, hz⟩ : ∃ z, L[j]? = some z := ⟨_, List.getElem?_eq_getElem hj⟩
    have ez : L[j] = z := by rw [List.getElem?_eq_getElem hj] at hz; exact Option.some.inj hz
    obtain ⟨lg, hla, hlc⟩ := hlat j z hz
    have hls : Value.slice la L.length lc = .slice (some ⟨lg, 0, none⟩) L.length lc := by rw [hla]
    have ej : ((j + 1 : Nat) : Int) - 1 = (j : Int) := by omega
    simp only [ej]
    (repeat refine Zlr ?_)
    refine k_loop (σ := Nat × Int) (fun t => [(7, .pointer (some ⟨b3, 0, none⟩)), (8, .slice na nx.length nc), (10, .int .i64 x), (11, .int .i64 y), (12, .slice la L.length lc), (13, .slice ma M.length mc), (14, .int .i64 t.2), (15, .int .i64 (j : Int)), (51, .slice ma M.length mc), (52, .int .i64 (M.length : Int)), (53, .int .i64 (t.1 : Int))])
      (fun t w' => t.1 ≤ M.length ∧ t.2 = (if z ∈ M.take t.1 then z else me) ∧ Kp No w7 w') (fun t => M.length - t.1) (0, me) ⟨rfl, rfl, rfl, rfl, rfl, rfl, rfl, rfl, rfl, rfl, rfl, trivial⟩ ⟨Nat.zero_le _, by simp, k8⟩ ?_
    clear k8
    rintro ⟨k, m2⟩ l9 w9 ⟨hk, hm2, k9⟩
    simp only at hk hm2 k9
    try dsimp only
    (repeat refine Zlr ?_)
    refine c_dec rfl (fun hlk => ?_) (fun hgk => ?_)
    · have hlk : k < M.length := by omega
      obtain ⟨p, hp⟩ : ∃ p, M[k]? = some p := ⟨_, List.getElem?_eq_getElem hlk⟩
      obtain ⟨mg, hma, hmc⟩ := hmat k p hp
      have hms : Value.slice ma M.length mc = .slice (some ⟨mg, 0, none⟩) M.length mc := by rw [hma]
      have htk : z ∈ M.take (k + 1) ↔ z ∈ M.take k ∨ z = p := by
        rw [List.take_add_one, hp, List.mem_append]; simp
      (repeat refine Zlr ?_)
      refine s_v (r_ia (size := 1) rfl rfl hms rfl (by omega) (by omega)) ?_
      refine s_v (r_ld rfl rfl (hmc _ k9)) ?_
      (repeat refine Zlr ?_)
      refine s_v (r_ia (size := 1) rfl rfl hls rfl (by omega) (by omega)) ?_
      refine s_v (r_ld rfl rfl (hlc _ k9)) ?_
      (repeat refine Zlr ?_)
      refine c_eq rfl (fun hpz => ?_) (fun hpz => ?_)
      · (repeat refine Zlr ?_)
        refine l_next (k + 1, p) ⟨rfl, rfl, rfl, rfl, rfl, rfl, rfl, rfl, rfl, rfl, rfl, trivial⟩ ⟨hlk, ?_, k9⟩ (by show M.length - (k + 1) < M.length - k; omega)
        show p = _
        rw [if_pos (htk.2 (.inr hpz.symm))]
        exact hpz
      · (repeat refine Zlr ?_)
        refine l_next (k + 1, m2) ⟨rfl, rfl, rfl, rfl, rfl, rfl, rfl, rfl, rfl, rfl, rfl, trivial⟩ ⟨hlk, ?_, k9⟩ (by show M.length - (k + 1) < M.length - k; omega)
        show m2 = _
        rw [hm2]
        by_cases hin : z ∈ M.take k
        · rw [if_pos hin, if_pos (htk.2 (.inl hin))]
        · rw [if_neg hin, if_neg (fun h => (htk.1 h).elim hin fun e => hpz e.symm)]
    · have hk : k = M.length := by omega
      subst hk
      rw [List.take_length] at hm2
      (repeat refine Zlr ?_)
      refine l_next (j, m2) ⟨rfl, rfl, rfl, rfl, rfl, rfl, rfl, rfl, trivial⟩ ⟨by show j ≤ _; omega, ?_, k9⟩ (by show j < j + 1; omega)
      show m2 = _
      rw [hm2, hme, List.drop_eq_getElem_cons hj, ez, List.find?_cons]
      by_cases hin : z ∈ M
      · rw [if_pos hin, decide_eq_true hin]; rfl
      · rw [if_neg hin, decide_eq_false hin]
  · have hi : i = 0 := by omega
    subst hi
    rw [List.drop_zero, ← hmp] at hme
    subst hme
    have h0 := (k7.no k8).get0 h0
    have hN8 := hN.kp (k7.no k8)
    (repeat refine Zlr ?_)
    refine s_call (us := []) (zs := []) (by kernel_rfl) rfl rfl (allFn (fs := fs) W hb hn1 hN8 (.inr hx)) ?_
    rintro u w9 ⟨hl9, k9⟩
    obtain ⟨ua, uc, rfl⟩ := hl9.val
    have h0 := k9.get0 h0
    rw [hL] at hl9 ⊢
    (repeat refine Zlr ?_)
    refine s_call (us := []) (zs := []) (by kernel_rfl) rfl rfl (ints6F L hl9 (LI.kp hl (k8.no k9))) ?_
    rintro _ w10 ⟨rfl, k10⟩
    have h0 := k10.get0 h0
    have k10 := k9.no k10
    (repeat (first | refine Zlr ?_ | refine Zn ?_ | refine Zu ?_ | refine Zg ?_ | refine Zgl ?_))
    refine s_gcall (us := []) (zs := []) rfl (by kernel_rfl) rfl rfl (fencesFn (fs := fs) W hb hn1 (hN8.kp k10) x (.inr hy)) ?_
    rintro _ w11 ⟨rfl, k11⟩
    have h0 := k11.get0 h0
    have k11 := k10.no k11
    rw [hfB]
    (repeat (first | refine Zlr ?_ | refine Zn ?_ | refine Zu ?_ | refine Zg ?_ | refine Zgl ?_))
    refine s_gcall (us := []) (zs := []) rfl (by kernel_rfl) rfl rfl (fencesF W (hN8.kp k11) hb x hy) ?_
    rintro _ w12 ⟨rfl, k12⟩
    have h0 := k12.get0 h0
    have k12 := k11.no k12
    (repeat (first | refine Zlr ?_ | refine Zn ?_ | refine Zu ?_ | refine Zg ?_ | refine Zgl ?_))
    refine s_gv rfl (r_beq rfl rfl rfl) ?_
    (repeat (first | refine Zlr ?_ | refine Zn ?_ | refine Zu ?_ | refine Zg ?_ | refine Zgl ?_))
    refine s_set 81 true rfl (by simp) ?_
    (repeat (first | refine Zlr ?_ | refine Zn ?_ | refine Zu ?_ | refine Zg ?_ | refine Zgl ?_))
    refine s_gcall (us := []) (zs := []) rfl (by kernel_rfl) rfl rfl (fencesFn (fs := fs) W hb hn1 (hN8.kp k12) (-1) (.inr hy)) ?_
    rintro _ w13 ⟨rfl, k13⟩
    have h0 := k13.get0 h0
    have k13 := k12.no k13
    rw [hex]
    (repeat (first | refine Zlr ?_ | refine Zn ?_ | refine Zu ?_ | refine Zg ?_ | refine Zgl ?_))
    refine s_gcall (us := []) (zs := []) rfl (by kernel_rfl) rfl rfl (meetFn (fs := fs) W hb hn1 (hN8.kp k13) (.inr hx) (.inr hy)) ?_
    rintro _ w14 ⟨rfl, k14⟩
    have k14 := k13.no k14
    (repeat (first | refine Zlr ?_ | refine Zn ?_ | refine Zu ?_ | refine Zg ?_ | refine Zgl ?_))
    exact ret_c1 rfl (rv_t rfl) ⟨congrArg Value.bool (by simp), ((K4.no k7).no k8).no k14⟩
end Go.Proofs.Ytkllhfajldnpoaa.Ck
