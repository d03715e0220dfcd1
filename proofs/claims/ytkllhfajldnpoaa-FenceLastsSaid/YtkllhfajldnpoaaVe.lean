/- The law FenceLasts: walked. -/
import Derived.Test.YtkllhfajldnpoaaPk11
namespace Go.Proofs.Ytkllhfajldnpoaa.Ck
open Go Go.RowKit Fw Sy Rf Fn
set_option linter.unusedVariables false
set_option maxRecDepth 20000
set_option maxHeartbeats 2000000 in
theorem fenceLastsF (s : ByteArray) (w : World) : Ret Try.prog 5 [.string s] w (fun v w1 => v = .bool true ∧ Kp No w w1) := by
  refine ret_enter Try.func5 rfl Try.ntmps5 rfl ?_
  (repeat refine Zlr ?_)
  refine s_call (us := []) (zs := []) (by kernel_rfl) rfl rfl (awake8F w) ?_
  rintro _ w1 ⟨rfl, k1⟩
  (repeat refine Zlr ?_)
  refine c_f rfl ?_
  (repeat refine Zlr ?_)
  refine s_call (us := []) (zs := []) (by kernel_rfl) rfl rfl (graphF s w1) ?_
  rintro _ w2 ⟨fs, nv, b, rfl, k2, hG⟩
  have G := (Lw.start w).no (k1.no k2)
  (repeat refine Zlr ?_)
  refine s_al rfl (fun b3 w3 n3 => ?_)
  have G := G.new n3
  have h0 := G.blk 0 rfl; try have h1 := G.blk 1 rfl; try have h2 := G.blk 2 rfl; try have h3 := G.blk 3 rfl; try have h4 := G.blk 4 rfl; try have h5 := G.blk 5 rfl
  (repeat refine Zlr ?_)
  refine s_stw (vs := [fs.v, nv.v]) rfl rfl rfl rfl rfl h0 rfl (fun w4 s4 => ?_)
  have G : Lw w No w4 [(b3, [fs.v, nv.v], tGr)] := G.put 0 rfl s4
  have k24 : Kp No w2 w4 := n3.kp.trans s4.kp fun i hi e => (by have := n3.ge; have e : i = b3 := e; omega)
  clear h0 n3 s4 k1 k2
  have h0 := G.blk 0 rfl; try have h1 := G.blk 1 rfl; try have h2 := G.blk 2 rfl; try have h3 := G.blk 3 rfl; try have h4 := G.blk 4 rfl; try have h5 := G.blk 5 rfl
  (repeat refine Zlr ?_)
  refine s_call (us := []) (zs := []) (by kernel_rfl) rfl rfl (rightF s w4) ?_
  rintro _ w6 ⟨ux, us, uf, b2, rfl, k2b, _, hX⟩
  have G := G.no k2b
  have G4 := G
  clear h0
  (repeat refine Zlr ?_)
  refine s_al rfl (fun b6 w7 n7 => ?_)
  have G := G.new n7
  have h0 := G.blk 0 rfl; try have h1 := G.blk 1 rfl; try have h2 := G.blk 2 rfl; try have h3 := G.blk 3 rfl; try have h4 := G.blk 4 rfl; try have h5 := G.blk 5 rfl
  (repeat refine Zlr ?_)
  refine s_stw (vs := [ux.v, us.v, uf.v]) rfl rfl rfl rfl rfl h0 rfl (fun w8 s8 => ?_)
  have G : Lw w No w8 [(b6, [ux.v, us.v, uf.v], tTree), (b3, [fs.v, nv.v], tGr)] := G.put 0 rfl s8
  have k68 : Kp No w6 w8 := n7.kp.trans s8.kp fun i hi e => (by have := n7.ge; have e : i = b6 := e; omega)
  have k48 : Kp No w4 w8 := k2b.no k68
  clear h0 h1 n7 s8 G4
  have h0 := G.blk 0 rfl; try have h1 := G.blk 1 rfl; try have h2 := G.blk 2 rfl; try have h3 := G.blk 3 rfl; try have h4 := G.blk 4 rfl; try have h5 := G.blk 5 rfl
  (repeat refine Zlr ?_)
  cases b with
  | false =>
    refine c_t rfl ?_
    (repeat refine Zlr ?_)
    exact ret_c1 rfl (rv_t rfl) ⟨rfl, G.kE⟩
  | true =>
  refine c_f rfl ?_
  obtain ⟨S, hs8, hS, hW, hn1, hn40, hN⟩ := hG rfl
  have hN := hN.kp k24
  have W := hW.wel
  obtain ⟨nx, hnx⟩ : ∃ nx, nxS S = nx := ⟨_, rfl⟩
  rw [hnx] at hN W hn1 hn40
  have hb : nx.length ≤ 1000 := by omega
  obtain ⟨va, vc, e⟩ := hN.val
  obtain ⟨na, nn, nc⟩ := nv
  simp only [Sl.v, Value.slice.injEq] at e
  obtain ⟨rfl, rfl, rfl⟩ := e
  have hN : NX w4 (.slice na nx.length nc) nx := hN
  have K4 := G.kE
  have K3 := k2b.no k68
  (repeat refine Zlr ?_)
  refine s_call (us := []) (zs := []) (by kernel_rfl) rfl rfl (nextFn (fs := fs) W hb hn1 (hN.kp k48)) ?_
  rintro _ w9 ⟨g, rfl, hf, k9⟩
  have hfl : (fenL nx).length = nx.length := W.fen.len
  obtain ⟨_, _, e, hfat⟩ := li_at hf
  rw [Value.slice.injEq] at e
  obtain ⟨rfl, _, rfl⟩ := e
  have rd : ∀ {i : Int}, Nd nx.length i → ∀ w', Kp No w9 w' → w'.cell? ⟨g, 0 + i.toNat * 1, none⟩ = some (.int .i64 (gi (fenL nx) i)) := fun {i} hi w' k => by
    have i0 := hi.1
    have iN := hi.2
    obtain ⟨y, hy⟩ : ∃ y, (fenL nx)[i.toNat]? = some y := ⟨_, List.getElem?_eq_getElem (by omega)⟩
    have hgy : gi (fenL nx) i = y := by unfold gi; rw [List.getD_eq_getElem?_getD, hy]; rfl
    obtain ⟨g', hg', hc⟩ := hfat _ y hy
    cases hg'
    have := hc w' k
    rw [show ((i.toNat : Nat) : Int).toNat = i.toNat by omega] at this
    rw [hgy]
    exact this
  have hTy : Ty w6 ux us uf S := (hX hs8 S hS).2
  have hTy9 : Tr w9 ux.v us.v uf.v S := hTy.tr.kp (k68.no k9)
  have husn := hTy.usn
  have hufn := hTy.ufn
  have hfb := hTy.fb
  have hnl : S.st.length = nx.length := by rw [← hnx]; exact hW.len.symm
  have h0 := k9.get0 h0
  clear h1
  (repeat refine Zlr ?_)
  refine c_ne rfl (fun h => (h (by omega)).elim) (fun _ => ?_)
  (repeat refine Zlr ?_)
  refine k_loop (σ := Nat) (fun i => [(8, .slice (some ⟨g, 0, none⟩) nx.length nx.length), (36, uf.v), (37, .int .i64 (uf.n : Int)), (38, .int .i64 (i : Int))])
    (fun i w' => i ≤ uf.n ∧ Kp No w9 w') (fun i => uf.n - i) 0 ⟨rfl, rfl, rfl, rfl, trivial⟩ ⟨Nat.zero_le _, Kp.refl _ _⟩ ?_
  clear h0
  rintro i l10 w10 ⟨hi, k10⟩
  (repeat refine Zlr ?_)
  refine c_dec rfl (fun hlt => ?_) (fun hge => ?_)
  · have hlt : i < uf.n := by omega
    obtain ⟨f, hff⟩ : ∃ f, S.fn[i]? = some f := ⟨_, List.getElem?_eq_getElem (by omega)⟩
    obtain ⟨fg, flv, fmv, hfa, hlp, hlb, hfc⟩ := Tr.fn (a := uf.a) (n := uf.n) (c := uf.c) hTy9 hff
    obtain ⟨pa, pc, rfl⟩ := hlp.val
    obtain ⟨ba, bc, rfl, hbat⟩ := li_at hlb
    have hfs : Value.slice uf.a uf.n uf.c = .slice (some ⟨fg, 0, none⟩) uf.n uf.c := by rw [hfa]
    have hbl : f.bd.length ≤ 9223372036854775807 := by have := own_mx hlb; unfold maxLen at this; omega
    have G10 := (Lw.start w9).no k10
    (repeat refine Zlr ?_)
    refine s_v (r_ia (size := 6) rfl rfl hfs rfl (by omega) (by omega)) ?_
    refine s_v (r_lda (n := 6) (vs := fnC (f, .slice pa f.ps.length pc, .slice ba f.bd.length bc)) rfl rfl rfl rfl (cells_ofc rfl fun j u hj => k10.cell0 (hfc j u hj))) ?_
    (repeat refine Zlr ?_)
    refine s_al rfl (fun b10 w11 n11 => ?_)
    have G := G10.new n11
    have h0 := G.blk 0 rfl; try have h1 := G.blk 1 rfl; try have h2 := G.blk 2 rfl; try have h3 := G.blk 3 rfl; try have h4 := G.blk 4 rfl; try have h5 := G.blk 5 rfl
    (repeat refine Zlr ?_)
    refine s_st (vs := fnC (f, .slice pa f.ps.length pc, .slice ba f.bd.length bc)) rfl rfl rfl rfl rfl h0 (Nat.le_of_ble_eq_true rfl) (fun w12 s12 => ?_)
    have G : Lw w9 No w12 [(b10, fnC (f, .slice pa f.ps.length pc, .slice ba f.bd.length bc), tFunc)] := G.put 0 rfl s12
    clear h0 n11 s12
    have h0 := G.blk 0 rfl; try have h1 := G.blk 1 rfl; try have h2 := G.blk 2 rfl; try have h3 := G.blk 3 rfl; try have h4 := G.blk 4 rfl; try have h5 := G.blk 5 rfl
    (repeat refine Zlr ?_)
    by_cases hb0 : f.bd = []
    · refine s_set 47 false rfl (decide_eq_false (by show ¬ ((f.bd.length : Int) > 0); rw [hb0]; decide)) ?_
      (repeat (first | refine Zlr ?_ | refine Zn ?_ | refine Zu ?_ | refine Zg ?_ | refine Zgl ?_))
      refine c_f rfl ?_
      (repeat refine Zlr ?_)
      exact l_next (i + 1) ⟨rfl, rfl, rfl, rfl, trivial⟩ ⟨hlt, G.kE⟩ (by show uf.n - (i + 1) < uf.n - i; omega)
    have hbl0 : 0 < f.bd.length := List.length_pos_iff.2 hb0
    obtain ⟨z, hz⟩ : ∃ z, f.bd[f.bd.length - 1]? = some z := ⟨_, List.getElem?_eq_getElem (by omega)⟩
    have hzl : f.bd.getLast? = some z := by rw [List.getLast?_eq_getElem?]; exact hz
    have hlast : gi (fenL nx) z = -1 := by
      have := hW.last (l := f.bd) (x := z) (List.mem_map.2 ⟨f, List.mem_of_getElem? hff, rfl⟩) hzl
      rw [hnx] at this; exact this
    have hzn : Nd nx.length z := by
      have := hW.T.bd f.bd (List.mem_map.2 ⟨f, List.mem_of_getElem? hff, rfl⟩) z (List.mem_of_getElem? hz)
      rw [hnl] at this; exact this
    have hz0 := hzn.1
    have hzN := hzn.2
    obtain ⟨bg, hba, hbc⟩ := hbat _ z hz
    have hbs : Value.slice ba f.bd.length bc = .slice (some ⟨bg, 0, none⟩) f.bd.length bc := by rw [hba]
    have cz := hbc w12 G.kE
    rw [show (((f.bd.length - 1 : Nat) : Int)).toNat = ((f.bd.length : Int) - 1).toNat by omega] at cz
    have cn := rd hzn w12 G.kE
    refine s_set 47 true rfl (decide_eq_true (by show (f.bd.length : Int) > 0; omega)) ?_
    (repeat (first | refine Zlr ?_ | refine Zn ?_ | refine Zu ?_ | refine Zg ?_ | refine Zgl ?_))
    refine s_gv rfl (r_ia (size := 1) rfl rfl hbs rfl (by omega) (by omega)) ?_
    (repeat (first | refine Zlr ?_ | refine Zn ?_ | refine Zu ?_ | refine Zg ?_ | refine Zgl ?_))
    try (refine s_gv rfl (r_ia (size := 1) rfl rfl rfl rfl (by omega) (by omega)) ?_; (repeat (first | refine Zlr ?_ | refine Zn ?_ | refine Zu ?_ | refine Zg ?_ | refine Zgl ?_)))
    refine c_ne rfl (fun h => (h hlast).elim) (fun _ => ?_)
    (repeat refine Zlr ?_)
    exact l_next (i + 1) ⟨rfl, rfl, rfl, rfl, trivial⟩ ⟨hlt, G.kE⟩ (by show uf.n - (i + 1) < uf.n - i; omega)
  · (repeat refine Zlr ?_)
    exact ret_c1 rfl (rv_t rfl) ⟨rfl, (K4.no k9).no k10⟩
end Go.Proofs.Ytkllhfajldnpoaa.Ck
