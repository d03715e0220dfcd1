/- Where statements fall: walked. -/
import Derived.Test.YtkllhfajldnpoaaLf
import Derived.Test.YtkllhfajldnpoaaPk11
namespace Go.Proofs.Ytkllhfajldnpoaa.Ck
open Go Go.RowKit Fw Sy Rf Fn
set_option linter.unusedVariables false
set_option maxRecDepth 20000
abbrev tFal : TypeId := 80
/-- What is left of laying a list. -/
def Fl (st : List St) (n : Nat) (l : List Int) (bh : Int) (i : Nat) (r : List Int) (out : List Int) : List Int := match n with | 0 => out | m + 1 => falR st (fal st m) l bh i r out
theorem Fl_0 {st : List St} {n : Nat} {l : List Int} {bh : Int} {out : List Int} : Fl st n l bh 0 l out = fal st n out l bh := by cases n <;> rfl
theorem Fl_nil {st : List St} {n i : Nat} {l : List Int} {bh : Int} {out : List Int} : Fl st n l bh i [] out = out := by cases n <;> rfl
section
variable {ux us uf : Sl} {S : PS} {w0 : World}
set_option maxHeartbeats 2000000 in
theorem falF (T : Ty w0 ux us uf S) {go bf : Nat} (hg : w0.heap.size ≤ go) : ∀ (n : Nat) (l : List Int) (la : Option Addr) (lc : Nat) (bh : Int) (w : World) (out : List Int), Kp No w0 w → LI w0 (.slice la l.length lc) l → (∀ x ∈ l, 0 ≤ x ∧ x < n ∧ x < S.st.length) →
    w.heap[bf]? = some (.cells [ux.v, us.v, uf.v, .slice (some ⟨go, 0, none⟩) S.st.length S.st.length].toArray tFal (0, 0)) → w.heap[go]? = some (.cells (out.map (Value.int .i64)).toArray tInt (0, 0)) → out.length = S.st.length →
    Ret Try.prog 35 [.pointer (some ⟨bf, 0, none⟩), .slice la l.length lc, .int .i64 bh] w (fun v w1 => v = .tuple #[] ∧ (fal S.st n out l bh).length = S.st.length ∧ w1.heap[go]? = some (.cells ((fal S.st n out l bh).map (Value.int .i64)).toArray tInt (0, 0)) ∧ Kp (fun i => i = go) w w1) := by
  have husn := T.usn
  have hsb := T.sb
  intro n
  induction n using Nat.strongRecOn with
  | ind n ih =>
  intro l la lc bh w out hk hl hx hbf hgo hN
  obtain ⟨_, _, e, hlat⟩ := li_at hl
  cases e
  have hll : l.length ≤ 9223372036854775807 := by have := own_mx hl; unfold maxLen at this; omega
  have hne : bf ≠ go := ty_neq hbf hgo rfl
  refine ret_enter Try.func35 rfl Try.ntmps35 rfl ?_
  (repeat refine Zlr ?_)
  refine k_loop (σ := Nat × List Int) (fun t => [(0, .pointer (some ⟨bf, 0, none⟩)), (1, .slice la l.length lc), (2, .int .i64 bh), (10, .slice la l.length lc), (11, .int .i64 (l.length : Int)), (12, .int .i64 (t.1 : Int))])
    (fun t w' => t.1 ≤ l.length ∧ t.2.length = S.st.length ∧ Fl S.st n l bh t.1 (l.drop t.1) t.2 = fal S.st n out l bh ∧ w'.heap[go]? = some (.cells (t.2.map (Value.int .i64)).toArray tInt (0, 0)) ∧ Kp (fun i => i = go) w w')
    (fun t => l.length - t.1) (0, out) ⟨rfl, rfl, rfl, rfl, rfl, rfl, trivial⟩ ⟨Nat.zero_le _, hN, by rw [List.drop_zero]; exact Fl_0, hgo, Kp.refl _ _⟩ ?_
  clear hgo hN
  rintro ⟨i, o2⟩ l' w2 ⟨hi, hN, hly, hgo, k2⟩
  simp only at hi hN hly hgo k2
  try dsimp only
  have hbf2 := k2.get hbf hne
  (repeat refine Zlr ?_)
  refine c_dec rfl (fun hlt => ?_) (fun hge => ?_)
  · have hlt : i < l.length := by omega
    obtain ⟨x, hxi⟩ : ∃ x, l[i]? = some x := ⟨_, List.getElem?_eq_getElem hlt⟩
    obtain ⟨x0, xn, xN⟩ := hx x (List.mem_of_getElem? hxi)
    obtain ⟨lg, hla, hlc⟩ := hlat i x hxi
    have hls : Value.slice la l.length lc = .slice (some ⟨lg, 0, none⟩) l.length lc := by rw [hla]
    obtain ⟨s, hs⟩ : ∃ s, S.st[x.toNat]? = some s := ⟨_, List.getElem?_eq_getElem (by omega)⟩
    obtain ⟨sg, ta, tc, ea, ec, hsa, hth, hel, hsc⟩ := T.st hs
    have hus : Value.slice us.a us.n us.c = .slice (some ⟨sg, 0, none⟩) us.n us.c := by rw [hsa]
    have ex : ((x.toNat : Nat) : Int) = x := by omega
    rw [ex] at hsc
    have egs : gs S.st x = s := by unfold gs; rw [List.getD_eq_getElem?_getD, hs]; rfl
    have K2 : Kp No w0 w2 := hk.from0' k2 fun i hi e => by omega
    obtain ⟨m, rfl⟩ : ∃ m, n = m + 1 := ⟨n - 1, by omega⟩
    have hly : falR S.st (fal S.st m) l bh i (l.drop i) o2 = fal S.st (m + 1) out l bh := hly
    rw [List.drop_eq_getElem_cons hlt] at hly
    have ej : l[i] = x := by rw [List.getElem?_eq_getElem hlt] at hxi; exact Option.some.inj hxi
    rw [ej, falR, egs] at hly
    obtain ⟨to, hto⟩ : ∃ to, (if i + 1 < l.length then l.getD (i + 1) (-2) else bh) = to := ⟨_, rfl⟩
    obtain ⟨t2, ht2⟩ : ∃ t2, (if s.k = 6 then x else to) = t2 := ⟨_, rfl⟩
    rw [hto, ht2] at hly
    (repeat refine Zlr ?_)
    refine s_v (r_ia (size := 1) rfl rfl hls rfl (by omega) (by omega)) ?_
    refine s_v (r_ld rfl rfl (hlc _ K2)) ?_
    (repeat refine Zlr ?_)
    refine k_cutc (σ := Unit) (fun _ => [(0, .pointer (some ⟨bf, 0, none⟩)), (1, .slice la l.length lc), (2, .int .i64 bh), (6, .int .i64 (i : Int)), (7, .int .i64 x), (8, .int .i64 to), (10, .slice la l.length lc), (11, .int .i64 (l.length : Int)), (12, .int .i64 (i : Int))]) (fun _ w' => w' = w2) ?_ ?_
    · refine c_dec rfl (fun hlt2 => ?_) (fun hge2 => ?_)
      · have hi1 : i + 1 < l.length := by omega
        obtain ⟨y, hy⟩ : ∃ y, l[i + 1]? = some y := ⟨_, List.getElem?_eq_getElem hi1⟩
        obtain ⟨lg2, hla2, hlc2⟩ := hlat (i + 1) y hy
        cases hla.symm.trans hla2
        rw [if_pos hi1, List.getD_eq_getElem?_getD, hy] at hto
        have hto : y = to := hto
        (repeat refine Zlr ?_)
        refine s_v (r_ia (size := 1) rfl rfl hls rfl (by omega) (by omega)) ?_
        refine s_v (r_ld rfl rfl (v := .int .i64 y) (by
          have := hlc2 _ K2
          rw [show (((i + 1 : Nat) : Int)).toNat = ((i : Int) + 1).toNat by omega] at this
          exact this)) ?_
        (repeat refine Zlr ?_)
        exact l_cut () ⟨rfl, rfl, rfl, rfl, rfl, by rw [← hto]; rfl, rfl, rfl, rfl, trivial⟩ rfl
      · rw [if_neg (by omega)] at hto
        (repeat refine Zlr ?_)
        exact l_cut () ⟨rfl, rfl, rfl, rfl, rfl, by rw [← hto]; rfl, rfl, rfl, rfl, trivial⟩ rfl
    rintro _ l3 w3 rfl
    have G := Lw.one hgo
    (repeat refine Zlr ?_)
    refine s_v (r_ia (size := 1) rfl rfl rfl rfl (by omega) (by omega)) ?_
    refine s_st (vs := [.int .i64 to]) rfl rfl rfl rfl rfl hgo (by rw [List.length_map, hN]; show _ + 1 ≤ _; omega) (fun w4 s4 => ?_)
    have s4 : Sb w3 go ((o2.set x.toNat to).map (Value.int .i64)) tInt w4 := by
      rw [List.map_set, ← setAt_one _ _ _ (by rw [List.length_map]; omega)]
      rw [show x.toNat = 0 + x.toNat * 1 by omega]
      exact s4
    have G : Lw w3 (fun i => i = go) w4 [(go, (o2.set x.toNat to).map (Value.int .i64), tInt)] := G.put 0 rfl s4
    obtain ⟨o3, ho3⟩ : ∃ o3, o2.set x.toNat to = o3 := ⟨_, rfl⟩
    rw [ho3] at G hly
    have hN3 : o3.length = S.st.length := by rw [← ho3, List.length_set]; exact hN
    clear s4
    have hbf4 := G.kE.get hbf2 hne
    have K4 : Kp No w0 w4 := K2.from0' G.kE fun i hi e => by omega
    (repeat refine Zlr ?_)
    refine s_v (r_ia (size := 9) rfl rfl hus rfl (by omega) (by omega)) ?_
    refine s_v (r_lda (n := 9) (vs := stC (s, .slice ta s.th.length tc, .slice ea s.el.length ec)) rfl rfl rfl rfl (cells_ofc rfl fun j u hj => hsc _ K4 j u hj)) ?_
    (repeat refine Zlr ?_)
    refine s_al rfl (fun b9 w5 n5 => ?_)
    have G := G.new n5
    have h0 := G.blk 0 rfl; try have h1 := G.blk 1 rfl; try have h2 := G.blk 2 rfl; try have h3 := G.blk 3 rfl; try have h4 := G.blk 4 rfl; try have h5 := G.blk 5 rfl
    (repeat refine Zlr ?_)
    refine s_st (vs := stC (s, .slice ta s.th.length tc, .slice ea s.el.length ec)) rfl rfl rfl rfl rfl h0 (Nat.le_of_ble_eq_true rfl) (fun w6 s6 => ?_)
    have s6 : Sb w5 b9 (stC (s, .slice ta s.th.length tc, .slice ea s.el.length ec)) tStmt w6 := s6
    have G : Lw w3 (fun i => i = go) w6 [(b9, stC (s, .slice ta s.th.length tc, .slice ea s.el.length ec), tStmt), (go, o3.map (Value.int .i64), tInt)] := G.put 0 rfl s6
    clear s6 n5 h0 h1 hbf4 K4
    have h0 := G.blk 0 rfl; try have h1 := G.blk 1 rfl; try have h2 := G.blk 2 rfl; try have h3 := G.blk 3 rfl; try have h4 := G.blk 4 rfl; try have h5 := G.blk 5 rfl
    have K6 : Kp No w0 w6 := K2.from0' G.kE fun i hi e => by omega
    have hbf6 := G.kE.get hbf2 hne
    have n9g : b9 ≠ go := ty_neq h0 h1 rfl
    (repeat refine Zlr ?_)
    refine k_cutc (σ := Unit) (fun _ => [(0, .pointer (some ⟨bf, 0, none⟩)), (1, .slice la l.length lc), (2, .int .i64 bh), (6, .int .i64 (i : Int)), (7, .int .i64 x), (8, .int .i64 t2), (9, .pointer (some ⟨b9, 0, none⟩)), (10, .slice la l.length lc), (11, .int .i64 (l.length : Int)), (12, .int .i64 (i : Int))]) (fun _ w' => w' = w6) ?_ ?_
    · refine c_b rfl (fun hk6 => ?_) (fun hk6 => ?_)
      · have hk6 : s.k = 6 := beq_iff_eq.1 hk6
        rw [if_pos hk6] at ht2
        (repeat refine Zlr ?_)
        exact l_cut () ⟨rfl, rfl, rfl, rfl, rfl, by rw [← ht2]; rfl, rfl, rfl, rfl, rfl, trivial⟩ rfl
      · have hk6 : s.k ≠ 6 := beq_eq_false_iff_ne.1 hk6
        rw [if_neg hk6] at ht2
        (repeat refine Zlr ?_)
        exact l_cut () ⟨rfl, rfl, rfl, rfl, rfl, by rw [← ht2]; rfl, rfl, rfl, rfl, rfl, trivial⟩ rfl
    rintro _ l4 w7 rfl
    (repeat refine Zlr ?_)
    refine s_call (us := []) (zs := []) (by kernel_rfl) rfl rfl (ih m (by omega) s.th ta tc t2 w7 o3 K6 hth (fun y hy => by
      obtain ⟨y1, y2⟩ := T.ch _ _ hs y (List.mem_append.2 (.inl hy))
      exact ⟨y1, by omega, by omega⟩) hbf6 h1 hN3) ?_
    rintro _ w8 ⟨rfl, hN4, hb8, k8⟩
    have G := G.mod 1 rfl k8 hb8
    obtain ⟨o4, ho4⟩ : ∃ o4, fal S.st m o3 s.th t2 = o4 := ⟨_, rfl⟩
    rw [ho4] at hN4 hb8 G hly
    have G : Lw w3 (fun i => i = go) w8 [(b9, stC (s, .slice ta s.th.length tc, .slice ea s.el.length ec), tStmt), (go, o4.map (Value.int .i64), tInt)] := G
    clear h0 h1 hb8 k8 hbf6 K6
    have h0 := G.blk 0 rfl; try have h1 := G.blk 1 rfl; try have h2 := G.blk 2 rfl; try have h3 := G.blk 3 rfl; try have h4 := G.blk 4 rfl; try have h5 := G.blk 5 rfl
    have K8 : Kp No w0 w8 := K2.from0' G.kE fun i hi e => by omega
    have hbf8 := G.kE.get hbf2 hne
    (repeat refine Zlr ?_)
    refine s_call (us := []) (zs := []) (by kernel_rfl) rfl rfl (ih m (by omega) s.el ea ec t2 w8 o4 K8 hel (fun y hy => by
      obtain ⟨y1, y2⟩ := T.ch _ _ hs y (List.mem_append.2 (.inr hy))
      exact ⟨y1, by omega, by omega⟩) hbf8 h1 hN4) ?_
    rintro _ w9 ⟨rfl, hN5, hb9, k9⟩
    have G := G.mod 1 rfl k9 hb9
    (repeat refine Zlr ?_)
    exact l_next (i + 1, fal S.st m o4 s.el t2) ⟨rfl, rfl, rfl, rfl, rfl, rfl, trivial⟩ ⟨hlt, hN5, hly, hb9, k2.trans G.kE fun _ _ h => h⟩ (by show l.length - (i + 1) < l.length - i; omega)
  · have hi : i = l.length := by omega
    subst hi
    rw [List.drop_length, Fl_nil] at hly
    rw [← hly]
    (repeat refine Zlr ?_)
    exact end_0 rfl ⟨rfl, hN, hgo, k2⟩
set_option maxHeartbeats 1000000 in
theorem fallsF {w : World} (T : Ty w ux us uf S) : Ret Try.prog 22 [.agg #[ux.v, us.v, uf.v]] w (fun v w1 => ∃ go, v = .slice (some ⟨go, 0, none⟩) S.st.length S.st.length ∧ (falL S.st (S.fn.map Sy.Fn.bd)).length = S.st.length ∧ w1.heap[go]? = some (.cells ((falL S.st (S.fn.map Sy.Fn.bd)).map (Value.int .i64)).toArray tInt (0, 0)) ∧ Kp No w w1) := by
  have husn := T.usn
  have hufn := T.ufn
  have hsb := T.sb
  have hfb := T.fb
  refine ret_enter Try.func22 rfl Try.ntmps22 rfl ?_
  (repeat refine Zlr ?_)
  refine s_box (cs := [ux.v, us.v, uf.v]) rfl rfl (fun b1 w1 n1 => ?_)
  have hb1 := n1.blk
  (repeat refine Zlr ?_)
  refine k_cutc (σ := Nat × Nat) (fun t => [(1, .pointer (some ⟨b1, 0, none⟩)), (3, .pointer (some ⟨t.2, 0, none⟩))])
    (fun t w' => w'.heap[t.2]? = some (.cells [ux.v, us.v, uf.v, .slice (some ⟨t.1, 0, none⟩) S.st.length S.st.length].toArray tFal (0, 0)) ∧ w'.heap[t.1]? = some (.cells ((List.replicate S.st.length (0 : Int)).map (Value.int .i64)).toArray tInt (0, 0)) ∧ w.heap.size ≤ t.1 ∧ w'.heap[b1]? = some (.cells [ux.v, us.v, uf.v].toArray tTree (0, 0)) ∧ Kp No w w') ?_ ?_
  · refine k_h (fun w' => Kp No w1 w') [(0, false), (1, false), (2, false), (3, false), (4, true), (5, false), (6, true), (7, false)] 7 (by kernel_rfl) (waits_of_last (by kernel_rfl)) (by kernel_rfl) (by kernel_rfl) (by kernel_rfl) rfl (fun m1 k1 _ => ?_)
    refine h_v k1 (fun w' hw => r_ldw rfl (hw.get0 hb1) rfl rfl) ?_
    refine h_v k1 (fun w' hw => r_fa rfl rfl) ?_
    refine h_v k1 (fun w' hw => r_ld rfl rfl (cell_of_blk (hw.get0 hb1) rfl)) ?_
    refine h_v k1 (fun w' hw => r_len rfl) ?_
    refine h_nb (r := fun a => .slice (some a) us.n us.n) (r_ms1 (l := us.n) (c := us.n) rfl rfl rfl rfl rfl rfl rfl (Nat.le_refl _) (by show 8 * _ ≤ _; omega) (by omega)) (fun go m2 n2 => ⟨fun _ => k1.no n2.kp, ?_⟩)
    have k2 := k1.no n2.kp
    refine h_v k2 (fun w' hw => r_bd rfl) ?_
    refine h_box (cs := [ux.v, us.v, uf.v, .slice (some ⟨go, 0, none⟩) us.n us.n]) rfl rfl (fun bf m3 n3 => ⟨fun _ => k2.no n3.kp, ?_⟩)
    have k3 := k2.no n3.kp
    refine h_v k3 (fun w' hw => r_as rfl) ?_
    refine h_nil ?_
    refine l_cut (go, bf) ⟨rfl, rfl, trivial⟩ ⟨?_, ?_, by show w.heap.size ≤ go; have := n1.kp.size; have := k1.size; have := n2.ge; omega, k3.get0 hb1, n1.kp.no k3⟩
    · have := n3.blk
      rw [husn] at this
      exact this
    · rw [List.map_replicate]
      have := n3.kp.get0 n2.blk
      rw [husn] at this
      exact this
  rintro ⟨go, bf⟩ l2 w2 ⟨hbf, hgo, hg, hb1, k2⟩
  simp only at hbf hgo hg hb1 k2
  try dsimp only
  (repeat refine Zlr ?_)
  refine k_loop (σ := Nat × List Int) (fun t => [(3, .pointer (some ⟨bf, 0, none⟩)), (14, uf.v), (15, .int .i64 (uf.n : Int)), (16, .int .i64 (t.1 : Int))])
    (fun t w' => t.1 ≤ S.fn.length ∧ t.2.length = S.st.length ∧ ((S.fn.map Sy.Fn.bd).drop t.1).foldl (fun out l => fal S.st S.st.length out l (-1)) t.2 = falL S.st (S.fn.map Sy.Fn.bd) ∧ w'.heap[go]? = some (.cells (t.2.map (Value.int .i64)).toArray tInt (0, 0)) ∧ w'.heap[bf]? = some (.cells [ux.v, us.v, uf.v, .slice (some ⟨go, 0, none⟩) S.st.length S.st.length].toArray tFal (0, 0)) ∧ Kp No w w')
    (fun t => S.fn.length - t.1) (0, List.replicate S.st.length 0) ⟨rfl, rfl, rfl, rfl, trivial⟩ ⟨Nat.zero_le _, List.length_replicate, by rw [List.drop_zero]; rfl, hgo, hbf, k2⟩ ?_
  clear hbf hgo k2 hb1
  rintro ⟨i, out⟩ l3 w3 ⟨hi, hN, hly, hgo, hbf, k3⟩
  simp only at hi hN hly hgo hbf k3
  try dsimp only
  (repeat refine Zlr ?_)
  refine c_dec rfl (fun hlt => ?_) (fun hge => ?_)
  · have hlt : i < S.fn.length := by omega
    obtain ⟨f, hf⟩ : ∃ f, S.fn[i]? = some f := ⟨_, List.getElem?_eq_getElem hlt⟩
    obtain ⟨fg, flv, fmv, hfa, hlp, hlb, hfc⟩ := Tr.fn (a := uf.a) (n := uf.n) (c := uf.c) T.tr hf
    obtain ⟨pa, pc, rfl⟩ := hlp.val
    obtain ⟨ba, bc, rfl⟩ := hlb.val
    have hfs : Value.slice uf.a uf.n uf.c = .slice (some ⟨fg, 0, none⟩) uf.n uf.c := by rw [hfa]
    (repeat refine Zlr ?_)
    refine s_v (r_ia (size := 6) rfl rfl hfs rfl (by omega) (by omega)) ?_
    refine s_v (r_lda (n := 6) (vs := fnC (f, .slice pa f.ps.length pc, .slice ba f.bd.length bc)) rfl rfl rfl rfl (cells_ofc rfl fun j u hj => k3.cell0 (hfc j u hj))) ?_
    (repeat refine Zlr ?_)
    refine s_al rfl (fun b5 w4 n4 => ?_)
    have hb5 := n4.blk
    (repeat refine Zlr ?_)
    refine s_st (vs := fnC (f, .slice pa f.ps.length pc, .slice ba f.bd.length bc)) rfl rfl rfl rfl rfl hb5 (Nat.le_of_ble_eq_true rfl) (fun w5 s5 => ?_)
    have s5 : Sb w4 b5 (fnC (f, .slice pa f.ps.length pc, .slice ba f.bd.length bc)) tFunc w5 := s5
    have k35 : Kp No w3 w5 := n4.kp.trans s5.kp fun i hi e => (by have := n4.ge; have e : i = b5 := e; omega)
    have hb5 := s5.blk
    have hgo5 := k35.get0 hgo
    have hbf5 := k35.get0 hbf
    (repeat refine Zlr ?_)
    refine s_call (us := []) (zs := []) (by kernel_rfl) rfl rfl (falF T hg S.st.length f.bd ba bc (-1) w5 out (k3.no k35) hlb (fun x hx => by
      obtain ⟨y1, y2⟩ := T.fn f (List.mem_of_getElem? hf) x hx
      exact ⟨y1, by omega, by omega⟩) hbf5 hgo5 hN) ?_
    rintro _ w6 ⟨rfl, hN6, hg6, k6⟩
    (repeat refine Zlr ?_)
    refine l_next (i + 1, fal S.st S.st.length out f.bd (-1)) ⟨rfl, rfl, rfl, rfl, trivial⟩ ⟨hlt, hN6, ?_, hg6, k6.get hbf5 (ty_neq hbf5 hgo5 rfl), (k3.no k35).from0' k6 fun i hi e => by omega⟩ (by show S.fn.length - (i + 1) < S.fn.length - i; omega)
    have hlt' : i < (S.fn.map Sy.Fn.bd).length := by rw [List.length_map]; exact hlt
    rw [← hly, List.drop_eq_getElem_cons hlt', List.foldl_cons]
    have ej : (S.fn.map Sy.Fn.bd)[i] = f.bd := by
      have := List.getElem?_eq_getElem hlt
      rw [hf] at this
      simp [Option.some.inj this]
    rw [ej]
  · have hi : i = (S.fn.map Sy.Fn.bd).length := by rw [List.length_map]; omega
    subst hi
    rw [List.drop_length] at hly
    have hly : out = falL S.st (S.fn.map Sy.Fn.bd) := hly
    subst hly
    (repeat refine Zlr ?_)
    exact ret_c1 rfl (rv_t rfl) ⟨go, rfl, hN, hgo, k3⟩
end
end Go.Proofs.Ytkllhfajldnpoaa.Ck
