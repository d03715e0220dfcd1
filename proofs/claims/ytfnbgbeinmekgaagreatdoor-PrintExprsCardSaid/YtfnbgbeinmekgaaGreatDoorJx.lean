/- Print: PrintExprs. -/
import Derived.Test.YtfnbgbeinmekgaaGreatDoorPd12
namespace Go.Proofs.YtfnbgbeinmekgaaGreatDoor
open Go Go.RowKit Fw Nu Sy Pt
set_option linter.unusedVariables false
set_option maxRecDepth 20000
namespace Pr
/-- The only statement of a program. -/
theorem one_st {st : List St} {z : St} (h : st.map Pt.bs = [z]) : ∃ z0, st[0]? = some z0 ∧ Pt.bs z0 = z ∧ st.length = 1 := by
  cases st with
  | nil => cases h
  | cons z0 r =>
    simp only [List.map_cons, List.cons.injEq, List.map_eq_nil_iff] at h
    obtain ⟨h1, rfl⟩ := h
    exact ⟨z0, rfl, h1, rfl⟩
set_option maxHeartbeats 8000000 in
theorem exprsF (s : ByteArray) (w : World) (hg : GG w) : Ret Tryz.prog 6 [.string s] w fun v w1 => v = .bool true ∧ Kp No w w1 := by
  refine ret_enter Tryz.func6 rfl Tryz.ntmps6 rfl ?_
  (repeat refine Zr ?_)
  refine s_call (us := []) (zs := []) (by kernel_rfl) rfl rfl (awakeF w hg) ?_
  rintro _ w1 ⟨rfl, k1⟩
  (repeat (first | refine Zr ?_ | refine Zn ?_ | refine Zu ?_ | refine Zg ?_))
  refine c_dec rfl (fun hlt => ?_) (fun hge => ?_)
  · (repeat refine Zr ?_)
    refine s_call (us := []) (zs := []) (by kernel_rfl) rfl rfl (awakeF w1 (hg.kp k1)) ?_
    rintro _ w2 ⟨rfl, k2⟩
    (repeat refine Zr ?_)
    exact ret_1 rfl rfl ⟨rfl, k1.no k2⟩
  have hsz : s.size ≤ 300 := by omega
  (repeat refine Zrc ?_)
  obtain ⟨K, hK, hBK, hzK⟩ : ∃ K, (ByteArray.mk #[102, 117, 110, 99, 32, 102, 40, 41, 32, 123, 32, 112, 114, 105, 110, 116, 32] ++ s) ++ ByteArray.mk #[59, 32, 125] = K ∧ B K = preP ++ (B s ++ [59, 32, 125]) ∧ K.size = s.size + 20 := by
    refine ⟨_, rfl, by simp only [B_append]; simp [B, preP], ?_⟩
    simp only [ByteArray.size_append, lit_size]; simp; omega
  rw [hK]
  refine s_call (us := []) (zs := []) (by kernel_rfl) rfl rfl (ParseG K w1 (hg.kp k1).tk (by omega)) ?_
  rintro _ w2 ⟨k2, ux, us, uf, S, a, e, rfl, ht, hp⟩
  obtain ⟨xa, sa, fa, xc, sc, fc, rfl, rfl, rfl⟩ := ht.val
  (repeat refine Zr ?_)
  refine s_al rfl (fun b3 w3 n3 => ?_)
  have g3 := n3.ge
  refine s_st (vs := [.slice xa S.ex.length xc, .slice sa S.st.length sc, .slice fa S.fn.length fc]) rfl rfl rfl rfl rfl n3.blk (Nat.le_of_ble_eq_true rfl) (fun w4 s4 => ?_)
  have k4 : Kp No w2 w4 := n3.kp.trans s4.kp fun i hi e => by omega
  have e3 : w4.heap[b3]? = some (.cells [.slice xa S.ex.length xc, .slice sa S.st.length sc, .slice fa S.fn.length fc].toArray 27 (0, 0)) := s4.blk
  have kw4 := (k1.no k2).no k4
  (repeat refine Zr ?_)
  by_cases he : e = 0
  rotate_left
  · refine s_set 28 true rfl (by simpa using he) ?_
    (repeat (first | refine Zr ?_ | refine Zn ?_ | refine Zu ?_ | refine Zg ?_))
    refine c_t rfl ?_
    (repeat refine Zr ?_)
    exact ret_1 rfl rfl ⟨rfl, kw4⟩
  refine s_set 28 false rfl (by simpa using he) ?_
  (repeat (first | refine Zr ?_ | refine Zn ?_ | refine Zu ?_ | refine Zg ?_))
  by_cases hst : S.st.length = 1
  rotate_left
  · refine s_set 34 true rfl (by simpa using fun h => hst (by omega)) ?_
    (repeat (first | refine Zr ?_ | refine Zn ?_ | refine Zu ?_ | refine Zg ?_))
    refine c_t rfl ?_
    (repeat refine Zr ?_)
    exact ret_1 rfl rfl ⟨rfl, kw4⟩
  refine s_set 34 false rfl (by simpa using (by omega : (S.st.length : Int) = 1)) ?_
  (repeat (first | refine Zr ?_ | refine Zn ?_ | refine Zu ?_ | refine Zg ?_))
  by_cases hex : S.ex.length = 0
  · refine c_t (congrArg Value.bool (by simpa using (by omega : (S.ex.length : Int) = 0))) ?_
    (repeat refine Zr ?_)
    exact ret_1 rfl rfl ⟨rfl, kw4⟩
  refine c_f (congrArg Value.bool (by simpa using (by omega : ¬ (S.ex.length : Int) = 0))) ?_
  rcases hp with ⟨hq, _, _, _⟩ | ⟨_, _, h0, _⟩
  rotate_left
  · exact absurd he h0
  rw [hBK] at hq
  have hsm := prs_small hq
  obtain ⟨x, xs, ys, x1, x2, x3, x4, x5, x6, x7⟩ := first_print hq
  have hlK : (preP ++ (B s ++ [59, 32, 125])).length = s.size + 20 := by rw [← hBK, B_len, hzK]
  rw [hlK] at hsm x7
  have hys : ys = [] := by
    have := congrArg List.length x5
    rw [List.length_map, hst, List.length_cons] at this
    exact List.length_eq_zero_iff.1 (by omega)
  rw [hys] at x5
  rw [x6 hys, List.append_nil] at x4
  have hsx : sz x = S.ex.length := by have := congrArg List.length x4; rw [List.length_map, fl_len] at this; exact this.symm
  have hsg : Sg S.ex 0 (fl 0 x) := ⟨[], by rw [List.drop_zero, List.append_nil]; exact x4⟩
  obtain ⟨z0, hz0, hzb, _⟩ := one_st x5
  have hza : z0.a = rt 0 x := (congrArg St.a hzb : (Pt.bs z0).a = _)
  have hwt := eT_wt x 0 x2
  rw [if_pos x1] at hwt
  have htl : (eT x).length ≤ 3000 := by omega
  have ht4 := ht.kp k4
  obtain ⟨g, lv, mv, rfl, _, _, hc⟩ := ht4.st hz0
  have hca : w4.cell? ⟨g, 0 + (0 : Int).toNat * 9 + 5, none⟩ = some (.int .i64 (rt 0 x)) := by have := hc 5 _ rfl; simp only [hza] at this; exact this
  have hd := fun (w' : World) (hw : Kp No w4 w') => hw.get0 e3
  have hdc := fun (w' : World) (hw : Kp No w4 w') => hw.cell0 hca
  (repeat refine Zr ?_)
  refine k_h (fun w' => Kp No w4 w') [(0, false), (1, false), (2, false), (3, false), (4, false), (5, false), (6, true), (7, false)] 8 (by kernel_rfl) (by exact waits_none) (by kernel_rfl) (by kernel_rfl) rfl rfl (fun m1 q1 _ => ?_)
  (repeat (first | refine Zhq ?_ | refine Zhgn ?_ | refine Zhgu ?_ | refine Zhgv ?_))
  refine h_call (us := []) (zs := []) (by kernel_rfl) rfl rfl (ExprF 0 _ _ _ m1 ((hg.kp kw4).kp q1).pr (ht4.kp q1) (by omega) hsg x1 x2) ?_
  rintro _ m2 ⟨⟨t, rfl, hB⟩, q2⟩
  have q12 := q1.no q2
  refine ⟨fun _ => q12, ?_⟩
  (repeat (first | refine Zhq ?_ | refine Zhgn ?_ | refine Zhgu ?_ | refine Zhgv ?_))
  refine h_nil ?_
  have htz := szB hB
  have kw5 := kw4.no q12
  have e3 := q12.get0 e3
  clear hd hdc
  (repeat refine Zrc ?_)
  obtain ⟨K2, hK2, hBK2, hzK2⟩ : ∃ K2, (ByteArray.mk #[102, 117, 110, 99, 32, 102, 40, 41, 32, 123, 32, 114, 101, 116, 117, 114, 110, 32] ++ t) ++ ByteArray.mk #[59, 32, 125] = K2 ∧ B K2 = preR ++ (eT x ++ [59, 32, 125]) ∧ K2.size = t.size + 21 := by
    refine ⟨_, rfl, by simp only [B_append, hB]; simp [B, preR], ?_⟩
    simp only [ByteArray.size_append, lit_size]; simp; omega
  rw [hK2]
  obtain ⟨S2', hq2, y4, y5⟩ := ret_parse x1 x2 x3 (by omega)
  refine s_call (us := []) (zs := []) (by kernel_rfl) rfl rfl (ParseG K2 m2 (hg.kp kw5).tk (by omega)) ?_
  rintro _ w6 ⟨k6, vx, vs, vf, S2, a2, e2, rfl, ht2, hp2⟩
  rw [hBK2, hq2] at hp2
  rcases hp2.symm with ⟨hq3, _⟩ | ⟨hq3, _, ee2, _⟩
  · cases hq3
  cases hq3
  subst ee2
  obtain ⟨xa2, sa2, fa2, xc2, sc2, fc2, rfl, rfl, rfl⟩ := ht2.val
  have kw6 := kw5.no k6
  have e3 := k6.get0 e3
  have hsx2 : sz x = S2'.ex.length := by have := congrArg List.length y4; rw [List.length_map, fl_len] at this; exact this.symm
  have hsg2 : Sg S2'.ex 0 (fl 0 x) := ⟨[], by rw [List.drop_zero, List.append_nil]; exact y4⟩
  obtain ⟨z2, hz2, hzb2, hst2⟩ := one_st y5
  have hza2 : z2.a = rt 0 x := (congrArg St.a hzb2 : (Pt.bs z2).a = _)
  (repeat refine Zr ?_)
  refine s_al rfl (fun b7 w7 n7 => ?_)
  have g7 := n7.ge
  refine s_st (vs := [.slice xa2 S2'.ex.length xc2, .slice sa2 S2'.st.length sc2, .slice fa2 S2'.fn.length fc2]) rfl rfl rfl rfl rfl n7.blk (Nat.le_of_ble_eq_true rfl) (fun w8 s8 => ?_)
  have k8 : Kp No w6 w8 := n7.kp.trans s8.kp fun i hi e => by omega
  have e7 : w8.heap[b7]? = some (.cells [.slice xa2 S2'.ex.length xc2, .slice sa2 S2'.st.length sc2, .slice fa2 S2'.fn.length fc2].toArray 27 (0, 0)) := s8.blk
  have e3 := k8.get0 e3
  have kw8 := kw6.no k8
  have hu8 := ht2.kp k8
  obtain ⟨g2, lv2, mv2, rfl, _, _, hc2⟩ := hu8.st hz2
  have hca2 : w8.cell? ⟨g2, 0 + (0 : Int).toNat * 9 + 5, none⟩ = some (.int .i64 (rt 0 x)) := by have := hc2 5 _ rfl; simp only [hza2] at this; exact this
  have hd3 := fun (w' : World) (hw : Kp No w8 w') => hw.get0 e3
  have hd7 := fun (w' : World) (hw : Kp No w8 w') => hw.get0 e7
  have hdc := fun (w' : World) (hw : Kp No w8 w') => hw.cell0 hca2
  (repeat refine Zr ?_)
  refine k_h (fun w' => Kp No w8 w') [(0, false), (1, false), (2, false), (3, false), (4, false), (5, false), (6, false), (7, false), (8, false), (9, false), (10, false), (11, false), (12, false), (13, false), (14, false), (16, false), (15, true), (17, false), (18, false), (19, false), (20, false), (21, false), (22, false), (23, false), (24, false), (25, false), (26, false), (27, false), (28, false)] 29 (by kernel_rfl) (by exact waits_none) (by kernel_rfl) (by kernel_rfl) rfl rfl (fun m3 q3 _ => ?_)
  refine h_v q3 (fun w' hw => r_mv rfl) ?_
  refine h_v q3 (fun w' hw => r_bin rfl) ?_
  refine h_v q3 (fun w' hw => r_mv rfl) ?_
  refine h_re 57 (v' := .bool true) rfl rfl ?_
  (repeat (first | refine Zhq ?_ | refine Zhgn ?_ | refine Zhgu ?_ | refine Zhgv ?_))
  refine h_re 63 (v' := .bool true) rfl (congrArg Value.bool (by simpa using (by omega : (S2'.st.length : Int) = 1))) ?_
  (repeat (first | refine Zhq ?_ | refine Zhgn ?_ | refine Zhgu ?_ | refine Zhgv ?_))
  refine h_gcall (us := []) (zs := []) rfl (by kernel_rfl) rfl rfl (ExprF 0 _ _ _ m3 ((hg.kp kw8).kp q3).pr (hu8.kp q3) (by omega) hsg2 x1 x2) ?_
  rintro _ m4 ⟨⟨t2, rfl, hB2⟩, q4⟩
  have q34 := q3.no q4
  refine ⟨fun _ => q34, ?_⟩
  obtain rfl : t2 = t := B_inj (hB2.trans hB.symm)
  (repeat (first | refine Zhq ?_ | refine Zhgn ?_ | refine Zhgu ?_ | refine Zhgv ?_))
  refine h_re 74 (v' := .bool true) rfl (congrArg Value.bool (by rw [str_eq]; exact decide_eq_true rfl)) ?_
  (repeat (first | refine Zhq ?_ | refine Zhgn ?_ | refine Zhgu ?_ | refine Zhgv ?_))
  refine h_nil ?_
  (repeat refine Zr ?_)
  refine ret_1 rfl rfl ⟨congrArg Value.bool ?_, kw8.no q34⟩
  have : (S2'.ex.length : Int) = S.ex.length := by omega
  simpa using this
end Pr
end Go.Proofs.YtfnbgbeinmekgaaGreatDoor
