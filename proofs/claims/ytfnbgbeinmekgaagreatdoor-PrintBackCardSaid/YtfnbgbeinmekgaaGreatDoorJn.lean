/- Print: PrintBack. -/
import Derived.Test.YtfnbgbeinmekgaaGreatDoorPb10
namespace Go.Proofs.YtfnbgbeinmekgaaGreatDoor
open Go Go.RowKit Fw Nu Sy Pt
set_option linter.unusedVariables false
set_option maxRecDepth 20000
namespace Pr
set_option maxHeartbeats 8000000 in
theorem backF (s : ByteArray) (w : World) (hg : GG w) : Ret Tryz.prog 3 [.string s] w fun v w1 => v = .bool true ∧ Kp No w w1 := by
  refine ret_enter Tryz.func3 rfl Tryz.ntmps3 rfl ?_
  (repeat refine Zr ?_)
  refine s_call (us := []) (zs := []) (by kernel_rfl) rfl rfl (awakeF w hg) ?_
  rintro _ w1 ⟨rfl, k1⟩
  (repeat (first | refine Zr ?_ | refine Zn ?_ | refine Zu ?_ | refine Zg ?_))
  refine c_dec rfl (fun hlt => ?_) (fun hge => ?_)
  · (repeat refine Zr ?_)
    refine s_call (us := []) (zs := []) (by kernel_rfl) rfl rfl (awakeF w1 (hg.kp k1)) ?_
    rintro _ w2 ⟨rfl, k2⟩
    (repeat refine Zr ?_)
    exact ret_1 rfl rfl ⟨rfl, k1.no k2⟩
  have hsz : s.size ≤ 600 := by omega
  (repeat refine Zr ?_)
  refine s_call (us := []) (zs := []) (by kernel_rfl) rfl rfl (ParseG s w1 (hg.kp k1).tk (by omega)) ?_
  rintro _ w2 ⟨k2, ux, us, uf, S, a, e, rfl, ht, hp⟩
  obtain ⟨xa, sa, fa, xc, sc, fc, rfl, rfl, rfl⟩ := ht.val
  (repeat refine Zr ?_)
  refine s_al rfl (fun b3 w3 n3 => ?_)
  have g3 := n3.ge
  refine s_st (vs := [.slice xa S.ex.length xc, .slice sa S.st.length sc, .slice fa S.fn.length fc]) rfl rfl rfl rfl rfl n3.blk (Nat.le_of_ble_eq_true rfl) (fun w4 s4 => ?_)
  have k4 : Kp No w2 w4 := n3.kp.trans s4.kp fun i hi e => by omega
  have e3 : w4.heap[b3]? = some (.cells [.slice xa S.ex.length xc, .slice sa S.st.length sc, .slice fa S.fn.length fc].toArray 27 (0, 0)) := s4.blk
  have kw4 := (k1.no k2).no k4
  (repeat refine Zr ?_)
  refine c_ne rfl (fun hne => ?_) (fun he => ?_)
  · (repeat refine Zr ?_)
    exact ret_1 rfl rfl ⟨rfl, kw4⟩
  rcases hp with ⟨hq, ea, _, hfn⟩ | ⟨_, _, h0, _⟩
  rotate_left
  · exact absurd he h0
  have hsm := prs_small hq
  rw [B_len] at hsm
  obtain ⟨fs, hI⟩ := prs_tree hq
  have hfl := hI.fl
  have hne : fs ≠ [] := fun e => by
    rw [e] at hfl
    exact hfn (List.length_eq_zero_iff.1 hfl)
  have ht4 := ht.kp k4
  (repeat refine Zr ?_)
  refine s_v (r_lwb rfl e3 rfl rfl) ?_
  refine s_call (us := []) (zs := []) (by kernel_rfl) rfl rfl (PrintF hI hne _ _ _ w4 (hg.kp kw4).pr ht4 (by omega) (by omega)) ?_
  rintro _ w5 ⟨⟨t, rfl, hB⟩, k5⟩
  have kw5 := kw4.no k5
  have e3 := k5.get0 e3
  (repeat refine Zr ?_)
  refine c_dec rfl (fun hlt2 => ?_) (fun hge2 => ?_)
  · (repeat refine Zr ?_)
    exact ret_1 rfl rfl ⟨rfl, kw5⟩
  have htz : t.size ≤ 20000 := by omega
  have hlen : (tP fs).length ≤ 20000 := by rw [← hB, B_len]; exact htz
  have h32 := hI.len
  obtain ⟨S', hq', x1, x2, x3⟩ := back hI.wf hlen (by omega) hne (by rw [hI.pz]; omega)
  have hI' : Is S' fs := ⟨x1, x2, x3, hI.wf, by
    have := congrArg List.length x3
    rw [List.length_map, pF_els fs 0 0, List.length_map, elsF_len] at this
    omega⟩
  (repeat refine Zr ?_)
  refine s_call (us := []) (zs := []) (by kernel_rfl) rfl rfl (ParseG t w5 (hg.kp kw5).tk (by omega)) ?_
  rintro _ w6 ⟨k6, vx, vs, vf, S2, a2, e2, rfl, ht2, hp2⟩
  rw [hB, hq'] at hp2
  rcases hp2.symm with ⟨hq2, _⟩ | ⟨hq2, ea2, ee2, _⟩
  · cases hq2
  cases hq2
  subst ee2
  obtain ⟨xa2, sa2, fa2, xc2, sc2, fc2, rfl, rfl, rfl⟩ := ht2.val
  have kw6 := kw5.no k6
  have e3 := k6.get0 e3
  (repeat refine Zr ?_)
  refine s_al rfl (fun b7 w7 n7 => ?_)
  have g7 := n7.ge
  refine s_st (vs := [.slice xa2 S'.ex.length xc2, .slice sa2 S'.st.length sc2, .slice fa2 S'.fn.length fc2]) rfl rfl rfl rfl rfl n7.blk (Nat.le_of_ble_eq_true rfl) (fun w8 s8 => ?_)
  have k8 : Kp No w6 w8 := n7.kp.trans s8.kp fun i hi e => by omega
  have e7 : w8.heap[b7]? = some (.cells [.slice xa2 S'.ex.length xc2, .slice sa2 S'.st.length sc2, .slice fa2 S'.fn.length fc2].toArray 27 (0, 0)) := s8.blk
  have e3 := k8.get0 e3
  have kw8 := kw6.no k8
  have ht8 := ht4.kp ((k5.no k6).no k8)
  have hu8 := ht2.kp k8
  have px1 := hI.px
  have px2 := hI'.px
  have pz1 := hI.pz
  have pz2 := hI'.pz
  have fl2 := hI'.fl
  have hsm2 : S'.ex.length ≤ 600 ∧ S'.st.length ≤ 600 := by omega
  (repeat refine Zr ?_)
  refine k_h (fun w' => Kp No w8 w') [(0, false), (1, false), (2, false), (3, false), (5, false), (4, true), (6, true), (7, true), (8, false), (9, false), (10, false), (12, false), (11, true), (13, false), (14, false), (15, false)] 16 (by kernel_rfl) (by exact waits_none) (by kernel_rfl) (by kernel_rfl) rfl rfl (fun m1 q1 _ => ?_)
  have hd3 := fun (w' : World) (hw : Kp No w8 w') => hw.get0 e3
  have hd7 := fun (w' : World) (hw : Kp No w8 w') => hw.get0 e7
  refine h_v q1 (fun w' hw => r_mv rfl) ?_
  refine h_v q1 (fun w' hw => r_bin rfl) ?_
  refine h_re 38 (v' := .bool true) rfl rfl ?_
  refine h_v q1 (fun w' hw => r_mv rfl) ?_
  refine h_gv rfl q1 (fun w' hw => r_lwb rfl (hd7 w' hw) rfl rfl) ?_
  refine h_gv rfl q1 (fun w' hw => r_lwb rfl (hd3 w' hw) rfl rfl) ?_
  refine h_gcall (us := []) (zs := []) rfl (by kernel_rfl) rfl rfl (bareF _ _ _ m1 (hu8.kp q1) (by omega) (by omega) (by omega)) ?_
  rintro _ m2 ⟨q2, yx, ys, yf, rfl, hy⟩
  have q12 := q1.no q2
  refine ⟨fun _ => q12, ?_⟩
  refine h_gcall (us := []) (zs := []) rfl (by kernel_rfl) rfl rfl (bareF _ _ _ m2 (ht8.kp q12) (by omega) (by omega) (by omega)) ?_
  rintro _ m3 ⟨q3, zx', zs', zf', rfl, hz⟩
  have q13 := q12.no q3
  refine ⟨fun _ => q13, ?_⟩
  rw [x1, x2, x3] at hy
  rw [hI.ex, hI.st, hI.fn] at hz
  obtain ⟨a1, a2, a3, a4, a5, a6, rfl, rfl, rfl⟩ := hy.val
  obtain ⟨c1, c2, c3, c4, c5, c6, rfl, rfl, rfl⟩ := hz.val
  refine h_gcall (us := []) (zs := []) rfl (by kernel_rfl) rfl rfl (SameF _ _ _ _ _ _ ⟨0, pX 0 fs, pS 0 0 fs, pF 0 fs⟩ m3 (hy.kp q3) hz (by show (pX 0 fs).length ≤ _; rw [pX_len]; omega) (by show (pS 0 0 fs).length ≤ _; rw [pS_len]; omega) (by show (pF 0 fs).length ≤ _; rw [pF_els fs 0 0, List.length_map, elsF_len]; omega)) ?_
  rintro _ m4 ⟨rfl, q4⟩
  have q14 := q13.no q4
  refine ⟨fun _ => q14, ?_⟩
  (repeat (first | refine Zhq ?_ | refine Zhgn ?_ | refine Zhgu ?_ | refine Zhgv ?_))
  refine h_gcall (us := []) (zs := []) rfl (by kernel_rfl) rfl rfl (PrintF hI' hne _ _ _ m4 ((hg.kp kw8).kp q14).pr (hu8.kp q14) (by omega) (by omega)) ?_
  rintro _ m5 ⟨⟨t2, rfl, hB2⟩, q5⟩
  have q15 := q14.no q5
  refine ⟨fun _ => q15, ?_⟩
  obtain rfl : t2 = t := B_inj (hB2.trans hB.symm)
  (repeat (first | refine Zhq ?_ | refine Zhgn ?_ | refine Zhgu ?_ | refine Zhgv ?_))
  refine h_nil ?_
  (repeat refine Zr ?_)
  refine ret_1 rfl rfl ⟨congrArg Value.bool ?_, kw8.no q15⟩
  rw [str_eq]; exact decide_eq_true rfl
end Pr
end Go.Proofs.YtfnbgbeinmekgaaGreatDoor
