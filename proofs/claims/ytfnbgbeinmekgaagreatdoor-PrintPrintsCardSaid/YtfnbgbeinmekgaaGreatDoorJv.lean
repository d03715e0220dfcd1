/- Print: PrintPrints. -/
import Derived.Test.YtfnbgbeinmekgaaGreatDoorPc12
namespace Go.Proofs.YtfnbgbeinmekgaaGreatDoor
open Go Go.RowKit Fw Nu Sy Pt
set_option linter.unusedVariables false
set_option maxRecDepth 20000
namespace Pr
set_option maxHeartbeats 8000000 in
theorem printsF (s : ByteArray) (w : World) (hg : GG w) : Ret Tryz.prog 5 [.string s] w fun v w1 => v = .bool true ∧ Kp No w w1 := by
  refine ret_enter Tryz.func5 rfl Tryz.ntmps5 rfl ?_
  (repeat refine Zr ?_)
  refine s_call (us := []) (zs := []) (by kernel_rfl) rfl rfl (awakeF w hg) ?_
  rintro _ w1 ⟨rfl, k1⟩
  (repeat (first | refine Zr ?_ | refine Zn ?_ | refine Zu ?_ | refine Zg ?_))
  refine c_dec rfl (fun hlt => ?_) (fun hge => ?_)
  · (repeat refine Zr ?_)
    refine s_call (us := []) (zs := []) (by kernel_rfl) rfl rfl (awakeF w1 (hg.kp k1)) ?_
    rintro _ w2 ⟨rfl, k2⟩
    (repeat refine Zr ?_)
    exact ret_1 rfl rfl ⟨rfl, k1.no k2⟩
  have hsz : s.size ≤ 600 := by omega
  (repeat refine Zr ?_)
  refine s_call (us := []) (zs := []) (by kernel_rfl) rfl rfl (Rf.parseF s w1 (by omega)) ?_
  rintro _ w2 ⟨ux, us, uf, a, e, rfl, k2, hp⟩
  have key : ∃ a1 n1 c1 a2 n2 c2 a3 n3 c3, ux = .slice a1 n1 c1 ∧ us = .slice a2 n2 c2 ∧ uf = .slice a3 n3 c3 := by
    rcases hp with ⟨S, _, _, ht, _⟩ | ⟨_, _, rfl, rfl, rfl⟩
    · obtain ⟨xa, sa, fa, xc, sc, fc, rfl, rfl, rfl⟩ := ht.val
      exact ⟨_, _, _, _, _, _, _, _, _, rfl, rfl, rfl⟩
    · exact ⟨_, _, _, _, _, _, _, _, _, rfl, rfl, rfl⟩
  obtain ⟨a1, n1, c1, a2, n2, c2, a3, n3, c3, rfl, rfl, rfl⟩ := key
  (repeat refine Zr ?_)
  refine s_al rfl (fun b3 w3 m3 => ?_)
  have g3 := m3.ge
  refine s_st (vs := [.slice a1 n1 c1, .slice a2 n2 c2, .slice a3 n3 c3]) rfl rfl rfl rfl rfl m3.blk (Nat.le_of_ble_eq_true rfl) (fun w4 s4 => ?_)
  have k4 : Kp No w2 w4 := m3.kp.trans s4.kp fun i hi e => by omega
  have e3 : w4.heap[b3]? = some (.cells [.slice a1 n1 c1, .slice a2 n2 c2, .slice a3 n3 c3].toArray 27 (0, 0)) := s4.blk
  have kw4 := (k1.no k2).no k4
  (repeat refine Zr ?_)
  refine c_ne rfl (fun hne => ?_) (fun he => ?_)
  · (repeat refine Zr ?_)
    exact ret_1 rfl rfl ⟨rfl, kw4⟩
  rcases hp with ⟨S, hq, _, ht, _⟩ | ⟨_, h0, _⟩
  rotate_left
  · exact absurd he h0
  have hsm := prs_small hq
  have hfn := (prs_end hq).2
  rw [B_len] at hsm
  obtain ⟨fs, hI⟩ := prs_tree hq
  have hfl := hI.fl
  have hne : fs ≠ [] := fun e => by
    rw [e] at hfl
    exact hfn (List.length_eq_zero_iff.1 hfl)
  have ht4 := ht.kp k4
  have hn1 : n1 = S.ex.length := by
    obtain ⟨xa, sa, fa, xc, sc, fc, e1, e2, e3⟩ := ht4.val
    cases e1; rfl
  subst hn1
  (repeat refine Zr ?_)
  refine k_loop (σ := Nat) (fun j => [(3, .pointer (some ⟨b3, 0, none⟩)), (25, .int .i64 (S.ex.length : Int)), (26, .int .i64 (j : Int))]) (fun j m => j ≤ S.ex.length ∧ Kp No w4 m) (fun j => S.ex.length - j) 0 ⟨rfl, rfl, rfl, trivial⟩ ⟨Nat.zero_le _, Kp.refl _ _⟩ ?_
  rintro j lr m ⟨hj, km⟩
  have e3 := km.get0 e3
  have hd := fun (w' : World) (hw : Kp No m w') => hw.get0 e3
  (repeat refine Zr ?_)
  refine c_dec rfl (fun hlt => ?_) (fun hge2 => ?_)
  · obtain ⟨lo, x, hx, hw, hs, hi⟩ := hI.rt (i := j) (by omega)
    (repeat refine Zr ?_)
    refine k_h (fun w' => Kp No m w') [(0, false), (1, false), (3, false), (4, false), (2, true), (5, true), (6, false)] 7 (by kernel_rfl) (by exact waits_none) (by kernel_rfl) (by kernel_rfl) rfl rfl (fun m1 q1 _ => ?_)
    (repeat (first | refine Zhq ?_ | refine Zhgn ?_ | refine Zhgu ?_ | refine Zhgv ?_))
    rw [hi]
    refine h_call (us := []) (zs := []) (by kernel_rfl) rfl rfl (ExprF lo _ _ _ m1 (((hg.kp kw4).kp km).kp q1).pr ((ht4.kp km).kp q1) (by omega) hs hx hw) ?_
    rintro _ m2 ⟨⟨t1, rfl, hB1⟩, q2⟩
    have q12 := q1.no q2
    refine ⟨fun _ => q12, ?_⟩
    refine h_call (us := []) (zs := []) (by kernel_rfl) rfl rfl (Rp5.ExprF lo _ _ _ m2 ((ht4.kp km).kp q12) (by omega) hs hx hw) ?_
    rintro _ m5 ⟨⟨t2, rfl, hB2⟩, q3⟩
    have q13 := q12.no q3
    refine ⟨fun _ => q13, ?_⟩
    obtain rfl : t2 = t1 := B_inj (hB2.trans hB1.symm)
    (repeat (first | refine Zhq ?_ | refine Zhgn ?_ | refine Zhgu ?_ | refine Zhgv ?_))
    refine h_nil ?_
    rw [← hi]
    (repeat refine Zr ?_)
    refine c_b rfl (fun hb => ?_) (fun hb => ?_)
    · exact absurd hb (by simp)
    (repeat refine Zr ?_)
    exact l_next (j + 1) ⟨rfl, rfl, rfl, trivial⟩ ⟨by omega, km.no q13⟩ (by omega)
  · (repeat refine Zr ?_)
    refine k_h (fun w' => Kp No m w') [(0, false), (2, false), (1, true), (3, true), (4, false), (5, false)] 6 (by kernel_rfl) (by exact waits_none) (by kernel_rfl) (by kernel_rfl) rfl rfl (fun m1 q1 _ => ?_)
    (repeat (first | refine Zhq ?_ | refine Zhgn ?_ | refine Zhgu ?_ | refine Zhgv ?_))
    refine h_call (us := []) (zs := []) (by kernel_rfl) rfl rfl (PrintF hI hne _ _ _ m1 (((hg.kp kw4).kp km).kp q1).pr ((ht4.kp km).kp q1) (by omega) (by omega)) ?_
    rintro _ m2 ⟨⟨t1, rfl, hB1⟩, q2⟩
    have q12 := q1.no q2
    refine ⟨fun _ => q12, ?_⟩
    refine h_call (us := []) (zs := []) (by kernel_rfl) rfl rfl (Rp5.PrintF hI _ _ _ m2 ((ht4.kp km).kp q12) (by omega) (by omega)) ?_
    rintro _ m5 ⟨⟨t2, rfl, hB2⟩, q3⟩
    have q13 := q12.no q3
    refine ⟨fun _ => q13, ?_⟩
    obtain rfl : t2 = t1 := B_inj (hB2.trans hB1.symm)
    (repeat (first | refine Zhq ?_ | refine Zhgn ?_ | refine Zhgu ?_ | refine Zhgv ?_))
    refine h_nil ?_
    (repeat refine Zr ?_)
    refine ret_1 rfl rfl ⟨congrArg Value.bool ?_, (kw4.no km).no q13⟩
    rw [str_eq]; exact decide_eq_true rfl
end Pr
end Go.Proofs.YtfnbgbeinmekgaaGreatDoor
