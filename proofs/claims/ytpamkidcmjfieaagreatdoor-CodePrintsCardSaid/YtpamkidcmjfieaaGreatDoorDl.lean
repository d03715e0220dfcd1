/- Code: the document's Print. -/
import Derived.Test.YtpamkidcmjfieaaGreatDoorDe
import Derived.Test.YtpamkidcmjfieaaGreatDoorDh
namespace Go.Proofs.YtpamkidcmjfieaaGreatDoor
open Go Go.RowKit Fw Nu
set_option linter.unusedVariables false
set_option maxRecDepth 20000
namespace Cd
theorem insLn_eq (i : Ins) : insLn i = (sh i.op).1 ++ (if (sh i.op).2.1 = 0 then [] else 32 :: dc i.arg) ++ (if i.op = 7 then 32 :: dc i.more else []) := by
  unfold insLn fld
  by_cases k0 : (sh i.op).2.1 = 0
  · have n7 : ¬ i.op = 7 := fun e => by rw [e] at k0; exact absurd k0 (by decide)
    rw [if_pos k0, if_pos k0, if_neg n7, if_neg n7]; simp [Sp.jnc]
  · rw [if_neg k0, if_neg k0]
    by_cases n7 : i.op = 7
    · rw [if_pos n7, if_pos n7]; simp [Sp.jnc]
    · rw [if_neg n7, if_neg n7]; simp [Sp.jnc]
theorem size_of {s : ByteArray} {L : List Int} {n : Nat} (h : B s = L) (hl : L.length ≤ n) : s.size ≤ n := by rw [← B_len, h]; exact hl
set_option maxHeartbeats 8000000 in
theorem rPrint (c : Cde) (ap al : Option Addr) (cp cl : Nat) (w : World) (hp : RP w ap c.ps) (hi : RI w al c.is) (hn : c.ps.length ≤ 1000000) (hm : c.is.length ≤ 400000) (hz : ∀ p ∈ c.ps, p.nm.size ≤ 1000000) (hw : WN c) (hf : form c) (hT : (txt c).length ≤ 900000) :
    Ret Tryz.prog 18 [.agg #[.slice ap c.ps.length cp, .slice al c.is.length cl]] w fun v w1 => Kp No w w1 ∧ ∃ s, v = .string s ∧ B s = txt c := by
  have h5 : (ByteArray.mk #[112, 114, 111, 99, 32]).size = 5 := rfl
  have h1 : (ByteArray.mk #[32]).size = 1 := rfl
  have h10 : (ByteArray.mk #[10]).size = 1 := rfl
  refine ret_enter Tryz.func18 rfl Tryz.ntmps18 rfl ?_
  (repeat (first | refine k_nil ?_ | refine k_n ?_ | refine k_r ?_ | refine k_x ?_ | refine b_n ?_ | refine b_r ?_ | refine b_y rfl ?_ | refine b_z rfl ?_ | refine l_r ?_ | refine l_x ?_ | refine k_seq ?_ | refine k_blk ?_ | refine k_reg ?_ | refine k_ret ?_ | refine k_exit ?_ | refine k_skip ?_ | refine Zs ?_))
  refine s_box (cs := [.slice ap c.ps.length cp, .slice al c.is.length cl]) rfl rfl (fun b1 w1 n1 => ?_)
  have e1 := n1.blk
  have kw1 := n1.kp
  (repeat (first | refine k_nil ?_ | refine k_n ?_ | refine k_r ?_ | refine k_x ?_ | refine b_n ?_ | refine b_r ?_ | refine b_y rfl ?_ | refine b_z rfl ?_ | refine l_r ?_ | refine l_x ?_ | refine k_seq ?_ | refine k_blk ?_ | refine k_reg ?_ | refine k_ret ?_ | refine k_exit ?_ | refine k_skip ?_ | refine Zs ?_))
  refine k_loop (σ := Nat × ByteArray) (fun s => [(1, .pointer (some ⟨b1, 0, none⟩)), (3, .string s.2), (10, .int .i64 c.ps.length), (11, .int .i64 s.1)])
    (fun s m => s.1 ≤ c.ps.length ∧ Kp No w1 m ∧ B s.2 = unl ((c.ps.take s.1).flatMap fun p => procLn p :: (part c p).map insLn)) (fun s => c.ps.length - s.1) (0, ⟨#[]⟩) ⟨rfl, rfl, rfl, rfl, trivial⟩ ⟨Nat.zero_le _, Kp.refl _ _, by simp [B, unl]⟩ ?_
  rintro ⟨j, t⟩ l m ⟨hj, km, hB⟩
  simp only at hj hB
  try dsimp only
  have e1m := km.get0 e1
  (repeat (first | refine k_nil ?_ | refine k_n ?_ | refine k_r ?_ | refine k_x ?_ | refine b_n ?_ | refine b_r ?_ | refine b_y rfl ?_ | refine b_z rfl ?_ | refine l_r ?_ | refine l_x ?_ | refine k_seq ?_ | refine k_blk ?_ | refine k_reg ?_ | refine k_ret ?_ | refine k_exit ?_ | refine k_skip ?_ | refine Zs ?_))
  refine c_dec rfl (fun hlt => ?_) (fun hge => ?_)
  · obtain ⟨p, hx⟩ : ∃ p, c.ps[j]? = some p := ⟨_, List.getElem?_eq_getElem (by omega)⟩
    have hpm := List.mem_of_getElem? hx
    obtain ⟨f1, f2, f3⟩ := form_at hf hpm
    obtain ⟨R, hR⟩ := pre_txt hx
    have hRl := congrArg List.length hR
    rw [List.length_append, List.length_append] at hRl
    obtain ⟨pb, po, rfl, _, hc⟩ := (hp.kp0 (kw1.no km)).at hx
    obtain ⟨hi1, hi2, hi3⟩ := hw.1 p hpm
    have htz : t.size ≤ 900000 := size_of hB (by omega)
    have hnz := hz p hpm
    (repeat (first | refine k_nil ?_ | refine k_n ?_ | refine k_r ?_ | refine k_x ?_ | refine b_n ?_ | refine b_r ?_ | refine b_y rfl ?_ | refine b_z rfl ?_ | refine l_r ?_ | refine l_x ?_ | refine k_seq ?_ | refine k_blk ?_ | refine k_reg ?_ | refine k_ret ?_ | refine k_exit ?_ | refine k_skip ?_ | refine Zs ?_))
    refine s_v (r_ia (i := j) rfl rfl rfl rfl (by omega) (by omega)) ?_
    refine s_v (r_lda (vs := pc p) rfl rfl rfl rfl hc) ?_
    refine s_al rfl (fun b5 m1 n5 => ?_)
    have g5 := n5.ge
    refine s_st (vs := pc p) rfl rfl rfl rfl rfl n5.blk (Nat.le_of_ble_eq_true rfl) (fun m2 s2 => ?_)
    have k2m : Kp No m m2 := n5.kp.trans s2.kp (fun _ _ e => by omega)
    have e5 : m2.heap[b5]? = some (.cells [Value.string p.nm, .int .i64 p.fr, .int .i64 p.to, .int .i64 p.pa, .int .i64 p.sl, .int .i64 p.ty].toArray 57 (0, 0)) := s2.blk
    (repeat (first | refine k_nil ?_ | refine k_n ?_ | refine k_r ?_ | refine k_x ?_ | refine b_n ?_ | refine b_r ?_ | refine b_y rfl ?_ | refine b_z rfl ?_ | refine l_r ?_ | refine l_x ?_ | refine k_seq ?_ | refine k_blk ?_ | refine k_reg ?_ | refine k_ret ?_ | refine k_exit ?_ | refine k_skip ?_ | refine Zs ?_))
    refine k_h (fun w' => Kp No m2 w') [(0, false), (1, false), (2, false), (3, false), (4, false), (5, false), (6, false), (7, false), (11, false), (12, false), (16, false), (17, false), (8, true), (9, false), (10, false), (13, true), (14, false), (15, false), (18, true), (19, false), (20, false), (21, false)] 22 (by kernel_rfl) (by exact waits_none) (by kernel_rfl) (by kernel_rfl) rfl rfl (fun m3 k3 _ => ?_)
    refine h_v k3 (fun w' hw => r_mv rfl) ?_
    refine h_v k3 (fun w' hw => r_cat rfl rfl (by omega)) ?_
    refine h_v k3 (fun w' hw => r_fa rfl rfl) ?_
    refine h_v k3 (fun w' hw => r_ld rfl rfl (cell_of_blk (hw.get0 e5) rfl)) ?_
    refine h_v k3 (fun w' hw => r_cat rfl rfl (by simp only [ByteArray.size_append, h5]; omega)) ?_
    refine h_v k3 (fun w' hw => r_cat rfl rfl (by simp only [ByteArray.size_append, h5, h1]; omega)) ?_
    refine h_v k3 (fun w' hw => r_fa rfl rfl) ?_
    refine h_v k3 (fun w' hw => r_ld rfl rfl (cell_of_blk (hw.get0 e5) rfl)) ?_
    refine h_v k3 (fun w' hw => r_fa rfl rfl) ?_
    refine h_v k3 (fun w' hw => r_ld rfl rfl (cell_of_blk (hw.get0 e5) rfl)) ?_
    refine h_v k3 (fun w' hw => r_fa rfl rfl) ?_
    refine h_v k3 (fun w' hw => r_ld rfl rfl (cell_of_blk (hw.get0 e5) rfl)) ?_
    refine h_call (us := []) (zs := []) (by kernel_rfl) rfl rfl (Decimal p.pa m3 hi1) ?_
    rintro _ m4 ⟨⟨d1, rfl, hd1⟩, k4⟩
    have z1 := size_of hd1 (dc_len hi1)
    have k34 := k3.no k4
    refine ⟨fun _ => k34, ?_⟩
    refine h_v k34 (fun w' hw => r_cat rfl rfl (by simp only [ByteArray.size_append, h5, h1]; omega)) ?_
    refine h_v k34 (fun w' hw => r_cat rfl rfl (by simp only [ByteArray.size_append, h5, h1]; omega)) ?_
    refine h_call (us := []) (zs := []) (by kernel_rfl) rfl rfl (Decimal p.sl m4 hi2) ?_
    rintro _ m5 ⟨⟨d2, rfl, hd2⟩, k5⟩
    have z2 := size_of hd2 (dc_len hi2)
    have k35 := k34.no k5
    refine ⟨fun _ => k35, ?_⟩
    refine h_v k35 (fun w' hw => r_cat rfl rfl (by simp only [ByteArray.size_append, h5, h1]; omega)) ?_
    refine h_v k35 (fun w' hw => r_cat rfl rfl (by simp only [ByteArray.size_append, h5, h1]; omega)) ?_
    refine h_call (us := []) (zs := []) (by kernel_rfl) rfl rfl (Decimal p.ty m5 hi3) ?_
    rintro _ m6 ⟨⟨d3, rfl, hd3⟩, k6⟩
    have z3 := size_of hd3 (dc_len hi3)
    have k36 := k35.no k6
    refine ⟨fun _ => k36, ?_⟩
    refine h_v k36 (fun w' hw => r_cat rfl rfl (by simp only [ByteArray.size_append, h5, h1]; omega)) ?_
    refine h_v k36 (fun w' hw => r_cat rfl rfl (by simp only [ByteArray.size_append, h5, h1, h10]; omega)) ?_
    refine h_v k36 (fun w' hw => r_as rfl) ?_
    refine h_nil ?_
    obtain ⟨t2, ht2⟩ : ∃ t2, t2 = t ++ ⟨#[112, 114, 111, 99, 32]⟩ ++ p.nm ++ ⟨#[32]⟩ ++ d1 ++ ⟨#[32]⟩ ++ d2 ++ ⟨#[32]⟩ ++ d3 ++ ⟨#[10]⟩ := ⟨_, rfl⟩
    rw [← ht2]
    have hB2 : B t2 = unl ((c.ps.take j).flatMap fun p => procLn p :: (part c p).map insLn) ++ unl [procLn p] := by
      rw [ht2]
      simp only [B_append, hB, hd1, hd2, hd3]
      simp [unl, procLn, Sp.jnc, procL, B]
    have e56 := k36.get0 e5
    have km6 := (km.no k2m).no k36
    (repeat (first | refine k_nil ?_ | refine k_n ?_ | refine k_r ?_ | refine k_x ?_ | refine b_n ?_ | refine b_r ?_ | refine b_y rfl ?_ | refine b_z rfl ?_ | refine l_r ?_ | refine l_x ?_ | refine k_seq ?_ | refine k_blk ?_ | refine k_reg ?_ | refine k_ret ?_ | refine k_exit ?_ | refine k_skip ?_ | refine Zs ?_))
    have hunl : ∀ q, unl (procLn p :: ((part c p).take q).map insLn) ++ unl (((part c p).drop q).map insLn) = unl (procLn p :: (part c p).map insLn) := fun q => by
      rw [← unl_append, List.cons_append, ← List.map_append, List.take_append_drop]
    have hplen : (part c p).length = p.to.toNat - p.fr.toNat := by unfold part; rw [List.length_drop, List.length_take]; omega
    refine k_loop (σ := Nat × ByteArray) (fun s => [(1, .pointer (some ⟨b1, 0, none⟩)), (3, .string s.2), (5, .pointer (some ⟨b5, 0, none⟩)), (6, .int .i64 (p.fr + s.1)), (10, .int .i64 c.ps.length), (11, .int .i64 j)])
      (fun s m' => s.1 ≤ (part c p).length ∧ Kp No m6 m' ∧ B s.2 = unl ((c.ps.take j).flatMap fun p => procLn p :: (part c p).map insLn) ++ unl (procLn p :: ((part c p).take s.1).map insLn)) (fun s => (part c p).length - s.1) (0, t2) ⟨rfl, rfl, rfl, (by show _ = Value.int .i64 (p.fr + ((0 : Nat) : Int)); rw [show p.fr + ((0 : Nat) : Int) = p.fr from by omega]; rfl), rfl, rfl, trivial⟩ ⟨Nat.zero_le _, Kp.refl _ _, hB2⟩ ?_
    rintro ⟨q, t3⟩ l2 m7 ⟨hq, km7, hB3⟩
    simp only at hq hB3
    try dsimp only
    have e57 := km7.get0 e56
    have e17 := (km6.no km7).get0 e1
    have hlq := congrArg List.length (hunl q)
    rw [List.length_append] at hlq
    have htz3 : t3.size ≤ 900000 := size_of hB3 (by rw [List.length_append]; omega)
    (repeat (first | refine k_nil ?_ | refine k_n ?_ | refine k_r ?_ | refine k_x ?_ | refine b_n ?_ | refine b_r ?_ | refine b_y rfl ?_ | refine b_z rfl ?_ | refine l_r ?_ | refine l_x ?_ | refine k_seq ?_ | refine k_blk ?_ | refine k_reg ?_ | refine k_ret ?_ | refine k_exit ?_ | refine k_skip ?_ | refine Zs ?_))
    refine c_dec rfl (fun hlt2 => ?_) (fun hge2 => ?_)
    · obtain ⟨i, hxi⟩ : ∃ i, (part c p)[q]? = some i := ⟨_, List.getElem?_eq_getElem (by omega)⟩
      have him := List.mem_of_getElem? hxi
      have hfi := (hf.2.1 p hpm i him).1
      obtain ⟨hwa, hwm⟩ := hw.2 i (part_mem him)
      have hxi2 : c.is[p.fr.toNat + q]? = some i := by
        unfold part at hxi
        rw [List.getElem?_drop, List.getElem?_take] at hxi
        split at hxi
        · exact hxi
        · cases hxi
      have ecast : ((p.fr.toNat + q : Nat) : Int) = p.fr + q := by omega
      obtain ⟨ib, io, rfl, _, hci⟩ := (hi.kp0 (kw1.no (km6.no km7))).at hxi2
      rw [ecast] at hci
      have hil := (List.getElem?_eq_some_iff.1 hxi2).1
      (repeat (first | refine k_nil ?_ | refine k_n ?_ | refine k_r ?_ | refine k_x ?_ | refine b_n ?_ | refine b_r ?_ | refine b_y rfl ?_ | refine b_z rfl ?_ | refine l_r ?_ | refine l_x ?_ | refine k_seq ?_ | refine k_blk ?_ | refine k_reg ?_ | refine k_ret ?_ | refine k_exit ?_ | refine k_skip ?_ | refine Zs ?_))
      refine s_v (r_ia rfl rfl rfl rfl (by omega) (by omega)) ?_
      refine s_v (r_lda (vs := ic i) rfl rfl rfl rfl hci) ?_
      refine s_al rfl (fun b7 m8 n7 => ?_)
      have g7 := n7.ge
      refine s_st (vs := ic i) rfl rfl rfl rfl rfl n7.blk (Nat.le_of_ble_eq_true rfl) (fun m9 s9 => ?_)
      have k79 : Kp No m7 m9 := n7.kp.trans s9.kp (fun _ _ e => by omega)
      have e7 : m9.heap[b7]? = some (.cells [Value.int .i64 i.op, .int .i64 i.arg, .int .i64 i.more].toArray 58 (0, 0)) := s9.blk
      have e59 := k79.get0 e57
      have e19 := k79.get0 e17
      have hwl := (sh_ok hfi).2.2.2
      have hWs : (strOfNums (sh i.op).1).size ≤ 7 := by rw [sv_size (sh_inB (by omega))]; exact hwl
      (repeat (first | refine k_nil ?_ | refine k_n ?_ | refine k_r ?_ | refine k_x ?_ | refine b_n ?_ | refine b_r ?_ | refine b_y rfl ?_ | refine b_z rfl ?_ | refine l_r ?_ | refine l_x ?_ | refine k_seq ?_ | refine k_blk ?_ | refine k_reg ?_ | refine k_ret ?_ | refine k_exit ?_ | refine k_skip ?_ | refine Zs ?_))
      refine k_h (fun w' => Kp No m9 w') [(0, false), (2, false), (3, false), (1, true), (4, false), (5, true), (6, false), (7, false)] 8 (by kernel_rfl) (by exact waits_none) (by kernel_rfl) (by kernel_rfl) rfl rfl (fun m10 k10 _ => ?_)
      refine h_v k10 (fun w' hw => r_mv rfl) ?_
      refine h_v k10 (fun w' hw => r_fa rfl rfl) ?_
      refine h_v k10 (fun w' hw => r_ld rfl rfl (cell_of_blk (hw.get0 e7) rfl)) ?_
      refine h_call (us := []) (zs := []) (by kernel_rfl) rfl rfl (rWords m10) ?_
      rintro _ m11 ⟨wb, rfl, hwb, hRW, k11⟩
      have k911 := k10.no k11
      refine ⟨fun _ => k911, ?_⟩
      have hWc := hRW.at (j := i.op.toNat) (p := (sh i.op).1) (word_at (by omega))
      obtain ⟨_, _, he, _, hcw⟩ := hWc
      cases he
      rw [Int.toNat_natCast] at hcw
      have hcw : m11.cell? ⟨wb, 0 + i.op.toNat * 1, none⟩ = some (.string (strOfNums (sh i.op).1)) := hcw
      refine h_v k911 (fun w' hw => r_ia rfl rfl rfl rfl (by omega) (by omega)) ?_
      refine h_w (r_ld rfl rfl hcw) (fun _ => k911) ?_
      refine h_v k911 (fun w' hw => r_cat rfl rfl (by omega)) ?_
      refine h_v k911 (fun w' hw => r_as rfl) ?_
      refine h_nil ?_
      obtain ⟨t4, ht4⟩ : ∃ t4, t4 = t3 ++ strOfNums (sh i.op).1 := ⟨_, rfl⟩
      rw [← ht4]
      have hB4 : B t4 = B t3 ++ (sh i.op).1 := by rw [ht4, B_append, B_str (sh_inB (by omega))]
      have htz4 : t4.size ≤ 900007 := by rw [ht4, ByteArray.size_append]; omega
      have e711 := k911.get0 e7
      have e511 := k911.get0 e59
      have e111 := k911.get0 e19
      have k711 := k79.no k911
      (repeat (first | refine k_nil ?_ | refine k_n ?_ | refine k_r ?_ | refine k_x ?_ | refine b_n ?_ | refine b_r ?_ | refine b_y rfl ?_ | refine b_z rfl ?_ | refine l_r ?_ | refine l_x ?_ | refine k_seq ?_ | refine k_blk ?_ | refine k_reg ?_ | refine k_ret ?_ | refine k_exit ?_ | refine k_skip ?_ | refine Zs ?_))
      refine s_call (us := []) (zs := []) (by kernel_rfl) rfl rfl (rHas i.op m11 hfi) ?_
      rintro _ m12 ⟨rfl, rfl⟩
      (repeat (first | refine k_nil ?_ | refine k_n ?_ | refine k_r ?_ | refine k_x ?_ | refine b_n ?_ | refine b_r ?_ | refine b_y rfl ?_ | refine b_z rfl ?_ | refine l_r ?_ | refine l_x ?_ | refine k_seq ?_ | refine k_blk ?_ | refine k_reg ?_ | refine k_ret ?_ | refine k_exit ?_ | refine k_skip ?_ | refine Zs ?_))
      refine k_cutc (σ := ByteArray) (fun t => [(1, .pointer (some ⟨b1, 0, none⟩)), (3, .string t), (5, .pointer (some ⟨b5, 0, none⟩)), (6, .int .i64 (p.fr + q)), (7, .pointer (some ⟨b7, 0, none⟩)), (10, .int .i64 c.ps.length), (11, .int .i64 j)])
        (fun t m' => Kp No m12 m' ∧ B t = B t4 ++ (if (sh i.op).2.1 = 0 then [] else 32 :: dc i.arg)) ?_ ?_
      · refine c_dec rfl (fun hh => ?_) (fun hh => ?_)
        · have k0 : ¬ (sh i.op).2.1 = 0 := fun e => by unfold hs at hh; rw [if_pos e] at hh; omega
          (repeat (first | refine k_nil ?_ | refine k_n ?_ | refine k_r ?_ | refine k_x ?_ | refine b_n ?_ | refine b_r ?_ | refine b_y rfl ?_ | refine b_z rfl ?_ | refine l_r ?_ | refine l_x ?_ | refine k_seq ?_ | refine k_blk ?_ | refine k_reg ?_ | refine k_ret ?_ | refine k_exit ?_ | refine k_skip ?_ | refine Zs ?_))
          refine s_v (r_cat rfl rfl (by omega)) ?_
          (repeat (first | refine k_nil ?_ | refine k_n ?_ | refine k_r ?_ | refine k_x ?_ | refine b_n ?_ | refine b_r ?_ | refine b_y rfl ?_ | refine b_z rfl ?_ | refine l_r ?_ | refine l_x ?_ | refine k_seq ?_ | refine k_blk ?_ | refine k_reg ?_ | refine k_ret ?_ | refine k_exit ?_ | refine k_skip ?_ | refine Zs ?_))
          refine s_call (us := []) (zs := []) (by kernel_rfl) rfl rfl (Decimal i.arg m12 hwa) ?_
          rintro _ m13 ⟨⟨d, rfl, hd⟩, k13⟩
          have zd := size_of hd (dc_len hwa)
          refine s_v (r_cat rfl rfl (by simp only [ByteArray.size_append, h1]; omega)) ?_
          (repeat (first | refine k_nil ?_ | refine k_n ?_ | refine k_r ?_ | refine k_x ?_ | refine b_n ?_ | refine b_r ?_ | refine b_y rfl ?_ | refine b_z rfl ?_ | refine l_r ?_ | refine l_x ?_ | refine k_seq ?_ | refine k_blk ?_ | refine k_reg ?_ | refine k_ret ?_ | refine k_exit ?_ | refine k_skip ?_ | refine Zs ?_))
          refine l_cut (t4 ++ ⟨#[32]⟩ ++ d) ⟨rfl, rfl, rfl, rfl, rfl, rfl, rfl, trivial⟩ ⟨k13, ?_⟩
          rw [if_neg k0, B_append, B_append, hd, List.append_assoc]
          rfl
        · have k0 : (sh i.op).2.1 = 0 := by
            by_cases e : (sh i.op).2.1 = 0
            · exact e
            · exfalso; unfold hs at hh; rw [if_neg e] at hh; split at hh <;> omega
          (repeat (first | refine k_nil ?_ | refine k_n ?_ | refine k_r ?_ | refine k_x ?_ | refine b_n ?_ | refine b_r ?_ | refine b_y rfl ?_ | refine b_z rfl ?_ | refine l_r ?_ | refine l_x ?_ | refine k_seq ?_ | refine k_blk ?_ | refine k_reg ?_ | refine k_ret ?_ | refine k_exit ?_ | refine k_skip ?_ | refine Zs ?_))
          exact l_cut t4 ⟨rfl, rfl, rfl, rfl, rfl, rfl, rfl, trivial⟩ ⟨Kp.refl _ _, by rw [if_pos k0, List.append_nil]⟩
      rintro t5 l3 m13 ⟨k13, hB5⟩
      have htz5 : t5.size ≤ 900028 := size_of hB5 (by
        rw [List.length_append, B_len]
        have := dc_len hwa
        split <;> simp <;> omega)
      have e713 := k13.get0 e711
      (repeat (first | refine k_nil ?_ | refine k_n ?_ | refine k_r ?_ | refine k_x ?_ | refine b_n ?_ | refine b_r ?_ | refine b_y rfl ?_ | refine b_z rfl ?_ | refine l_r ?_ | refine l_x ?_ | refine k_seq ?_ | refine k_blk ?_ | refine k_reg ?_ | refine k_ret ?_ | refine k_exit ?_ | refine k_skip ?_ | refine Zs ?_))
      refine s_call (us := []) (zs := []) (by kernel_rfl) rfl rfl (rHas i.op m13 hfi) ?_
      rintro _ m14 ⟨rfl, rfl⟩
      (repeat (first | refine k_nil ?_ | refine k_n ?_ | refine k_r ?_ | refine k_x ?_ | refine b_n ?_ | refine b_r ?_ | refine b_y rfl ?_ | refine b_z rfl ?_ | refine l_r ?_ | refine l_x ?_ | refine k_seq ?_ | refine k_blk ?_ | refine k_reg ?_ | refine k_ret ?_ | refine k_exit ?_ | refine k_skip ?_ | refine Zs ?_))
      refine k_cutc (σ := ByteArray) (fun t => [(1, .pointer (some ⟨b1, 0, none⟩)), (3, .string t), (5, .pointer (some ⟨b5, 0, none⟩)), (6, .int .i64 (p.fr + q)), (7, .pointer (some ⟨b7, 0, none⟩)), (10, .int .i64 c.ps.length), (11, .int .i64 j)])
        (fun t m' => Kp No m14 m' ∧ B t = B t5 ++ (if i.op = 7 then 32 :: dc i.more else [])) ?_ ?_
      · refine c_dec rfl (fun hh => ?_) (fun hh => ?_)
        · have h7 : i.op = 7 := by
            by_cases e : i.op = 7
            · exact e
            · exfalso; unfold hs at hh; rw [if_neg e] at hh; split at hh <;> omega
          (repeat (first | refine k_nil ?_ | refine k_n ?_ | refine k_r ?_ | refine k_x ?_ | refine b_n ?_ | refine b_r ?_ | refine b_y rfl ?_ | refine b_z rfl ?_ | refine l_r ?_ | refine l_x ?_ | refine k_seq ?_ | refine k_blk ?_ | refine k_reg ?_ | refine k_ret ?_ | refine k_exit ?_ | refine k_skip ?_ | refine Zs ?_))
          refine s_v (r_cat rfl rfl (by omega)) ?_
          (repeat (first | refine k_nil ?_ | refine k_n ?_ | refine k_r ?_ | refine k_x ?_ | refine b_n ?_ | refine b_r ?_ | refine b_y rfl ?_ | refine b_z rfl ?_ | refine l_r ?_ | refine l_x ?_ | refine k_seq ?_ | refine k_blk ?_ | refine k_reg ?_ | refine k_ret ?_ | refine k_exit ?_ | refine k_skip ?_ | refine Zs ?_))
          refine s_call (us := []) (zs := []) (by kernel_rfl) rfl rfl (Decimal i.more m14 hwm) ?_
          rintro _ m15 ⟨⟨d, rfl, hd⟩, k15⟩
          have zd := size_of hd (dc_len hwm)
          refine s_v (r_cat rfl rfl (by simp only [ByteArray.size_append, h1]; omega)) ?_
          (repeat (first | refine k_nil ?_ | refine k_n ?_ | refine k_r ?_ | refine k_x ?_ | refine b_n ?_ | refine b_r ?_ | refine b_y rfl ?_ | refine b_z rfl ?_ | refine l_r ?_ | refine l_x ?_ | refine k_seq ?_ | refine k_blk ?_ | refine k_reg ?_ | refine k_ret ?_ | refine k_exit ?_ | refine k_skip ?_ | refine Zs ?_))
          refine l_cut (t5 ++ ⟨#[32]⟩ ++ d) ⟨rfl, rfl, rfl, rfl, rfl, rfl, rfl, trivial⟩ ⟨k15, ?_⟩
          rw [if_pos h7, B_append, B_append, hd, List.append_assoc]
          rfl
        · have h7 : ¬ i.op = 7 := fun e => by
            unfold hs at hh
            rw [if_neg (by rw [e]; decide), if_pos e] at hh
            omega
          (repeat (first | refine k_nil ?_ | refine k_n ?_ | refine k_r ?_ | refine k_x ?_ | refine b_n ?_ | refine b_r ?_ | refine b_y rfl ?_ | refine b_z rfl ?_ | refine l_r ?_ | refine l_x ?_ | refine k_seq ?_ | refine k_blk ?_ | refine k_reg ?_ | refine k_ret ?_ | refine k_exit ?_ | refine k_skip ?_ | refine Zs ?_))
          exact l_cut t5 ⟨rfl, rfl, rfl, rfl, rfl, rfl, rfl, trivial⟩ ⟨Kp.refl _ _, by rw [if_neg h7, List.append_nil]⟩
      rintro t6 l4 m15 ⟨k15, hB6⟩
      have htz6 : t6.size ≤ 900049 := size_of hB6 (by
        rw [List.length_append, B_len]
        have := dc_len hwm
        split <;> simp <;> omega)
      (repeat (first | refine k_nil ?_ | refine k_n ?_ | refine k_r ?_ | refine k_x ?_ | refine b_n ?_ | refine b_r ?_ | refine b_y rfl ?_ | refine b_z rfl ?_ | refine l_r ?_ | refine l_x ?_ | refine k_seq ?_ | refine k_blk ?_ | refine k_reg ?_ | refine k_ret ?_ | refine k_exit ?_ | refine k_skip ?_ | refine Zs ?_))
      refine s_v (r_cat rfl rfl (by omega)) ?_
      (repeat (first | refine k_nil ?_ | refine k_n ?_ | refine k_r ?_ | refine k_x ?_ | refine b_n ?_ | refine b_r ?_ | refine b_y rfl ?_ | refine b_z rfl ?_ | refine l_r ?_ | refine l_x ?_ | refine k_seq ?_ | refine k_blk ?_ | refine k_reg ?_ | refine k_ret ?_ | refine k_exit ?_ | refine k_skip ?_ | refine Zs ?_))
      refine l_next (q + 1, t6 ++ ⟨#[10]⟩) ⟨rfl, rfl, rfl, (by show _ = Value.int .i64 (p.fr + ((q + 1 : Nat) : Int)); rw [show p.fr + ((q + 1 : Nat) : Int) = p.fr + q + 1 from by omega]; rfl), rfl, rfl, trivial⟩ ⟨by show q + 1 ≤ _; omega, ((km7.no k711).no k13).no k15, ?_⟩ (by show (part c p).length - (q + 1) < (part c p).length - q; omega)
      show B (t6 ++ ⟨#[10]⟩) = _ ++ unl (procLn p :: ((part c p).take (q + 1)).map insLn)
      have e10 : B ⟨#[10]⟩ = [10] := rfl
      rw [B_append, hB6, hB5, hB4, hB3, e10, List.take_add_one, hxi, Option.toList_some, List.map_append, List.map_singleton, insLn_eq i]
      simp [unl, List.flatMap_append]
    · obtain rfl : q = (part c p).length := by omega
      rw [List.take_length] at hB3
      (repeat (first | refine k_nil ?_ | refine k_n ?_ | refine k_r ?_ | refine k_x ?_ | refine b_n ?_ | refine b_r ?_ | refine b_y rfl ?_ | refine b_z rfl ?_ | refine l_r ?_ | refine l_x ?_ | refine k_seq ?_ | refine k_blk ?_ | refine k_reg ?_ | refine k_ret ?_ | refine k_exit ?_ | refine k_skip ?_ | refine Zs ?_))
      refine l_next (j + 1, t3) ⟨rfl, rfl, rfl, rfl, trivial⟩ ⟨by show j + 1 ≤ _; omega, km6.no km7, ?_⟩ (by show c.ps.length - (j + 1) < c.ps.length - j; omega)
      show B t3 = unl ((c.ps.take (j + 1)).flatMap fun p => procLn p :: (part c p).map insLn)
      rw [List.take_add_one, hx, Option.toList_some, List.flatMap_append, unl_append, List.flatMap_cons, List.flatMap_nil, List.append_nil]
      exact hB3
  · obtain rfl : j = c.ps.length := by omega
    rw [List.take_length] at hB
    (repeat (first | refine k_nil ?_ | refine k_n ?_ | refine k_r ?_ | refine k_x ?_ | refine b_n ?_ | refine b_r ?_ | refine b_y rfl ?_ | refine b_z rfl ?_ | refine l_r ?_ | refine l_x ?_ | refine k_seq ?_ | refine k_blk ?_ | refine k_reg ?_ | refine k_ret ?_ | refine k_exit ?_ | refine k_skip ?_ | refine Zs ?_))
    exact ret_1 rfl rfl ⟨kw1.no km, t, rfl, hB⟩
end Cd
end Go.Proofs.YtpamkidcmjfieaaGreatDoor
