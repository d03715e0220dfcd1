/- Print: PrintTabs. -/
import Derived.Test.YtfnbgbeinmekgaaGreatDoorPd12
namespace Go.Proofs.YtfnbgbeinmekgaaGreatDoor
open Go Go.RowKit Fw Nu Sy Pt
set_option linter.unusedVariables false
set_option maxRecDepth 20000
namespace Pr
set_option maxHeartbeats 8000000 in
theorem tabsF' (s : ByteArray) (w : World) (hg : GG w) : Ret Tryz.prog 4 [.string s] w fun v w1 => v = .bool true ∧ Kp No w w1 := by
  refine ret_enter Tryz.func4 rfl Tryz.ntmps4 rfl ?_
  (repeat refine Zr ?_)
  refine s_call (us := []) (zs := []) (by kernel_rfl) rfl rfl (awakeF w hg) ?_
  rintro _ w1 ⟨rfl, k1⟩
  (repeat (first | refine Zr ?_ | refine Zn ?_ | refine Zu ?_ | refine Zg ?_))
  refine c_dec rfl (fun hlt => ?_) (fun hge => ?_)
  · (repeat refine Zr ?_)
    refine s_call (us := []) (zs := []) (by kernel_rfl) rfl rfl (awakeF w1 (hg.kp k1)) ?_
    rintro _ w2 ⟨rfl, k2⟩
    (repeat refine Zr ?_)
    exact ret_1 rfl rfl ⟨rfl, k1.no k2⟩
  have hsz : s.size ≤ 600 := by omega
  (repeat refine Zr ?_)
  refine s_call (us := []) (zs := []) (by kernel_rfl) rfl rfl (Rf.parseF s w1 (by omega)) ?_
  rintro _ w2 ⟨ux, us, uf, a, e, rfl, k2, hp⟩
  have key : ∃ a1 n1 c1 a2 n2 c2 a3 n3 c3, ux = .slice a1 n1 c1 ∧ us = .slice a2 n2 c2 ∧ uf = .slice a3 n3 c3 := by
    rcases hp with ⟨S, _, _, ht, _⟩ | ⟨_, _, rfl, rfl, rfl⟩
    · obtain ⟨xa, sa, fa, xc, sc, fc, rfl, rfl, rfl⟩ := ht.val
      exact ⟨_, _, _, _, _, _, _, _, _, rfl, rfl, rfl⟩
    · exact ⟨_, _, _, _, _, _, _, _, _, rfl, rfl, rfl⟩
  obtain ⟨a1, n1, c1, a2, n2, c2, a3, n3, c3, rfl, rfl, rfl⟩ := key
  (repeat refine Zr ?_)
  refine s_al rfl (fun b3 w3 m3 => ?_)
  have g3 := m3.ge
  refine s_st (vs := [.slice a1 n1 c1, .slice a2 n2 c2, .slice a3 n3 c3]) rfl rfl rfl rfl rfl m3.blk (Nat.le_of_ble_eq_true rfl) (fun w4 s4 => ?_)
  have k4 : Kp No w2 w4 := m3.kp.trans s4.kp fun i hi e => by omega
  have e3 : w4.heap[b3]? = some (.cells [.slice a1 n1 c1, .slice a2 n2 c2, .slice a3 n3 c3].toArray 27 (0, 0)) := s4.blk
  have kw4 := (k1.no k2).no k4
  (repeat refine Zr ?_)
  refine c_ne rfl (fun hne => ?_) (fun he => ?_)
  · (repeat refine Zr ?_)
    exact ret_1 rfl rfl ⟨rfl, kw4⟩
  rcases hp with ⟨S, hq, _, ht, _⟩ | ⟨_, h0, _⟩
  rotate_left
  · exact absurd he h0
  have hsm := prs_small hq
  have hfn := (prs_end hq).2
  rw [B_len] at hsm
  obtain ⟨fs, hI⟩ := prs_tree hq
  have hfl := hI.fl
  have hne : fs ≠ [] := fun e => by
    rw [e] at hfl
    exact hfn (List.length_eq_zero_iff.1 hfl)
  have ht4 := ht.kp k4
  have hsc := tabsP fs hI.wf
  have hTl : (tP fs).length ≤ 100000000000 := by
    have := tP_len fs hI.wf
    have h1 := hI.px
    have h2 := hI.pz
    have h4 := hI.len
    rw [h1, h2] at this
    have h5 := Nat.mul_le_mul_right 400200000 (show fs.length ≤ 32 by omega)
    have h6 := Nat.mul_le_mul_right 20100 (show S.ex.length ≤ 600 by omega)
    have h7 := Nat.mul_le_mul_right 21000 (show S.st.length ≤ 600 by omega)
    omega
  (repeat refine Zr ?_)
  refine s_v (r_lwb rfl e3 rfl rfl) ?_
  refine s_call (us := []) (zs := []) (by kernel_rfl) rfl rfl (PrintF hI hne _ _ _ w4 (hg.kp kw4).pr ht4 (by omega) (by omega)) ?_
  rintro _ w5 ⟨⟨t, rfl, hB⟩, k5⟩
  have kw5 := kw4.no k5
  obtain ⟨T, hT⟩ : ∃ T, tP fs = T := ⟨_, rfl⟩
  rw [hT] at hB hsc hTl
  have htz := szB hB
  (repeat refine Zr ?_)
  refine k_loop (σ := Nat × Nat × Int × List Int) (fun q => [(6, .string t), (7, .int .i64 q.2.2.1), (8, .int .i64 (q.2.1 : Int)), (31, .int .i64 (t.size : Int)), (32, .int .i64 (q.1 : Int))])
    (fun q m => q.1 ≤ t.size ∧ scan 0 [] (T.take q.1) = some (q.2.2.1, q.2.2.2) ∧ q.2.1 + q.2.2.2.length = q.1 ∧ q.2.2.2 = (T.take q.1).drop q.2.1 ∧ 0 ≤ q.2.2.1 ∧ q.2.2.1 ≤ 100000000005 ∧ Kp No w5 m) (fun q => t.size - q.1) (0, 0, 0, []) ⟨rfl, rfl, rfl, rfl, rfl, trivial⟩ ⟨Nat.zero_le _, rfl, rfl, rfl, Int.le_refl _, by decide, Kp.refl _ _⟩ ?_
  rintro ⟨i, at_, dp, p⟩ lr m ⟨hi, hscan, hat, hpd, hd0, hd1, km⟩
  simp only at hi hscan hat hpd hd0 hd1
  try dsimp only
  (repeat refine Zr ?_)
  refine c_dec rfl (fun hlt => ?_) (fun hge2 => ?_)
  rotate_left
  · obtain rfl : i = t.size := by omega
    rw [List.take_of_length_le (by omega), hsc] at hscan
    cases hscan
    simp only [List.length_nil, Nat.add_zero] at hat
    subst hat
    (repeat (first | refine Zr ?_ | refine Zn ?_ | refine Zu ?_ | refine Zg ?_))
    refine ret_1 rfl rfl ⟨congrArg Value.bool ?_, kw5.no km⟩
    simp
  obtain ⟨c, hc⟩ : ∃ c, T[i]? = some c := ⟨_, List.getElem?_eq_getElem (by omega)⟩
  have hbt : bt t i = c := B_get (by rw [hB]; exact hc)
  obtain ⟨st1, st2⟩ := scan_step hsc hc hscan
  have htk : T.take (i + 1) = T.take i ++ [c] := by rw [List.take_add_one, hc]; rfl
  have hil : (T.take i).length = i := by rw [List.length_take]; omega
  (repeat refine Zr ?_)
  refine s_v (r_ix rfl rfl rfl (by omega) (by omega)) ?_
  rw [hbt]
  (repeat refine Zr ?_)
  refine c_ne rfl (fun h10 => ?_) (fun h10 => ?_)
  · (repeat refine Zr ?_)
    refine l_next (i + 1, at_, dp, p ++ [c]) ⟨rfl, rfl, rfl, rfl, rfl, trivial⟩ ⟨by simp only; omega, st1 h10, by simp only [List.length_append, List.length_singleton]; omega, ?_, hd0, hd1, km⟩ (by simp only; omega)
    simp only
    rw [htk, List.drop_append_of_le_length (by omega), ← hpd]
  obtain ⟨d', hok, hsc2⟩ := st2 h10
  obtain ⟨lk1, lk2, lk3⟩ := lineOk_inv hok
  (repeat refine Zr ?_)
  refine s_v (r_ss rfl rfl rfl rfl (by omega) (by omega) (by omega)) ?_
  obtain ⟨line, hline⟩ : ∃ x, t.extract (at_ : Int).toNat (i : Int).toNat = x := ⟨_, rfl⟩
  rw [hline]
  have hBl : B line = p := by rw [← hline, B_extract, hB, Int.toNat_natCast, Int.toNat_natCast, ← hpd]
  have hlz := szB hBl
  have hbl : ∀ q : Nat, q < p.length → p[q]? = some (bt line q) := fun q hq => by rw [← hBl]; exact B_at line q (by omega)
  (repeat refine Zr ?_)
  refine k_cutb (σ := Unit) (fun _ => [(6, .string t), (7, .int .i64 dp), (8, .int .i64 ((i : Int) + 1)), (10, .string line), (11, .int .i64 (lead p : Int)), (31, .int .i64 (t.size : Int)), (32, .int .i64 (i : Int))]) (fun _ m' => Kp No m m') ?_ ?_
  · refine k_loop (σ := Nat) (fun n => [(6, .string t), (7, .int .i64 dp), (8, .int .i64 ((i : Int) + 1)), (10, .string line), (11, .int .i64 (n : Int)), (31, .int .i64 (t.size : Int)), (32, .int .i64 (i : Int))]) (fun n m' => n ≤ lead p ∧ Kp No m m') (fun n => lead p - n) 0 ⟨rfl, rfl, rfl, rfl, rfl, rfl, rfl, trivial⟩ ⟨Nat.zero_le _, Kp.refl _ _⟩ ?_
    rintro n lr2 m' ⟨hn, km'⟩
    (repeat refine Zr ?_)
    refine s_set 49 true rfl (by rw [decide_eq_true_eq]; omega) ?_
    (repeat (first | refine Zr ?_ | refine Zn ?_ | refine Zu ?_ | refine Zg ?_))
    refine s_gv rfl (r_ix rfl rfl rfl (by omega) (by omega)) ?_
    (repeat (first | refine Zr ?_ | refine Zn ?_ | refine Zu ?_ | refine Zg ?_))
    refine c_eq rfl (fun h32 => ?_) (fun h32 => ?_)
    · have hlt2 : n < lead p := by
        refine Nat.lt_of_le_of_ne hn fun e => ?_
        have := lead_no p
        rw [← e, hbl n (by omega), h32] at this
        exact this rfl
      (repeat refine Zr ?_)
      exact l_next (n + 1) ⟨rfl, rfl, rfl, rfl, rfl, rfl, rfl, trivial⟩ ⟨by omega, km'⟩ (by omega)
    · have hnl : n = lead p := by
        refine Nat.le_antisymm hn (Nat.le_of_not_lt fun hlt2 => ?_)
        have := lead_at p n hlt2
        rw [hbl n (by omega)] at this
        exact h32 (Option.some.inj this)
      subst hnl
      (repeat refine Zr ?_)
      exact l_cut () ⟨rfl, rfl, rfl, rfl, rfl, rfl, rfl, trivial⟩ km'
  rintro _ lr2 m2 km2
  (repeat refine Zr ?_)
  refine c_eq rfl (fun h => ?_) (fun _ => ?_)
  · exfalso; omega
  (repeat refine Zr ?_)
  refine s_v (r_ix rfl rfl rfl (by omega) (by omega)) ?_
  (repeat refine Zr ?_)
  have hpl := hbl (lead p) lk1
  obtain ⟨D1, hD1⟩ : ∃ D1, (if p[lead p]? = some 125 then dp - 1 else dp) = D1 := ⟨_, rfl⟩
  rw [hD1] at lk2 lk3
  refine k_cutc (σ := Unit) (fun _ => [(6, .string t), (7, .int .i64 D1), (8, .int .i64 ((i : Int) + 1)), (10, .string line), (11, .int .i64 (lead p : Int)), (31, .int .i64 (t.size : Int)), (32, .int .i64 (i : Int))]) (fun _ m' => Kp No m2 m') ?_ ?_
  · refine c_eq rfl (fun h => ?_) (fun h => ?_)
    · rw [hpl, h, if_pos rfl] at hD1
      subst hD1
      (repeat refine Zr ?_)
      exact l_cut () ⟨rfl, rfl, rfl, rfl, rfl, rfl, rfl, trivial⟩ (Kp.refl _ _)
    · rw [hpl, if_neg (fun e => h (Option.some.inj e))] at hD1
      subst hD1
      (repeat refine Zr ?_)
      exact l_cut () ⟨rfl, rfl, rfl, rfl, rfl, rfl, rfl, trivial⟩ (Kp.refl _ _)
  rintro _ lr3 m4 km4
  (repeat refine Zr ?_)
  refine c_ne rfl (fun h => ?_) (fun _ => ?_)
  · exact absurd lk2 h
  (repeat refine Zr ?_)
  refine s_v (r_ix rfl rfl rfl (by omega) (by omega)) ?_
  have hlast : p.getLast? = some (bt line ((line.size : Int) - 1)) := by
    rw [List.getLast?_eq_getElem?, hbl (p.length - 1) (by omega)]
    congr 2; omega
  rw [hlast] at lk3
  have kk := (km.no km2).no km4
  have fin : scan 0 [] (T.take (i + 1)) = some (d', []) ∧ (i + 1) + ([] : List Int).length = i + 1 ∧ ([] : List Int) = (T.take (i + 1)).drop (i + 1) := ⟨hsc2, rfl, by rw [List.drop_eq_nil_of_le]; rw [List.length_take]; omega⟩
  (repeat refine Zr ?_)
  refine c_eq rfl (fun h => ?_) (fun h => ?_)
  · rw [if_pos (by rw [h])] at lk3
    subst lk3
    (repeat refine Zr ?_)
    exact l_next (i + 1, i + 1, D1 + 1, []) ⟨rfl, rfl, rfl, rfl, rfl, trivial⟩ ⟨by simp only; omega, fin.1, fin.2.1, fin.2.2, by simp only; omega, by simp only; omega, kk⟩ (by simp only; omega)
  · rw [if_neg (fun e => h (Option.some.inj e))] at lk3
    subst lk3
    (repeat refine Zr ?_)
    exact l_next (i + 1, i + 1, d', []) ⟨rfl, rfl, rfl, rfl, rfl, trivial⟩ ⟨by simp only; omega, fin.1, fin.2.1, fin.2.2, by simp only; omega, by simp only; omega, kk⟩ (by simp only; omega)
end Pr
end Go.Proofs.YtfnbgbeinmekgaaGreatDoor
