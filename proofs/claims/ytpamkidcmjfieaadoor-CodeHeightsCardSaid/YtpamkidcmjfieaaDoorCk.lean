/- Code: climb. -/
import Derived.Test.YtpamkidcmjfieaaDoorCj
namespace Go.Proofs.YtpamkidcmjfieaaDoor
open Go Go.RowKit Fw Nu
set_option linter.unusedVariables false
set_option maxRecDepth 20000
namespace Fw
/-- An owned row of single cells, without its last. -/
theorem own_pop {w : World} {base : Nat} {e : TypeId} {a : Option Addr} {n c : Nat} {cs : List Value} {x : Value} (h : w.ownsRow base e 1 (.slice a (n + 1) c) (n + 1) (cs ++ [x])) (hl : cs.length = n) : w.ownsRow base e 1 (.slice a n c) n cs := by
  obtain ⟨hl', h⟩ := h
  refine ⟨by omega, ?_⟩
  rcases h with ⟨h, h0⟩ | ⟨g, cap, cur, hv, hg, hb, hn, hm, hs, ht⟩
  · omega
  · simp only [Value.slice.injEq, true_and] at hv
    obtain ⟨rfl, rfl⟩ := hv
    refine .inr ⟨g, c, cur, rfl, hg, hb, by omega, hm, hs, ?_⟩
    have h2 := congrArg (List.take n) ht
    rw [List.take_take, show min n ((n + 1) * 1) = n * 1 from by omega, List.take_append_of_le_length (by omega), List.take_of_length_le (l := cs) (by omega)] at h2
    exact h2
end Fw
namespace Cd
theorem sh_range (op : Int) (h0 : 0 ≤ op) (h1 : op ≤ 29) : 0 ≤ (sh op).2.2.1 ∧ 0 ≤ (sh op).2.2.2 ∧ (sh op).2.2.2 ≤ 1 := by
  have key : ∀ n : Nat, n < 30 → 0 ≤ (sh (n : Int)).2.2.1 ∧ 0 ≤ (sh (n : Int)).2.2.2 ∧ (sh (n : Int)).2.2.2 ≤ 1 := by decide
  have := key op.toNat (by omega)
  rwa [Int.toNat_of_nonneg h0] at this
theorem eff_range {c : Cde} {p : Prc} {i : Ins} (h : fit c p i) (hp : ∀ q ∈ c.ps, 0 ≤ q.pa) : 0 ≤ (eff c i).1 ∧ 0 ≤ (eff c i).2 ∧ (eff c i).2 ≤ 1 := by
  obtain ⟨ho, ha, _⟩ := h
  unfold eff
  split
  · split
    · rename_i q hq
      have := hp q (List.mem_of_getElem? hq)
      refine ⟨this, ?_⟩
      show 0 ≤ (if q.ty = 1 then (1 : Int) else 0) ∧ (if q.ty = 1 then (1 : Int) else 0) ≤ 1
      split <;> omega
    · exact ⟨Int.le_refl _, Int.le_refl _, by decide⟩
  · split
    · rename_i q
      have e : (sh i.op).2.1 = 6 := by rw [q]; rfl
      unfold fitA at ha
      rw [e] at ha
      simp at ha
      exact ⟨by show 0 ≤ i.arg; omega, Int.le_refl _, by show (0 : Int) ≤ 1; decide⟩
    · exact sh_range i.op (by omega) ho.2
theorem part_at {c : Cde} {p : Prc} (h0 : 0 ≤ p.fr) (h1 : p.fr < p.to) (h2 : p.to ≤ c.is.length) {j : Nat} {i : Ins} (j1 : p.fr ≤ j) (j2 : (j : Int) < p.to) (hi : c.is[j]? = some i) : i ∈ part c p := by
  unfold part
  refine List.mem_of_getElem? (i := j - p.fr.toNat) ?_
  rw [List.getElem?_drop, show p.fr.toNat + (j - p.fr.toNat) = j from by omega, List.getElem?_take, if_pos (by omega), hi]
set_option maxHeartbeats 8000000 in
theorem climbF (base b hb : Nat) (c : Cde) (ap al : Option Addr) (cp cl : Nat) (p : Prc) (L0 : List Int) (w : World) (hbs : base ≤ w.heap.size) (C : Clm base b hb (.slice ap c.ps.length cp) (.slice al c.is.length cl) p L0 [] w)
    (w0 : World) (k0 : Kp No w0 w) (hz : w0.heap.size ≤ b ∧ w0.heap.size ≤ hb ∧ w0.heap.size ≤ base) (hs : Shp w0) (hp : RP w0 ap c.ps) (hi : RI w0 al c.is)
    (hn : c.ps.length ≤ 1000000) (hm : c.is.length ≤ 400000) (hLl : L0.length = c.is.length)
    (hf : 0 ≤ p.fr) (hft : p.fr < p.to) (hto : p.to ≤ c.is.length) (hall : ∀ i ∈ part c p, fit c p i) (hpa : ∀ q ∈ c.ps, 0 ≤ q.pa) (hL0 : ∀ (j : Nat) y, p.fr ≤ j → (j : Int) < p.to → L0[j]? = some y → y = -1) :
    Ret Tryd.prog 11 [.pointer (some ⟨b, 0, none⟩)] w fun v w1 =>
      (∃ r L td, v = .bool r ∧ Clm base b hb (.slice ap c.ps.length cp) (.slice al c.is.length cl) p L td w1 ∧ ((r = true ∧ Lab c p L ∧ Inv c p L0 none L []) ∨ (r = false ∧ Bad c p))) ∧ Kp (fun k => k = b ∨ k = hb ∨ base ≤ k) w w1 := by
  have C0 := C
  obtain ⟨hne, hts, a, ca, hblk, own, ho1, ho2⟩ := C
  have kn : ∀ m, Kp (fun k => k = b ∨ k = hb ∨ base ≤ k) w m → Kp No w0 m := fun m k => k0.trans k (fun i hi h => by omega)
  refine ret_enter Tryd.func11 rfl Tryd.ntmps11 rfl ?_
  (repeat (first | refine k_nil ?_ | refine k_n ?_ | refine k_r ?_ | refine k_x ?_ | refine b_n ?_ | refine b_r ?_ | refine b_y rfl ?_ | refine b_z rfl ?_ | refine l_r ?_ | refine l_x ?_ | refine k_seq ?_ | refine k_blk ?_ | refine k_reg ?_ | refine k_ret ?_ | refine k_exit ?_ | refine k_skip ?_ | refine Zs ?_))
  refine s_call (us := []) (zs := []) (by kernel_rfl) rfl rfl (reachF base b hb ap al c.ps.length cp c.is.length cl p L0 [] p.fr 0 w hbs C0 hf (by omega) (by omega) (by simp)) ?_
  rintro _ w1 ⟨⟨r, L, td, rfl, C1, R⟩, k1⟩
  (repeat (first | refine k_nil ?_ | refine k_n ?_ | refine k_r ?_ | refine k_x ?_ | refine b_n ?_ | refine b_r ?_ | refine b_y rfl ?_ | refine b_z rfl ?_ | refine l_r ?_ | refine l_x ?_ | refine k_seq ?_ | refine k_blk ?_ | refine k_reg ?_ | refine k_ret ?_ | refine k_exit ?_ | refine k_skip ?_ | refine Zs ?_))
  have I1 := (Inv.start (c := c) hL0).rea hf (Rch.start) (Int.le_refl _) (Int.le_refl _) R
  have hms := Rea.ms R (Int.le_refl _)
  have hng : ng L0 ≤ L0.length := List.countP_le_length
  refine k_loop (σ := Bool × List Int × List Int) (fun s => [(0, .pointer (some ⟨b, 0, none⟩)), (3, .bool s.1)])
    (fun s m => Kp (fun k => k = b ∨ k = hb ∨ base ≤ k) w m ∧ Clm base b hb (.slice ap c.ps.length cp) (.slice al c.is.length cl) p s.2.1 s.2.2 m ∧
      ((s.1 = true ∧ Inv c p L0 none s.2.1 s.2.2 ∧ s.2.1[p.fr.toNat]? = some 0 ∧ s.2.2.length + 2 * ng s.2.1 ≤ 2 * c.is.length) ∨ (s.1 = false ∧ Bad c p))) (fun s => if s.1 then s.2.2.length + 2 * ng s.2.1 + 1 else 0) (r, L, td) ⟨rfl, rfl, trivial⟩ ⟨k1, C1, ?_⟩ ?_
  · rcases I1 with ⟨rfl, I', hL', _, _, _⟩ | ⟨rfl, hbad⟩
    · exact .inl ⟨rfl, I', hL', by show td.length + 2 * ng L ≤ _; simp only [List.length_nil] at hms; omega⟩
    · exact .inr ⟨rfl, hbad⟩
  clear I1 hms R C1 k1
  rintro ⟨r, L, td⟩ l m ⟨km, Cm, hor⟩
  simp only at Cm hor
  try dsimp only
  (repeat (first | refine k_nil ?_ | refine k_n ?_ | refine k_r ?_ | refine k_x ?_ | refine b_n ?_ | refine b_r ?_ | refine b_y rfl ?_ | refine b_z rfl ?_ | refine l_r ?_ | refine l_x ?_ | refine k_seq ?_ | refine k_blk ?_ | refine k_reg ?_ | refine k_ret ?_ | refine k_exit ?_ | refine k_skip ?_ | refine Zs ?_))
  cases r with
  | false =>
    (repeat (first | refine k_nil ?_ | refine k_n ?_ | refine k_r ?_ | refine k_x ?_ | refine b_n ?_ | refine b_r ?_ | refine b_y rfl ?_ | refine b_z rfl ?_ | refine l_r ?_ | refine l_x ?_ | refine k_seq ?_ | refine k_blk ?_ | refine k_reg ?_ | refine k_ret ?_ | refine k_exit ?_ | refine k_skip ?_ | refine Zs ?_ | refine Zn ?_ | refine Zu ?_ | refine Zg ?_))
    refine c_f rfl ?_
    (repeat (first | refine k_nil ?_ | refine k_n ?_ | refine k_r ?_ | refine k_x ?_ | refine b_n ?_ | refine b_r ?_ | refine b_y rfl ?_ | refine b_z rfl ?_ | refine l_r ?_ | refine l_x ?_ | refine k_seq ?_ | refine k_blk ?_ | refine k_reg ?_ | refine k_ret ?_ | refine k_exit ?_ | refine k_skip ?_ | refine Zs ?_))
    refine ret_1 rfl rfl ⟨⟨false, L, td, rfl, Cm, .inr ⟨rfl, ?_⟩⟩, km⟩
    rcases hor with ⟨h, _⟩ | ⟨_, h⟩
    · cases h
    · exact h
  | true =>
    obtain ⟨I, hfr0, hml⟩ : Inv c p L0 none L td ∧ L[p.fr.toNat]? = some 0 ∧ td.length + 2 * ng L ≤ 2 * c.is.length := by
      rcases hor with ⟨_, h⟩ | ⟨h, _⟩
      · exact h
      · cases h
    have Cm0 := Cm
    obtain ⟨_, htsm, am, cam, hblkm, ownm, hom1, hom2⟩ := Cm
    (repeat (first | refine k_nil ?_ | refine k_n ?_ | refine k_r ?_ | refine k_x ?_ | refine b_n ?_ | refine b_r ?_ | refine b_y rfl ?_ | refine b_z rfl ?_ | refine l_r ?_ | refine l_x ?_ | refine k_seq ?_ | refine k_blk ?_ | refine k_reg ?_ | refine k_ret ?_ | refine k_exit ?_ | refine k_skip ?_ | refine Zs ?_ | refine Zn ?_ | refine Zu ?_ | refine Zg ?_))
    refine c_dec rfl (fun hgt => ?_) (fun hle => ?_)
    · obtain ⟨td', t, rfl⟩ : ∃ td' t, td = td' ++ [t] := ⟨td.dropLast, td.getLast (fun e => by subst e; simp at hgt), (List.dropLast_concat_getLast _).symm⟩
      rw [List.length_append, List.length_singleton] at hblkm ownm hom1 hom2 hml
      obtain ⟨Ip, ht1, ht2, y, hy, hy0⟩ := I.pop
      obtain ⟨a', c', he, hcc, _, hrd⟩ := own_read ownm
      simp only [Value.slice.injEq, true_and] at he
      obtain ⟨rfl, rfl⟩ := he
      have ha0 : am ≠ none := fun e => by
        obtain ⟨_, hh⟩ := ownm
        rcases hh with ⟨hh, h0⟩ | ⟨g, cap, cur, hv, _⟩
        · omega
        · subst e; cases hv
      obtain ⟨ad, rfl⟩ : ∃ ad, am = some ad := Option.ne_none_iff_exists'.1 ha0
      obtain ⟨g, rfl, hg, hgl, hcells⟩ := hrd ad rfl
      have hti : 0 + (((td'.length + 1 : Nat) : Int) - 1).toNat * 1 = td'.length := by omega
      have hct : m.cell? ⟨g, 0 + (((td'.length + 1 : Nat) : Int) - 1).toNat * 1, none⟩ = some (.int .i64 t) := by
        rw [hti]
        have := hcells td'.length (.int .i64 t) (by rw [List.map_append, List.getElem?_append_right (by simp)]; simp)
        rwa [Nat.zero_add] at this
      have hpop := own_pop (n := td'.length) (cs := td'.map (Value.int .i64)) (x := .int .i64 t) (by rw [List.map_append] at ownm; exact ownm) (by simp)
      (repeat (first | refine k_nil ?_ | refine k_n ?_ | refine k_r ?_ | refine k_x ?_ | refine b_n ?_ | refine b_r ?_ | refine b_y rfl ?_ | refine b_z rfl ?_ | refine l_r ?_ | refine l_x ?_ | refine k_seq ?_ | refine k_blk ?_ | refine k_reg ?_ | refine k_ret ?_ | refine k_exit ?_ | refine k_skip ?_ | refine Zs ?_))
      refine k_q (by kernel_rfl) (by kernel_rfl) ?_
      (repeat (first | refine Zq ?_ | refine Zqn ?_ | refine Zqu ?_ | refine Zqg ?_))
      refine q_nil (fun m1 k1 => ?_)
      have e1 := k1.get0 hblkm
      (repeat (first | refine k_nil ?_ | refine k_n ?_ | refine k_r ?_ | refine k_x ?_ | refine b_n ?_ | refine b_r ?_ | refine b_y rfl ?_ | refine b_z rfl ?_ | refine l_r ?_ | refine l_x ?_ | refine k_seq ?_ | refine k_blk ?_ | refine k_reg ?_ | refine k_ret ?_ | refine k_exit ?_ | refine k_skip ?_ | refine Zs ?_))
      refine k_h (fun w' => Kp No m1 w') [(0, false), (1, false), (2, false), (3, false), (4, false), (5, false), (6, false), (7, false), (8, false), (9, false), (10, false), (11, false), (12, false), (13, false), (14, true)] 14 (by kernel_rfl) (by exact waits_of_last (by kernel_rfl)) (by kernel_rfl) (by kernel_rfl) rfl rfl (fun m2 k2 _ => ?_)
      refine h_v k2 (fun w' hw => r_mv rfl) ?_
      refine h_v k2 (fun w' hw => r_mv rfl) ?_
      refine h_v k2 (fun w' hw => r_nc rfl) ?_
      refine h_v k2 (fun w' hw => r_fa rfl rfl) ?_
      refine h_v k2 (fun w' hw => r_ld rfl rfl (cell_of_blk (hw.get0 e1) rfl)) ?_
      refine h_v k2 (fun w' hw => r_mv rfl) ?_
      refine h_v k2 (fun w' hw => r_nc rfl) ?_
      refine h_v k2 (fun w' hw => r_fa rfl rfl) ?_
      refine h_v k2 (fun w' hw => r_ld rfl rfl (cell_of_blk (hw.get0 e1) rfl)) ?_
      refine h_v k2 (fun w' hw => r_len rfl) ?_
      refine h_v k2 (fun w' hw => r_sub rfl rfl (by omega)) ?_
      refine h_v k2 (fun w' hw => r_slx (a' := some ⟨g, 0, none⟩) (n' := td'.length) (c' := cam) rfl rfl rfl rfl rfl (by omega) (by omega) (by omega) (by omega) subA_0 (by omega) (by omega)) ?_
      refine h_v k2 (fun w' hw => r_nc rfl) ?_
      refine h_v k2 (fun w' hw => r_fa rfl rfl) ?_
      refine h_st rfl rfl rfl rfl rfl (k2.get0 e1) (Nat.le_of_ble_eq_true rfl) (fun m3 s3 => ⟨fun h => absurd rfl h, ?_⟩)
      refine h_nil ?_
      have k12 := k1.no k2
      have z12 := k12.size
      have C3 : Clm base b hb (.slice ap c.ps.length cp) (.slice al c.is.length cl) p L td' m3 := ⟨hne, s3.kp.get (k12.get0 htsm) (show ¬ hb = b from fun e => hne e.symm), some ⟨g, 0, none⟩, cam, s3.blk,
        own_kp (own_kp hpop k12 (fun _ _ h => h)) s3.kp (fun q hq e => hom1 (by rw [← e]; exact hq)), hom1, hom2⟩
      have km3 : Kp (fun k => k = b ∨ k = hb ∨ base ≤ k) w m3 := (km.no k12).trans s3.kp (fun _ _ e => .inl e)
      obtain ⟨i, hx⟩ : ∃ i, c.is[t.toNat]? = some i := ⟨_, List.getElem?_eq_getElem (by omega)⟩
      have hfit := hall i (part_at hf hft hto (by omega) (by omega) hx)
      have hLl2 : L.length = c.is.length := Ip.len.trans hLl
      have htt : ((t.toNat : Nat) : Int) = t := by omega
      have hnx := nextF base b hb c ap al cp cl p L0 L td' t.toNat y i m3 (by have := km3.size; omega) C3 (hs.kp (kn m3 km3)) (hp.kp0 (kn m3 km3)) (hi.kp0 (kn m3 km3)) hn (by omega) hLl2 (by omega) Ip hf hto (by omega) (by omega) hy hy0 hx hfit (eff_range hfit hpa)
      rw [htt] at hnx
      (repeat (first | refine k_nil ?_ | refine k_n ?_ | refine k_r ?_ | refine k_x ?_ | refine b_n ?_ | refine b_r ?_ | refine b_y rfl ?_ | refine b_z rfl ?_ | refine l_r ?_ | refine l_x ?_ | refine k_seq ?_ | refine k_blk ?_ | refine k_reg ?_ | refine k_ret ?_ | refine k_exit ?_ | refine k_skip ?_ | refine Zs ?_))
      refine s_call (us := []) (zs := []) (by kernel_rfl) rfl rfl hnx ?_
      rintro _ m4 ⟨⟨r2, L2, td2, rfl, C4, R2⟩, k4⟩
      (repeat (first | refine k_nil ?_ | refine k_n ?_ | refine k_r ?_ | refine k_x ?_ | refine b_n ?_ | refine b_r ?_ | refine b_y rfl ?_ | refine b_z rfl ?_ | refine l_r ?_ | refine l_x ?_ | refine k_seq ?_ | refine k_blk ?_ | refine k_reg ?_ | refine k_ret ?_ | refine k_exit ?_ | refine k_skip ?_ | refine Zs ?_))
      refine l_next (r2, L2, td2) ⟨rfl, rfl, trivial⟩ ⟨km3.trans k4 (fun _ _ h => h), C4, ?_⟩ ?_
      · rcases R2 with ⟨rfl, I2, hext, hms2⟩ | ⟨rfl, hbad⟩
        · exact .inl ⟨rfl, I2, hext _ _ hfr0 (Int.le_refl _), by show td2.length + 2 * ng L2 ≤ _; omega⟩
        · exact .inr ⟨rfl, hbad⟩
      · rcases R2 with ⟨rfl, I2, hext, hms2⟩ | ⟨rfl, hbad⟩
        · show (if true = true then td2.length + 2 * ng L2 + 1 else 0) < (if true = true then (td' ++ [t]).length + 2 * ng L + 1 else 0)
          rw [if_pos rfl, if_pos rfl, List.length_append, List.length_singleton]
          omega
        · show (if false = true then td2.length + 2 * ng L2 + 1 else 0) < (if true = true then (td' ++ [t]).length + 2 * ng L + 1 else 0)
          rw [if_neg (by decide), if_pos rfl]
          omega
    · have htd : td = [] := List.eq_nil_of_length_eq_zero (by omega)
      subst htd
      (repeat (first | refine k_nil ?_ | refine k_n ?_ | refine k_r ?_ | refine k_x ?_ | refine b_n ?_ | refine b_r ?_ | refine b_y rfl ?_ | refine b_z rfl ?_ | refine l_r ?_ | refine l_x ?_ | refine k_seq ?_ | refine k_blk ?_ | refine k_reg ?_ | refine k_ret ?_ | refine k_exit ?_ | refine k_skip ?_ | refine Zs ?_))
      exact ret_1 rfl rfl ⟨⟨true, L, [], rfl, Cm0, .inl ⟨rfl, I.lab hf hfr0, I⟩⟩, km⟩
end Cd
end Go.Proofs.YtpamkidcmjfieaaDoor
