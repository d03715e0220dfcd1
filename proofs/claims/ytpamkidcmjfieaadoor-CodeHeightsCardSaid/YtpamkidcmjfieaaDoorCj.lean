/- Code: next. -/
import Derived.Test.YtpamkidcmjfieaaDoorCh
import Derived.Test.YtpamkidcmjfieaaDoorCi
namespace Go.Proofs.YtpamkidcmjfieaaDoor
open Go Go.RowKit Fw Nu
set_option linter.unusedVariables false
set_option maxRecDepth 20000
namespace Fw
theorem waits_of_out {ops : Array Oper} {z : Nat} (h : Nat.ble ops.size z = true) : Waits ops z := by
  intro listed hd hr
  exfalso
  have h' := Nat.le_of_ble_eq_true h
  unfold Region.ready at hr
  simp at hr
  omega
end Fw
namespace Cd
set_option maxHeartbeats 8000000 in
theorem nextF (base b hb : Nat) (c : Cde) (ap al : Option Addr) (cp cl : Nat) (p : Prc) (L0 L td : List Int) (j : Nat) (h : Int) (i : Ins) (w : World) (hbs : base ≤ w.heap.size) (C : Clm base b hb (.slice ap c.ps.length cp) (.slice al c.is.length cl) p L td w)
    (hs : Shp w) (hp : RP w ap c.ps) (hi : RI w al c.is) (hn : c.ps.length ≤ 1000000) (hm : c.is.length ≤ 1000000) (hLl : L.length = c.is.length) (htd : td.length ≤ 999990)
    (I : Inv c p L0 (some j) L td) (hf : 0 ≤ p.fr) (hto : p.to ≤ c.is.length) (hj1 : p.fr ≤ j) (hj2 : (j : Int) < p.to) (hy : L[j]? = some h) (hh : 0 ≤ h) (hx : c.is[j]? = some i) (hfit : fit c p i) (heff : 0 ≤ (eff c i).1 ∧ 0 ≤ (eff c i).2 ∧ (eff c i).2 ≤ 1) :
    Ret Tryd.prog 22 [.pointer (some ⟨b, 0, none⟩), .int .i64 j] w fun v w1 =>
      (∃ r L' td', v = .bool r ∧ Clm base b hb (.slice ap c.ps.length cp) (.slice al c.is.length cl) p L' td' w1 ∧ ((r = true ∧ Inv c p L0 none L' td' ∧ (∀ (q : Nat) y, L[q]? = some y → 0 ≤ y → L'[q]? = some y) ∧ td'.length + 2 * ng L' ≤ td.length + 2 * ng L) ∨ (r = false ∧ Bad c p))) ∧ Kp (fun k => k = b ∨ k = hb ∨ base ≤ k) w w1 := by
  obtain ⟨hop, hfa, hfm⟩ := hfit
  obtain ⟨hr200, hrch⟩ : h ≤ 200 ∧ Rch c p j h := by
    rcases I.rch j h hj1 hj2 hy with q | q
    · omega
    · exact q.2
  have C0 := C
  obtain ⟨hne, hts, a, ca, hblk, own, ho1, ho2⟩ := C
  obtain ⟨bi, oi, rfl, _, hci⟩ := hi.at hx
  have hcy : w.cell? ⟨hb, 0 + (j : Int).toNat * 1, none⟩ = some (.int .i64 h) := cell_of_blk hts (by rw [Int.toNat_natCast, Nat.zero_add, Nat.mul_one, List.getElem?_map, hy]; rfl)
  refine ret_enter Tryd.func22 rfl Tryd.ntmps22 rfl ?_
  (repeat (first | refine k_nil ?_ | refine k_n ?_ | refine k_r ?_ | refine k_x ?_ | refine b_n ?_ | refine b_r ?_ | refine b_y rfl ?_ | refine b_z rfl ?_ | refine l_r ?_ | refine l_x ?_ | refine k_seq ?_ | refine k_blk ?_ | refine k_reg ?_ | refine k_ret ?_ | refine k_exit ?_ | refine k_skip ?_ | refine Zs ?_))
  refine k_h (fun w' => Kp No w w') [(0, false), (1, false), (2, false), (3, false), (4, false), (5, false), (6, false), (7, false), (8, false), (9, false), (10, false), (11, false), (12, false), (13, false), (14, false), (15, true), (16, true), (17, false)] 99 (by kernel_rfl) (by exact waits_of_out (by kernel_rfl)) (by kernel_rfl) (by kernel_rfl) rfl rfl (fun m1 k1 _ => ?_)
  refine h_v k1 (fun w' hw => r_mv rfl) ?_
  refine h_v k1 (fun w' hw => r_nc rfl) ?_
  refine h_v k1 (fun w' hw => r_fa rfl rfl) ?_
  refine h_v k1 (fun w' hw => r_fa rfl rfl) ?_
  refine h_v k1 (fun w' hw => r_ld rfl rfl (cell_of_blk (hw.get0 hblk) rfl)) ?_
  refine h_v k1 (fun w' hw => r_mv rfl) ?_
  refine h_v k1 (fun w' hw => r_ia (i := j) rfl rfl rfl rfl (by omega) (by omega)) ?_
  refine h_v k1 (fun w' hw => r_lda (vs := ic i) rfl rfl rfl rfl (fun k hk => cell_some (n := 3) rfl hk (hci k hk) hw id)) ?_
  refine h_v k1 (fun w' hw => r_mv rfl) ?_
  refine h_v k1 (fun w' hw => r_nc rfl) ?_
  refine h_v k1 (fun w' hw => r_fa rfl rfl) ?_
  refine h_v k1 (fun w' hw => r_ld rfl rfl (cell_of_blk (hw.get0 hblk) rfl)) ?_
  refine h_v k1 (fun w' hw => r_mv rfl) ?_
  refine h_v k1 (fun w' hw => r_ia (i := j) rfl rfl rfl rfl (by omega) (by omega)) ?_
  refine h_v k1 (fun w' hw => r_ld rfl rfl (hw.cell0 hcy)) ?_
  refine h_nb (r := fun a => .pointer (some a)) (r_al rfl) (fun b5 m2 n5 => ⟨fun _ => k1.no n5.kp, ?_⟩)
  have g5 := n5.ge
  have z1 := k1.size
  have k12 := k1.no n5.kp
  refine h_st (vs := ic i) rfl rfl rfl rfl rfl n5.blk (Nat.le_of_ble_eq_true rfl) (fun m3 s3 => ⟨fun _ => k12.trans s3.kp (fun q hq e => by have e : q = b5 := e; omega), ?_⟩)
  have k13 : Kp No w m3 := k12.trans s3.kp (fun q hq e => by have e : q = b5 := e; omega)
  have e5 : m3.heap[b5]? = some (.cells [Value.int .i64 i.op, .int .i64 i.arg, .int .i64 i.more].toArray 34 (0, 0)) := s3.blk
  refine h_v k13 (fun w' hw => r_as rfl) ?_
  refine h_nil ?_
  have hblk3 := k13.get0 hblk
  (repeat (first | refine k_nil ?_ | refine k_n ?_ | refine k_r ?_ | refine k_x ?_ | refine b_n ?_ | refine b_r ?_ | refine b_y rfl ?_ | refine b_z rfl ?_ | refine l_r ?_ | refine l_x ?_ | refine k_seq ?_ | refine k_blk ?_ | refine k_reg ?_ | refine k_ret ?_ | refine k_exit ?_ | refine k_skip ?_ | refine Zs ?_))
  refine k_q (by kernel_rfl) (by kernel_rfl) ?_
  (repeat (first | refine Zq ?_ | refine Zqn ?_ | refine Zqu ?_ | refine Zqg ?_))
  refine q_v (fun w' hw => r_lda (vs := [.slice ap c.ps.length cp, .slice (some ⟨bi, oi, none⟩) c.is.length cl]) rfl rfl rfl rfl (fun k hk => by
    match k, hk with
    | 0, _ => exact cell_of_blk (hw.get0 hblk3) rfl
    | 1, _ => exact cell_of_blk (hw.get0 hblk3) rfl)) ?_
  refine q_v (fun w' hw => r_ldb (vs := ic i) rfl rfl rfl (hw.get0 e5) rfl rfl) ?_
  have h26 : i.op = 26 → 0 ≤ i.arg ∧ i.arg < c.ps.length := fun q => by
    have e : (sh i.op).2.1 = 5 := by rw [q]; rfl
    unfold fitA at hfa
    rw [e] at hfa
    simp at hfa
    omega
  have hjmp : (i.op = 22 ∨ i.op = 23 ∨ i.op = 24 ∨ i.op = 25) → p.fr ≤ i.arg ∧ i.arg ≤ p.to - 1 := fun q => by
    have e : (sh i.op).2.1 = 4 := by rcases q with q | q | q | q <;> (rw [q]; rfl)
    unfold fitA at hfa
    rw [e] at hfa
    simpa using hfa
  refine q_call (us := []) (zs := []) (v := .tuple #[.int .i64 (eff c i).1, .int .i64 (eff c i).2]) (by kernel_rfl) rfl rfl (fun w' hw => (effF c ap (some ⟨bi, oi, none⟩) cp c.is.length cl i w' (hs.kp (k13.no hw)) (hp.kp0 (k13.no hw)) hop h26 hn).mono (by rintro _ _ ⟨rfl, h⟩; exact ⟨rfl, hw.no h⟩)) ?_
  (repeat (first | refine Zq ?_ | refine Zqn ?_ | refine Zqu ?_ | refine Zqg ?_))
  refine q_nil (fun m4 k4 => ?_)
  have k14 := k13.no k4
  have e54 := k4.get0 e5
  have z14 := k14.size
  have C4 : Clm base b hb (.slice ap c.ps.length cp) (.slice (some ⟨bi, oi, none⟩) c.is.length cl) p L td m4 := ⟨hne, k14.get0 hts, a, ca, k14.get0 hblk, own_kp own k14 (fun _ _ h => h), ho1, ho2⟩
  have kk : Kp (fun k => k = b ∨ k = hb ∨ base ≤ k) w m4 := k14.mono (fun _ _ h => False.elim h)
  obtain ⟨t1, ht1⟩ : ∃ t1, (eff c i).1 = t1 := ⟨_, rfl⟩
  obtain ⟨t2, ht2⟩ : ∃ t2, (eff c i).2 = t2 := ⟨_, rfl⟩
  rw [ht1, ht2] at heff ⊢
  (repeat (first | refine k_nil ?_ | refine k_n ?_ | refine k_r ?_ | refine k_x ?_ | refine b_n ?_ | refine b_r ?_ | refine b_y rfl ?_ | refine b_z rfl ?_ | refine l_r ?_ | refine l_x ?_ | refine k_seq ?_ | refine k_blk ?_ | refine k_reg ?_ | refine k_ret ?_ | refine k_exit ?_ | refine k_skip ?_ | refine Zs ?_))
  refine c_dec rfl (fun hlow => ?_) (fun hlow => ?_)
  · (repeat (first | refine k_nil ?_ | refine k_n ?_ | refine k_r ?_ | refine k_x ?_ | refine b_n ?_ | refine b_r ?_ | refine b_y rfl ?_ | refine b_z rfl ?_ | refine l_r ?_ | refine l_x ?_ | refine k_seq ?_ | refine k_blk ?_ | refine k_reg ?_ | refine k_ret ?_ | refine k_exit ?_ | refine k_skip ?_ | refine Zs ?_))
    exact ret_1 rfl rfl ⟨⟨false, L, td, rfl, C4, .inr ⟨rfl, j, h, hrch, .inr (.inr (.inr ⟨i, by rw [Int.toNat_natCast]; exact hx, by rw [ht1]; omega⟩))⟩⟩, kk⟩
  have hstep : ∀ d x, (d, x) ∈ aft c i j h → Rch c p d x := fun d x hm => .step hrch (by rw [Int.toNat_natCast]; exact hx) (by rw [ht1]; omega) hm
  have hfin : ∀ (L' td' : List Int), Inv c p L0 (some j) L' td' → L'[j]? = some h → (∀ d x, (d, x) ∈ aft c i j h → p.fr ≤ d ∧ d < p.to ∧ 0 ≤ x ∧ x ≤ 200 ∧ L'[d.toNat]? = some x) → Inv c p L0 none L' td' := fun L' td' I' hy' hc =>
    I'.done hy' (fun i' hi' => by
      rw [hx] at hi'
      cases hi'
      exact ⟨by rw [ht1]; omega, hc⟩)
  (repeat (first | refine k_nil ?_ | refine k_n ?_ | refine k_r ?_ | refine k_x ?_ | refine b_n ?_ | refine b_r ?_ | refine b_y rfl ?_ | refine b_z rfl ?_ | refine l_r ?_ | refine l_x ?_ | refine k_seq ?_ | refine k_blk ?_ | refine k_reg ?_ | refine k_ret ?_ | refine k_exit ?_ | refine k_skip ?_ | refine Zs ?_))
  refine c_eq rfl (fun q27 => ?_) (fun q27 => ?_)
  · (repeat (first | refine k_nil ?_ | refine k_n ?_ | refine k_r ?_ | refine k_x ?_ | refine b_n ?_ | refine b_r ?_ | refine b_y rfl ?_ | refine b_z rfl ?_ | refine l_r ?_ | refine l_x ?_ | refine k_seq ?_ | refine k_blk ?_ | refine k_reg ?_ | refine k_ret ?_ | refine k_exit ?_ | refine k_skip ?_ | refine Zs ?_))
    exact ret_1 rfl rfl ⟨⟨true, L, td, rfl, C4, .inl ⟨rfl, hfin L td I hy (fun d x hm => by unfold aft at hm; rw [if_pos q27] at hm; cases hm), fun q y hq _ => hq, Nat.le_refl _⟩⟩, kk⟩
  (repeat (first | refine k_nil ?_ | refine k_n ?_ | refine k_r ?_ | refine k_x ?_ | refine b_n ?_ | refine b_r ?_ | refine b_y rfl ?_ | refine b_z rfl ?_ | refine l_r ?_ | refine l_x ?_ | refine k_seq ?_ | refine k_blk ?_ | refine k_reg ?_ | refine k_ret ?_ | refine k_exit ?_ | refine k_skip ?_ | refine Zs ?_))
  refine c_eq rfl (fun q22 => ?_) (fun q22 => ?_)
  · have haft : aft c i j h = [(i.arg, h - t1 + t2)] := by unfold aft; rw [if_neg q27, if_pos q22, ht1, ht2]
    have hja := hjmp (.inl q22)
    (repeat (first | refine k_nil ?_ | refine k_n ?_ | refine k_r ?_ | refine k_x ?_ | refine b_n ?_ | refine b_r ?_ | refine b_y rfl ?_ | refine b_z rfl ?_ | refine l_r ?_ | refine l_x ?_ | refine k_seq ?_ | refine k_blk ?_ | refine k_reg ?_ | refine k_ret ?_ | refine k_exit ?_ | refine k_skip ?_ | refine Zs ?_))
    refine s_call (us := []) (zs := []) (by kernel_rfl) rfl rfl (reachF base b hb ap (some ⟨bi, oi, none⟩) c.ps.length cp c.is.length cl p L td i.arg (h - t1 + t2) m4 (by omega) C4 (by omega) (by omega) (by omega) (by omega)) ?_
    rintro _ m5 ⟨⟨r, L', td', rfl, C5, R⟩, k5⟩
    (repeat (first | refine k_nil ?_ | refine k_n ?_ | refine k_r ?_ | refine k_x ?_ | refine b_n ?_ | refine b_r ?_ | refine b_y rfl ?_ | refine b_z rfl ?_ | refine l_r ?_ | refine l_x ?_ | refine k_seq ?_ | refine k_blk ?_ | refine k_reg ?_ | refine k_ret ?_ | refine k_exit ?_ | refine k_skip ?_ | refine Zs ?_))
    refine ret_1 rfl rfl ⟨⟨r, L', td', rfl, C5, ?_⟩, kk.trans k5 (fun _ _ h => h)⟩
    rcases I.rea hf (hstep i.arg (h - t1 + t2) (by rw [haft]; simp)) hja.1 (by omega) R with ⟨rfl, I', hL', hlt, hle, hext⟩ | ⟨rfl, hbad⟩
    · exact .inl ⟨rfl, hfin L' td' I' (hext j h hy hh) (fun d x hm => by
        rw [haft, List.mem_singleton] at hm
        cases hm
        exact ⟨hja.1, hlt, by omega, hle, hL'⟩), hext, Rea.ms R (by omega)⟩
    · exact .inr ⟨rfl, hbad⟩
  (repeat (first | refine k_nil ?_ | refine k_n ?_ | refine k_r ?_ | refine k_x ?_ | refine b_n ?_ | refine b_r ?_ | refine b_y rfl ?_ | refine b_z rfl ?_ | refine l_r ?_ | refine l_x ?_ | refine k_seq ?_ | refine k_blk ?_ | refine k_reg ?_ | refine k_ret ?_ | refine k_exit ?_ | refine k_skip ?_ | refine Zs ?_))
  refine c_eq rfl (fun q23 => ?_) (fun q23 => ?_)
  · have haft : aft c i j h = [(i.arg, h - t1 + t2), ((j : Int) + 1, h - t1 + t2)] := by unfold aft; rw [if_neg q27, if_neg q22, if_pos q23, ht1, ht2]
    have hja := hjmp (.inr (.inl q23))
    (repeat (first | refine k_nil ?_ | refine k_n ?_ | refine k_r ?_ | refine k_x ?_ | refine b_n ?_ | refine b_r ?_ | refine b_y rfl ?_ | refine b_z rfl ?_ | refine l_r ?_ | refine l_x ?_ | refine k_seq ?_ | refine k_blk ?_ | refine k_reg ?_ | refine k_ret ?_ | refine k_exit ?_ | refine k_skip ?_ | refine Zs ?_))
    refine s_call (us := []) (zs := []) (by kernel_rfl) rfl rfl (reachF base b hb ap (some ⟨bi, oi, none⟩) c.ps.length cp c.is.length cl p L td i.arg (h - t1 + t2) m4 (by omega) C4 (by omega) (by omega) (by omega) (by omega)) ?_
    rintro _ m5 ⟨⟨r, L', td', rfl, C5, R⟩, k5⟩
    have z5 := k5.size
    have htd' : td'.length ≤ td.length + 1 := by
      rcases R with ⟨_, _, _, rfl⟩ | ⟨_, _, _, _, ⟨_, _, _, rfl⟩ | ⟨_, _, _, rfl⟩⟩
      · omega
      · simp
      · omega
    (repeat (first | refine k_nil ?_ | refine k_n ?_ | refine k_r ?_ | refine k_x ?_ | refine b_n ?_ | refine b_r ?_ | refine b_y rfl ?_ | refine b_z rfl ?_ | refine l_r ?_ | refine l_x ?_ | refine k_seq ?_ | refine k_blk ?_ | refine k_reg ?_ | refine k_ret ?_ | refine k_exit ?_ | refine k_skip ?_ | refine Zs ?_))
    rcases I.rea hf (hstep i.arg (h - t1 + t2) (by rw [haft]; simp)) hja.1 (by omega) R with ⟨rfl, I', hL', hlt, hle, hext⟩ | ⟨rfl, hbad⟩
    · have hLL : L'.length = L.length := I'.len.trans I.len.symm
      refine s_set 60 true rfl rfl ?_
      (repeat (first | refine k_nil ?_ | refine k_n ?_ | refine k_r ?_ | refine k_x ?_ | refine b_n ?_ | refine b_r ?_ | refine b_y rfl ?_ | refine b_z rfl ?_ | refine l_r ?_ | refine l_x ?_ | refine k_seq ?_ | refine k_blk ?_ | refine k_reg ?_ | refine k_ret ?_ | refine k_exit ?_ | refine k_skip ?_ | refine Zs ?_ | refine Zn ?_ | refine Zu ?_ | refine Zg ?_))
      refine s_gcall (us := []) (zs := []) rfl (by kernel_rfl) rfl rfl (reachF base b hb ap (some ⟨bi, oi, none⟩) c.ps.length cp c.is.length cl p L' td' ((j : Int) + 1) (h - t1 + t2) m5 (by omega) C5 (by omega) (by omega) (by omega) (by omega)) ?_
      rintro _ m6 ⟨⟨r2, L2, td2, rfl, C6, R2⟩, k6⟩
      (repeat (first | refine k_nil ?_ | refine k_n ?_ | refine k_r ?_ | refine k_x ?_ | refine b_n ?_ | refine b_r ?_ | refine b_y rfl ?_ | refine b_z rfl ?_ | refine l_r ?_ | refine l_x ?_ | refine k_seq ?_ | refine k_blk ?_ | refine k_reg ?_ | refine k_ret ?_ | refine k_exit ?_ | refine k_skip ?_ | refine Zs ?_ | refine Zn ?_ | refine Zu ?_ | refine Zg ?_))
      refine ret_1 rfl rfl ⟨⟨r2, L2, td2, rfl, C6, ?_⟩, (kk.trans k5 (fun _ _ h => h)).trans k6 (fun _ _ h => h)⟩
      rcases I'.rea hf (hstep ((j : Int) + 1) (h - t1 + t2) (by rw [haft]; simp)) (by omega) (by omega) R2 with ⟨rfl, I2, hL2, hlt2, hle2, hext2⟩ | ⟨rfl, hbad⟩
      · exact .inl ⟨rfl, hfin L2 td2 I2 (hext2 j h (hext j h hy hh) hh) (fun d x hm => by
          rw [haft] at hm
          simp only [List.mem_cons, Prod.mk.injEq, List.not_mem_nil, or_false] at hm
          rcases hm with ⟨rfl, rfl⟩ | ⟨rfl, rfl⟩
          · exact ⟨hja.1, hlt, by omega, hle, hext2 _ _ hL' (by omega)⟩
          · exact ⟨by omega, hlt2, by omega, hle2, hL2⟩), (fun q y hq hy0 => hext2 q y (hext q y hq hy0) hy0), Nat.le_trans (Rea.ms R2 (by omega)) (Rea.ms R (by omega))⟩
      · exact .inr ⟨rfl, hbad⟩
    · refine s_set 60 false rfl rfl ?_
      (repeat (first | refine k_nil ?_ | refine k_n ?_ | refine k_r ?_ | refine k_x ?_ | refine b_n ?_ | refine b_r ?_ | refine b_y rfl ?_ | refine b_z rfl ?_ | refine l_r ?_ | refine l_x ?_ | refine k_seq ?_ | refine k_blk ?_ | refine k_reg ?_ | refine k_ret ?_ | refine k_exit ?_ | refine k_skip ?_ | refine Zs ?_ | refine Zn ?_ | refine Zu ?_ | refine Zg ?_))
      exact ret_1 rfl rfl ⟨⟨false, L', td', rfl, C5, .inr ⟨rfl, hbad⟩⟩, kk.trans k5 (fun _ _ h => h)⟩
  (repeat (first | refine k_nil ?_ | refine k_n ?_ | refine k_r ?_ | refine k_x ?_ | refine b_n ?_ | refine b_r ?_ | refine b_y rfl ?_ | refine b_z rfl ?_ | refine l_r ?_ | refine l_x ?_ | refine k_seq ?_ | refine k_blk ?_ | refine k_reg ?_ | refine k_ret ?_ | refine k_exit ?_ | refine k_skip ?_ | refine Zs ?_))
  refine c_eq rfl (fun q24 => ?_) (fun q24 => ?_)
  · (repeat (first | refine k_nil ?_ | refine k_n ?_ | refine k_r ?_ | refine k_x ?_ | refine b_n ?_ | refine b_r ?_ | refine b_y rfl ?_ | refine b_z rfl ?_ | refine l_r ?_ | refine l_x ?_ | refine k_seq ?_ | refine k_blk ?_ | refine k_reg ?_ | refine k_ret ?_ | refine k_exit ?_ | refine k_skip ?_ | refine Zs ?_))
    refine c_eq rfl (fun _ => ?_) (fun q => (q q24).elim)
    have haft : aft c i j h = [(i.arg, h), ((j : Int) + 1, h - t1 + t2)] := by unfold aft; rw [if_neg q27, if_neg q22, if_neg q23, if_pos (.inl q24), ht1, ht2]
    have hja := hjmp (.inr (.inr (.inl q24)))
    (repeat (first | refine k_nil ?_ | refine k_n ?_ | refine k_r ?_ | refine k_x ?_ | refine b_n ?_ | refine b_r ?_ | refine b_y rfl ?_ | refine b_z rfl ?_ | refine l_r ?_ | refine l_x ?_ | refine k_seq ?_ | refine k_blk ?_ | refine k_reg ?_ | refine k_ret ?_ | refine k_exit ?_ | refine k_skip ?_ | refine Zs ?_))
    refine s_call (us := []) (zs := []) (by kernel_rfl) rfl rfl (reachF base b hb ap (some ⟨bi, oi, none⟩) c.ps.length cp c.is.length cl p L td i.arg (h) m4 (by omega) C4 (by omega) (by omega) (by omega) (by omega)) ?_
    rintro _ m5 ⟨⟨r, L', td', rfl, C5, R⟩, k5⟩
    have z5 := k5.size
    have htd' : td'.length ≤ td.length + 1 := by
      rcases R with ⟨_, _, _, rfl⟩ | ⟨_, _, _, _, ⟨_, _, _, rfl⟩ | ⟨_, _, _, rfl⟩⟩
      · omega
      · simp
      · omega
    (repeat (first | refine k_nil ?_ | refine k_n ?_ | refine k_r ?_ | refine k_x ?_ | refine b_n ?_ | refine b_r ?_ | refine b_y rfl ?_ | refine b_z rfl ?_ | refine l_r ?_ | refine l_x ?_ | refine k_seq ?_ | refine k_blk ?_ | refine k_reg ?_ | refine k_ret ?_ | refine k_exit ?_ | refine k_skip ?_ | refine Zs ?_))
    rcases I.rea hf (hstep i.arg (h) (by rw [haft]; simp)) hja.1 (by omega) R with ⟨rfl, I', hL', hlt, hle, hext⟩ | ⟨rfl, hbad⟩
    · have hLL : L'.length = L.length := I'.len.trans I.len.symm
      refine s_set 75 true rfl rfl ?_
      (repeat (first | refine k_nil ?_ | refine k_n ?_ | refine k_r ?_ | refine k_x ?_ | refine b_n ?_ | refine b_r ?_ | refine b_y rfl ?_ | refine b_z rfl ?_ | refine l_r ?_ | refine l_x ?_ | refine k_seq ?_ | refine k_blk ?_ | refine k_reg ?_ | refine k_ret ?_ | refine k_exit ?_ | refine k_skip ?_ | refine Zs ?_ | refine Zn ?_ | refine Zu ?_ | refine Zg ?_))
      refine s_gcall (us := []) (zs := []) rfl (by kernel_rfl) rfl rfl (reachF base b hb ap (some ⟨bi, oi, none⟩) c.ps.length cp c.is.length cl p L' td' ((j : Int) + 1) (h - t1 + t2) m5 (by omega) C5 (by omega) (by omega) (by omega) (by omega)) ?_
      rintro _ m6 ⟨⟨r2, L2, td2, rfl, C6, R2⟩, k6⟩
      (repeat (first | refine k_nil ?_ | refine k_n ?_ | refine k_r ?_ | refine k_x ?_ | refine b_n ?_ | refine b_r ?_ | refine b_y rfl ?_ | refine b_z rfl ?_ | refine l_r ?_ | refine l_x ?_ | refine k_seq ?_ | refine k_blk ?_ | refine k_reg ?_ | refine k_ret ?_ | refine k_exit ?_ | refine k_skip ?_ | refine Zs ?_ | refine Zn ?_ | refine Zu ?_ | refine Zg ?_))
      refine ret_1 rfl rfl ⟨⟨r2, L2, td2, rfl, C6, ?_⟩, (kk.trans k5 (fun _ _ h => h)).trans k6 (fun _ _ h => h)⟩
      rcases I'.rea hf (hstep ((j : Int) + 1) (h - t1 + t2) (by rw [haft]; simp)) (by omega) (by omega) R2 with ⟨rfl, I2, hL2, hlt2, hle2, hext2⟩ | ⟨rfl, hbad⟩
      · exact .inl ⟨rfl, hfin L2 td2 I2 (hext2 j h (hext j h hy hh) hh) (fun d x hm => by
          rw [haft] at hm
          simp only [List.mem_cons, Prod.mk.injEq, List.not_mem_nil, or_false] at hm
          rcases hm with ⟨rfl, rfl⟩ | ⟨rfl, rfl⟩
          · exact ⟨hja.1, hlt, by omega, hle, hext2 _ _ hL' (by omega)⟩
          · exact ⟨by omega, hlt2, by omega, hle2, hL2⟩), (fun q y hq hy0 => hext2 q y (hext q y hq hy0) hy0), Nat.le_trans (Rea.ms R2 (by omega)) (Rea.ms R (by omega))⟩
      · exact .inr ⟨rfl, hbad⟩
    · refine s_set 75 false rfl rfl ?_
      (repeat (first | refine k_nil ?_ | refine k_n ?_ | refine k_r ?_ | refine k_x ?_ | refine b_n ?_ | refine b_r ?_ | refine b_y rfl ?_ | refine b_z rfl ?_ | refine l_r ?_ | refine l_x ?_ | refine k_seq ?_ | refine k_blk ?_ | refine k_reg ?_ | refine k_ret ?_ | refine k_exit ?_ | refine k_skip ?_ | refine Zs ?_ | refine Zn ?_ | refine Zu ?_ | refine Zg ?_))
      exact ret_1 rfl rfl ⟨⟨false, L', td', rfl, C5, .inr ⟨rfl, hbad⟩⟩, kk.trans k5 (fun _ _ h => h)⟩
  (repeat (first | refine k_nil ?_ | refine k_n ?_ | refine k_r ?_ | refine k_x ?_ | refine b_n ?_ | refine b_r ?_ | refine b_y rfl ?_ | refine b_z rfl ?_ | refine l_r ?_ | refine l_x ?_ | refine k_seq ?_ | refine k_blk ?_ | refine k_reg ?_ | refine k_ret ?_ | refine k_exit ?_ | refine k_skip ?_ | refine Zs ?_))
  refine c_eq rfl (fun q25 => ?_) (fun q25 => ?_)
  · have haft : aft c i j h = [(i.arg, h), ((j : Int) + 1, h - t1 + t2)] := by unfold aft; rw [if_neg q27, if_neg q22, if_neg q23, if_pos (.inr q25), ht1, ht2]
    have hja := hjmp (.inr (.inr (.inr q25)))
    (repeat (first | refine k_nil ?_ | refine k_n ?_ | refine k_r ?_ | refine k_x ?_ | refine b_n ?_ | refine b_r ?_ | refine b_y rfl ?_ | refine b_z rfl ?_ | refine l_r ?_ | refine l_x ?_ | refine k_seq ?_ | refine k_blk ?_ | refine k_reg ?_ | refine k_ret ?_ | refine k_exit ?_ | refine k_skip ?_ | refine Zs ?_))
    refine s_call (us := []) (zs := []) (by kernel_rfl) rfl rfl (reachF base b hb ap (some ⟨bi, oi, none⟩) c.ps.length cp c.is.length cl p L td i.arg (h) m4 (by omega) C4 (by omega) (by omega) (by omega) (by omega)) ?_
    rintro _ m5 ⟨⟨r, L', td', rfl, C5, R⟩, k5⟩
    have z5 := k5.size
    have htd' : td'.length ≤ td.length + 1 := by
      rcases R with ⟨_, _, _, rfl⟩ | ⟨_, _, _, _, ⟨_, _, _, rfl⟩ | ⟨_, _, _, rfl⟩⟩
      · omega
      · simp
      · omega
    (repeat (first | refine k_nil ?_ | refine k_n ?_ | refine k_r ?_ | refine k_x ?_ | refine b_n ?_ | refine b_r ?_ | refine b_y rfl ?_ | refine b_z rfl ?_ | refine l_r ?_ | refine l_x ?_ | refine k_seq ?_ | refine k_blk ?_ | refine k_reg ?_ | refine k_ret ?_ | refine k_exit ?_ | refine k_skip ?_ | refine Zs ?_))
    rcases I.rea hf (hstep i.arg (h) (by rw [haft]; simp)) hja.1 (by omega) R with ⟨rfl, I', hL', hlt, hle, hext⟩ | ⟨rfl, hbad⟩
    · have hLL : L'.length = L.length := I'.len.trans I.len.symm
      refine s_set 75 true rfl rfl ?_
      (repeat (first | refine k_nil ?_ | refine k_n ?_ | refine k_r ?_ | refine k_x ?_ | refine b_n ?_ | refine b_r ?_ | refine b_y rfl ?_ | refine b_z rfl ?_ | refine l_r ?_ | refine l_x ?_ | refine k_seq ?_ | refine k_blk ?_ | refine k_reg ?_ | refine k_ret ?_ | refine k_exit ?_ | refine k_skip ?_ | refine Zs ?_ | refine Zn ?_ | refine Zu ?_ | refine Zg ?_))
      refine s_gcall (us := []) (zs := []) rfl (by kernel_rfl) rfl rfl (reachF base b hb ap (some ⟨bi, oi, none⟩) c.ps.length cp c.is.length cl p L' td' ((j : Int) + 1) (h - t1 + t2) m5 (by omega) C5 (by omega) (by omega) (by omega) (by omega)) ?_
      rintro _ m6 ⟨⟨r2, L2, td2, rfl, C6, R2⟩, k6⟩
      (repeat (first | refine k_nil ?_ | refine k_n ?_ | refine k_r ?_ | refine k_x ?_ | refine b_n ?_ | refine b_r ?_ | refine b_y rfl ?_ | refine b_z rfl ?_ | refine l_r ?_ | refine l_x ?_ | refine k_seq ?_ | refine k_blk ?_ | refine k_reg ?_ | refine k_ret ?_ | refine k_exit ?_ | refine k_skip ?_ | refine Zs ?_ | refine Zn ?_ | refine Zu ?_ | refine Zg ?_))
      refine ret_1 rfl rfl ⟨⟨r2, L2, td2, rfl, C6, ?_⟩, (kk.trans k5 (fun _ _ h => h)).trans k6 (fun _ _ h => h)⟩
      rcases I'.rea hf (hstep ((j : Int) + 1) (h - t1 + t2) (by rw [haft]; simp)) (by omega) (by omega) R2 with ⟨rfl, I2, hL2, hlt2, hle2, hext2⟩ | ⟨rfl, hbad⟩
      · exact .inl ⟨rfl, hfin L2 td2 I2 (hext2 j h (hext j h hy hh) hh) (fun d x hm => by
          rw [haft] at hm
          simp only [List.mem_cons, Prod.mk.injEq, List.not_mem_nil, or_false] at hm
          rcases hm with ⟨rfl, rfl⟩ | ⟨rfl, rfl⟩
          · exact ⟨hja.1, hlt, by omega, hle, hext2 _ _ hL' (by omega)⟩
          · exact ⟨by omega, hlt2, by omega, hle2, hL2⟩), (fun q y hq hy0 => hext2 q y (hext q y hq hy0) hy0), Nat.le_trans (Rea.ms R2 (by omega)) (Rea.ms R (by omega))⟩
      · exact .inr ⟨rfl, hbad⟩
    · refine s_set 75 false rfl rfl ?_
      (repeat (first | refine k_nil ?_ | refine k_n ?_ | refine k_r ?_ | refine k_x ?_ | refine b_n ?_ | refine b_r ?_ | refine b_y rfl ?_ | refine b_z rfl ?_ | refine l_r ?_ | refine l_x ?_ | refine k_seq ?_ | refine k_blk ?_ | refine k_reg ?_ | refine k_ret ?_ | refine k_exit ?_ | refine k_skip ?_ | refine Zs ?_ | refine Zn ?_ | refine Zu ?_ | refine Zg ?_))
      exact ret_1 rfl rfl ⟨⟨false, L', td', rfl, C5, .inr ⟨rfl, hbad⟩⟩, kk.trans k5 (fun _ _ h => h)⟩
  have haft : aft c i j h = [((j : Int) + 1, h - t1 + t2)] := by unfold aft; rw [if_neg q27, if_neg q22, if_neg q23, if_neg (fun q => q.elim q24 q25), ht1, ht2]
  (repeat (first | refine k_nil ?_ | refine k_n ?_ | refine k_r ?_ | refine k_x ?_ | refine b_n ?_ | refine b_r ?_ | refine b_y rfl ?_ | refine b_z rfl ?_ | refine l_r ?_ | refine l_x ?_ | refine k_seq ?_ | refine k_blk ?_ | refine k_reg ?_ | refine k_ret ?_ | refine k_exit ?_ | refine k_skip ?_ | refine Zs ?_))
  refine s_call (us := []) (zs := []) (by kernel_rfl) rfl rfl (reachF base b hb ap (some ⟨bi, oi, none⟩) c.ps.length cp c.is.length cl p L td ((j : Int) + 1) (h - t1 + t2) m4 (by omega) C4 (by omega) (by omega) (by omega) (by omega)) ?_
  rintro _ m5 ⟨⟨r, L', td', rfl, C5, R⟩, k5⟩
  (repeat (first | refine k_nil ?_ | refine k_n ?_ | refine k_r ?_ | refine k_x ?_ | refine b_n ?_ | refine b_r ?_ | refine b_y rfl ?_ | refine b_z rfl ?_ | refine l_r ?_ | refine l_x ?_ | refine k_seq ?_ | refine k_blk ?_ | refine k_reg ?_ | refine k_ret ?_ | refine k_exit ?_ | refine k_skip ?_ | refine Zs ?_))
  refine ret_1 rfl rfl ⟨⟨r, L', td', rfl, C5, ?_⟩, kk.trans k5 (fun _ _ h => h)⟩
  rcases I.rea hf (hstep ((j : Int) + 1) (h - t1 + t2) (by rw [haft]; simp)) (by omega) (by omega) R with ⟨rfl, I', hL', hlt, hle, hext⟩ | ⟨rfl, hbad⟩
  · exact .inl ⟨rfl, hfin L' td' I' (hext j h hy hh) (fun d x hm => by
      rw [haft, List.mem_singleton] at hm
      cases hm
      exact ⟨by omega, hlt, by omega, hle, hL'⟩), hext, Rea.ms R (by omega)⟩
  · exact .inr ⟨rfl, hbad⟩
end Cd
end Go.Proofs.YtpamkidcmjfieaaDoor
