/- Code: effect; reach. -/
import Derived.Test.YtpamkidcmjfieaaDoorCg
namespace Go.Proofs.YtpamkidcmjfieaaDoor
open Go Go.RowKit Fw Nu
set_option linter.unusedVariables false
set_option maxRecDepth 20000
namespace Cd
set_option maxHeartbeats 2000000 in
theorem effF (c : Cde) (ap al : Option Addr) (cp nl cl : Nat) (i : Ins) (w : World) (hs : Shp w) (hp : RP w ap c.ps) (h1 : 1 ≤ i.op ∧ i.op ≤ 29) (h26 : i.op = 26 → 0 ≤ i.arg ∧ i.arg < c.ps.length) (hn : c.ps.length ≤ 1000000) :
    Ret Tryd.prog 34 [.agg #[.slice ap c.ps.length cp, .slice al nl cl], .agg (ic i).toArray] w fun v w1 => v = .tuple #[.int .i64 (eff c i).1, .int .i64 (eff c i).2] ∧ Kp No w w1 := by
  refine ret_enter Tryd.func34 rfl Tryd.ntmps34 rfl ?_
  (repeat (first | refine k_nil ?_ | refine k_n ?_ | refine k_r ?_ | refine k_x ?_ | refine b_n ?_ | refine b_r ?_ | refine b_y rfl ?_ | refine b_z rfl ?_ | refine l_r ?_ | refine l_x ?_ | refine k_seq ?_ | refine k_blk ?_ | refine k_reg ?_ | refine k_ret ?_ | refine k_exit ?_ | refine k_skip ?_ | refine Zs ?_))
  refine s_box (cs := [.slice ap c.ps.length cp, .slice al nl cl]) rfl rfl (fun b2 w1 n1 => ?_)
  refine s_box (cs := ic i) rfl rfl (fun b3 w2 n2 => ?_)
  have e2 := n2.kp.get0 n1.blk
  have e3 : w2.heap[b3]? = some (.cells [Value.int .i64 i.op, .int .i64 i.arg, .int .i64 i.more].toArray 34 (0, 0)) := n2.blk
  have kw := n1.kp.no n2.kp
  obtain ⟨c1, c0, c2, c3⟩ := (hs.kp kw).at (op := i.op) (by omega) h1.2
  (repeat (first | refine k_nil ?_ | refine k_n ?_ | refine k_r ?_ | refine k_x ?_ | refine b_n ?_ | refine b_r ?_ | refine b_y rfl ?_ | refine b_z rfl ?_ | refine l_r ?_ | refine l_x ?_ | refine k_seq ?_ | refine k_blk ?_ | refine k_reg ?_ | refine k_ret ?_ | refine k_exit ?_ | refine k_skip ?_ | refine Zs ?_))
  refine s_v (r_iaa rfl rfl rfl rfl (by omega) (by omega)) ?_
  refine s_v (r_lda (vs := [.string (Tk.strOf (sh i.op).1), .int .i64 (sh i.op).2.1, .int .i64 (sh i.op).2.2.1, .int .i64 (sh i.op).2.2.2]) rfl rfl rfl rfl (fun k hk => by
    match k, hk with
    | 0, _ => exact c0
    | 1, _ => exact c1
    | 2, _ => exact c2
    | 3, _ => exact c3)) ?_
  refine s_al rfl (fun b6 w3 n6 => ?_)
  have g6 := n6.ge
  refine s_st rfl rfl rfl rfl rfl n6.blk (Nat.le_of_ble_eq_true rfl) (fun w4 s4 => ?_)
  have k24 : Kp No w2 w4 := n6.kp.trans s4.kp (fun _ _ e => by omega)
  have e6 := s4.blk
  have e24 := k24.get0 e2
  have e34 := k24.get0 e3
  have kw4 := kw.no k24
  (repeat (first | refine k_nil ?_ | refine k_n ?_ | refine k_r ?_ | refine k_x ?_ | refine b_n ?_ | refine b_r ?_ | refine b_y rfl ?_ | refine b_z rfl ?_ | refine l_r ?_ | refine l_x ?_ | refine k_seq ?_ | refine k_blk ?_ | refine k_reg ?_ | refine k_ret ?_ | refine k_exit ?_ | refine k_skip ?_ | refine Zs ?_))
  refine c_eq rfl (fun q26 => ?_) (fun q26 => ?_)
  · obtain ⟨a0, a1⟩ := h26 q26
    obtain ⟨p, hx⟩ : ∃ p, c.ps[i.arg.toNat]? = some p := ⟨_, List.getElem?_eq_getElem (by omega)⟩
    have he : eff c i = (p.pa, if p.ty = 1 then 1 else 0) := by unfold eff; rw [if_pos q26, hx]
    obtain ⟨b, o, rfl, _, hc⟩ := (hp.kp0 kw4).at hx
    (repeat (first | refine k_nil ?_ | refine k_n ?_ | refine k_r ?_ | refine k_x ?_ | refine b_n ?_ | refine b_r ?_ | refine b_y rfl ?_ | refine b_z rfl ?_ | refine l_r ?_ | refine l_x ?_ | refine k_seq ?_ | refine k_blk ?_ | refine k_reg ?_ | refine k_ret ?_ | refine k_exit ?_ | refine k_skip ?_ | refine Zs ?_))
    refine s_v (r_ia rfl rfl rfl rfl a0 a1) ?_
    refine s_v (r_lda (vs := pc p) rfl rfl rfl rfl (fun k hk => by have := hc k hk; rw [Int.toNat_natCast] at this; exact this)) ?_
    refine s_al rfl (fun b7 w5 n7 => ?_)
    have g7 := n7.ge
    refine s_st (vs := pc p) rfl rfl rfl rfl rfl n7.blk (Nat.le_of_ble_eq_true rfl) (fun w6 s6 => ?_)
    have k46 : Kp No w4 w6 := n7.kp.trans s6.kp (fun _ _ e => by omega)
    have e7 : w6.heap[b7]? = some (.cells [Value.string p.nm, .int .i64 p.fr, .int .i64 p.to, .int .i64 p.pa, .int .i64 p.sl, .int .i64 p.ty].toArray 32 (0, 0)) := s6.blk
    (repeat (first | refine k_nil ?_ | refine k_n ?_ | refine k_r ?_ | refine k_x ?_ | refine b_n ?_ | refine b_r ?_ | refine b_y rfl ?_ | refine b_z rfl ?_ | refine l_r ?_ | refine l_x ?_ | refine k_seq ?_ | refine k_blk ?_ | refine k_reg ?_ | refine k_ret ?_ | refine k_exit ?_ | refine k_skip ?_ | refine Zs ?_))
    refine c_eq rfl (fun q1 => ?_) (fun q1 => ?_)
    · (repeat (first | refine k_nil ?_ | refine k_n ?_ | refine k_r ?_ | refine k_x ?_ | refine b_n ?_ | refine b_r ?_ | refine b_y rfl ?_ | refine b_z rfl ?_ | refine l_r ?_ | refine l_x ?_ | refine k_seq ?_ | refine k_blk ?_ | refine k_reg ?_ | refine k_ret ?_ | refine k_exit ?_ | refine k_skip ?_ | refine Zs ?_))
      exact ret_2 rfl rfl rfl ⟨by rw [he, if_pos q1], kw4.no k46⟩
    · (repeat (first | refine k_nil ?_ | refine k_n ?_ | refine k_r ?_ | refine k_x ?_ | refine b_n ?_ | refine b_r ?_ | refine b_y rfl ?_ | refine b_z rfl ?_ | refine l_r ?_ | refine l_x ?_ | refine k_seq ?_ | refine k_blk ?_ | refine k_reg ?_ | refine k_ret ?_ | refine k_exit ?_ | refine k_skip ?_ | refine Zs ?_))
      exact ret_2 rfl rfl rfl ⟨by rw [he, if_neg q1], kw4.no k46⟩
  · (repeat (first | refine k_nil ?_ | refine k_n ?_ | refine k_r ?_ | refine k_x ?_ | refine b_n ?_ | refine b_r ?_ | refine b_y rfl ?_ | refine b_z rfl ?_ | refine l_r ?_ | refine l_x ?_ | refine k_seq ?_ | refine k_blk ?_ | refine k_reg ?_ | refine k_ret ?_ | refine k_exit ?_ | refine k_skip ?_ | refine Zs ?_))
    refine c_eq rfl (fun q27 => ?_) (fun q27 => ?_)
    · (repeat (first | refine k_nil ?_ | refine k_n ?_ | refine k_r ?_ | refine k_x ?_ | refine b_n ?_ | refine b_r ?_ | refine b_y rfl ?_ | refine b_z rfl ?_ | refine l_r ?_ | refine l_x ?_ | refine k_seq ?_ | refine k_blk ?_ | refine k_reg ?_ | refine k_ret ?_ | refine k_exit ?_ | refine k_skip ?_ | refine Zs ?_))
      exact ret_2 rfl rfl rfl ⟨by unfold eff; rw [if_neg q26, if_pos q27], kw4⟩
    · (repeat (first | refine k_nil ?_ | refine k_n ?_ | refine k_r ?_ | refine k_x ?_ | refine b_n ?_ | refine b_r ?_ | refine b_y rfl ?_ | refine b_z rfl ?_ | refine l_r ?_ | refine l_x ?_ | refine k_seq ?_ | refine k_blk ?_ | refine k_reg ?_ | refine k_ret ?_ | refine k_exit ?_ | refine k_skip ?_ | refine Zs ?_))
      refine k_q (by kernel_rfl) (by kernel_rfl) ?_
      (repeat (first | refine Zq ?_ | refine Zqn ?_ | refine Zqu ?_ | refine Zqg ?_))
      refine q_nil (fun w5 k5 => ?_)
      (repeat (first | refine k_nil ?_ | refine k_n ?_ | refine k_r ?_ | refine k_x ?_ | refine b_n ?_ | refine b_r ?_ | refine b_y rfl ?_ | refine b_z rfl ?_ | refine l_r ?_ | refine l_x ?_ | refine k_seq ?_ | refine k_blk ?_ | refine k_reg ?_ | refine k_ret ?_ | refine k_exit ?_ | refine k_skip ?_ | refine Zs ?_))
      exact ret_2 rfl rfl rfl ⟨by unfold eff; rw [if_neg q26, if_neg q27], kw4.no k5⟩
/-- A climber: its block b, the heights' block hb, what is to do. -/
structure Clm (base b hb : Nat) (vp vl : Value) (p : Prc) (L td : List Int) (w : World) : Prop where
  ne : b ≠ hb
  hts : w.heap[hb]? = some (.cells (L.map (Value.int .i64)).toArray 3 (0, 0))
  clm : ∃ a ca, w.heap[b]? = some (.cells [vp, vl, .string p.nm, .int .i64 p.fr, .int .i64 p.to, .int .i64 p.pa, .int .i64 p.sl, .int .i64 p.ty, .slice (some ⟨hb, 0, none⟩) L.length L.length, .slice a td.length ca].toArray 41 (0, 0)) ∧
    w.ownsRow base 3 1 (.slice a td.length ca) td.length (td.map (Value.int .i64)) ∧ (Value.slice a td.length ca).ownBlock ≠ some b ∧ (Value.slice a td.length ca).ownBlock ≠ some hb
set_option maxHeartbeats 4000000 in
/-- reach: what it makes of the heights and of what is to do. -/
theorem reachF (base b hb : Nat) (sp sl : Option Addr) (np cp nl cl : Nat) (p : Prc) (L td : List Int) (pl h : Int) (w : World) (hbs : base ≤ w.heap.size) (C : Clm base b hb (.slice sp np cp) (.slice sl nl cl) p L td w) (h0 : 0 ≤ pl) (hto : p.to ≤ L.length) (hL : L.length ≤ 1000000) (htd : td.length ≤ 1000000) :
    Ret Tryd.prog 21 [.pointer (some ⟨b, 0, none⟩), .int .i64 pl, .int .i64 h] w fun v w1 =>
      (∃ r L' td', v = .bool r ∧ Clm base b hb (.slice sp np cp) (.slice sl nl cl) p L' td' w1 ∧
        (((p.to ≤ pl ∨ 200 < h) ∧ r = false ∧ L' = L ∧ td' = td) ∨ (pl < p.to ∧ h ≤ 200 ∧ ∃ x, L[pl.toNat]? = some x ∧
          ((x < 0 ∧ r = true ∧ L' = L.set pl.toNat h ∧ td' = td ++ [pl]) ∨ (0 ≤ x ∧ r = (x == h) ∧ L' = L ∧ td' = td))))) ∧ Kp (fun k => k = b ∨ k = hb ∨ base ≤ k) w w1 := by
  have C0 := C
  obtain ⟨hne, hts, a, ca, hblk, own, ho1, ho2⟩ := C
  refine ret_enter Tryd.func21 rfl Tryd.ntmps21 rfl ?_
  have z : Kp (fun k => k = b ∨ k = hb ∨ base ≤ k) w w := (Kp.refl No w).mono (fun _ _ h => False.elim h)
  (repeat (first | refine k_nil ?_ | refine k_n ?_ | refine k_r ?_ | refine k_x ?_ | refine b_n ?_ | refine b_r ?_ | refine b_y rfl ?_ | refine b_z rfl ?_ | refine l_r ?_ | refine l_x ?_ | refine k_seq ?_ | refine k_blk ?_ | refine k_reg ?_ | refine k_ret ?_ | refine k_exit ?_ | refine k_skip ?_ | refine Zs ?_))
  by_cases q1 : p.to ≤ pl
  · refine s_set 15 true rfl (decide_eq_true q1) ?_
    (repeat (first | refine k_nil ?_ | refine k_n ?_ | refine k_r ?_ | refine k_x ?_ | refine b_n ?_ | refine b_r ?_ | refine b_y rfl ?_ | refine b_z rfl ?_ | refine l_r ?_ | refine l_x ?_ | refine k_seq ?_ | refine k_blk ?_ | refine k_reg ?_ | refine k_ret ?_ | refine k_exit ?_ | refine k_skip ?_ | refine Zs ?_ | refine Zn ?_ | refine Zu ?_ | refine Zg ?_))
    refine c_t rfl ?_
    (repeat (first | refine k_nil ?_ | refine k_n ?_ | refine k_r ?_ | refine k_x ?_ | refine b_n ?_ | refine b_r ?_ | refine b_y rfl ?_ | refine b_z rfl ?_ | refine l_r ?_ | refine l_x ?_ | refine k_seq ?_ | refine k_blk ?_ | refine k_reg ?_ | refine k_ret ?_ | refine k_exit ?_ | refine k_skip ?_ | refine Zs ?_))
    exact ret_1 rfl rfl ⟨⟨false, L, td, rfl, C0, .inl ⟨.inl q1, rfl, rfl, rfl⟩⟩, z⟩
  refine s_set 15 false rfl (decide_eq_false q1) ?_
  (repeat (first | refine k_nil ?_ | refine k_n ?_ | refine k_r ?_ | refine k_x ?_ | refine b_n ?_ | refine b_r ?_ | refine b_y rfl ?_ | refine b_z rfl ?_ | refine l_r ?_ | refine l_x ?_ | refine k_seq ?_ | refine k_blk ?_ | refine k_reg ?_ | refine k_ret ?_ | refine k_exit ?_ | refine k_skip ?_ | refine Zs ?_ | refine Zn ?_ | refine Zu ?_ | refine Zg ?_))
  refine c_dec rfl (fun q2 => ?_) (fun q2 => ?_)
  · (repeat (first | refine k_nil ?_ | refine k_n ?_ | refine k_r ?_ | refine k_x ?_ | refine b_n ?_ | refine b_r ?_ | refine b_y rfl ?_ | refine b_z rfl ?_ | refine l_r ?_ | refine l_x ?_ | refine k_seq ?_ | refine k_blk ?_ | refine k_reg ?_ | refine k_ret ?_ | refine k_exit ?_ | refine k_skip ?_ | refine Zs ?_))
    exact ret_1 rfl rfl ⟨⟨false, L, td, rfl, C0, .inl ⟨.inr q2, rfl, rfl, rfl⟩⟩, z⟩
  obtain ⟨x, hx⟩ : ∃ x, L[pl.toNat]? = some x := ⟨_, List.getElem?_eq_getElem (by omega)⟩
  have hcx : w.cell? ⟨hb, 0 + pl.toNat * 1, none⟩ = some (.int .i64 x) := cell_of_blk hts (by rw [Nat.zero_add, Nat.mul_one, List.getElem?_map, hx]; rfl)
  (repeat (first | refine k_nil ?_ | refine k_n ?_ | refine k_r ?_ | refine k_x ?_ | refine b_n ?_ | refine b_r ?_ | refine b_y rfl ?_ | refine b_z rfl ?_ | refine l_r ?_ | refine l_x ?_ | refine k_seq ?_ | refine k_blk ?_ | refine k_reg ?_ | refine k_ret ?_ | refine k_exit ?_ | refine k_skip ?_ | refine Zs ?_))
  refine s_v (r_ia rfl rfl rfl rfl h0 (by omega)) ?_
  (repeat (first | refine k_nil ?_ | refine k_n ?_ | refine k_r ?_ | refine k_x ?_ | refine b_n ?_ | refine b_r ?_ | refine b_y rfl ?_ | refine b_z rfl ?_ | refine l_r ?_ | refine l_x ?_ | refine k_seq ?_ | refine k_blk ?_ | refine k_reg ?_ | refine k_ret ?_ | refine k_exit ?_ | refine k_skip ?_ | refine Zs ?_))
  refine c_dec rfl (fun q3 => ?_) (fun q3 => ?_)
  · have hk : 0 + pl.toNat * 1 = pl.toNat := by omega
    (repeat (first | refine k_nil ?_ | refine k_n ?_ | refine k_r ?_ | refine k_x ?_ | refine b_n ?_ | refine b_r ?_ | refine b_y rfl ?_ | refine b_z rfl ?_ | refine l_r ?_ | refine l_x ?_ | refine k_seq ?_ | refine k_blk ?_ | refine k_reg ?_ | refine k_ret ?_ | refine k_exit ?_ | refine k_skip ?_ | refine Zs ?_))
    refine s_v (r_ia rfl rfl rfl rfl h0 (by omega)) ?_
    refine s_st rfl rfl rfl rfl rfl hts (by rw [hk, List.length_map]; show pl.toNat + 1 ≤ L.length; omega) (fun w1 s1 => ?_)
    have s1' : Sb w hb ((L.map (Value.int .i64)).set (0 + pl.toNat * 1) (.int .i64 h)) 3 w1 := s1
    rw [hk, ← List.map_set] at s1'
    have hts1 := s1'.blk
    have hblk1 := s1'.kp.get hblk (show ¬ b = hb from hne)
    have own1 := own_kp own s1'.kp (fun g hg e => ho2 (by rw [hg, e]))
    have z1 := s1'.kp.size
    have lth := lt_of_get hts
    have ltb := lt_of_get hblk
    (repeat (first | refine k_nil ?_ | refine k_n ?_ | refine k_r ?_ | refine k_x ?_ | refine b_n ?_ | refine b_r ?_ | refine b_y rfl ?_ | refine b_z rfl ?_ | refine l_r ?_ | refine l_x ?_ | refine k_seq ?_ | refine k_blk ?_ | refine k_reg ?_ | refine k_ret ?_ | refine k_exit ?_ | refine k_skip ?_ | refine Zs ?_))
    refine s_bs (cs := [.int .i64 pl]) (e := 3) rfl (fun b6 w2 n6 => ?_)
    have g6 := n6.ge
    have z6 := n6.kp.size
    obtain ⟨v, w3, hra, own3, k3, _, hrow⟩ := run_app (P := Tryd.prog) (ty := 28) (w := w2) (base := base) (k := td.length) (xs := td.map (Value.int .i64)) (c := 1) (ad := ⟨b6, 0, none⟩) (m := 1) (news := [.int .i64 pl]) (size := 1) (bytes := 8) Tryd.underlying28 rfl rfl rfl rfl rfl rfl (own_kp own1 n6.kp (fun _ _ => id)) (fun j u hj => by
      rw [addr_add]
      exact blk_cells n6.blk j u hj) rfl rfl (by omega) (by omega) (by omega)
    refine s_go (r_app (e := 3) rfl rfl hra) ?_
    have own4 := own3
    obtain ⟨a', c', rfl, hc', _, _⟩ := own_read own3
    have hr' : ∀ g, (Value.slice a' (td.length + 1) c').ownBlock = some g → g ≠ b ∧ g ≠ hb := fun g hg => by
      rcases hrow g hg with h | h
      · exact ⟨fun e => ho1 (by rw [h, e]), fun e => ho2 (by rw [h, e])⟩
      · omega
    have hts3 := k3.get (n6.kp.get0 hts1) (fun e => ho2 e.symm)
    have hblk3 := k3.get (n6.kp.get0 hblk1) (fun e => ho1 e.symm)
    (repeat (first | refine k_nil ?_ | refine k_n ?_ | refine k_r ?_ | refine k_x ?_ | refine b_n ?_ | refine b_r ?_ | refine b_y rfl ?_ | refine b_z rfl ?_ | refine l_r ?_ | refine l_x ?_ | refine k_seq ?_ | refine k_blk ?_ | refine k_reg ?_ | refine k_ret ?_ | refine k_exit ?_ | refine k_skip ?_ | refine Zs ?_))
    refine s_st rfl rfl rfl rfl rfl hblk3 (Nat.le_of_ble_eq_true rfl) (fun w4 s4 => ?_)
    have hblk4 := s4.blk
    have hts4 := s4.kp.get hts3 (show ¬ hb = b from fun e => hne e.symm)
    have own5 := own_kp own4 s4.kp (fun g hg e => (hr' g hg).1 e)
    have el : (L.set pl.toNat h).length = L.length := List.length_set
    have et : (td ++ [pl]).length = td.length + 1 := by simp
    have hcx4 : w4.cell? ⟨hb, 0 + pl.toNat * 1, none⟩ = some (.int .i64 h) := cell_of_blk hts4 (by rw [hk, List.getElem?_map, List.getElem?_set_self (by omega)]; rfl)
    (repeat (first | refine k_nil ?_ | refine k_n ?_ | refine k_r ?_ | refine k_x ?_ | refine b_n ?_ | refine b_r ?_ | refine b_y rfl ?_ | refine b_z rfl ?_ | refine l_r ?_ | refine l_x ?_ | refine k_seq ?_ | refine k_blk ?_ | refine k_reg ?_ | refine k_ret ?_ | refine k_exit ?_ | refine k_skip ?_ | refine Zs ?_))
    refine s_v (r_ia rfl rfl rfl rfl h0 (by omega)) ?_
    (repeat (first | refine k_nil ?_ | refine k_n ?_ | refine k_r ?_ | refine k_x ?_ | refine b_n ?_ | refine b_r ?_ | refine b_y rfl ?_ | refine b_z rfl ?_ | refine l_r ?_ | refine l_x ?_ | refine k_seq ?_ | refine k_blk ?_ | refine k_reg ?_ | refine k_ret ?_ | refine k_exit ?_ | refine k_skip ?_ | refine Zs ?_))
    refine ret_1 rfl rfl ⟨⟨true, L.set pl.toNat h, td ++ [pl], by simp, ⟨hne, hts4, a', c', by rw [el, et]; exact hblk4, by rw [et, List.map_append]; exact own5, by rw [et]; exact fun e => (hr' b e).1 rfl, by rw [et]; exact fun e => (hr' hb e).2 rfl⟩, .inr ⟨by omega, by omega, x, hx, .inl ⟨q3, rfl, rfl, rfl⟩⟩⟩, ?_⟩
    refine (((s1'.kp.mono (fun k _ e => .inr (.inl e)) : Kp (fun k => k = b ∨ k = hb ∨ base ≤ k) w w1).no n6.kp).trans k3 (fun k hk e => .inr (.inr (own_lt own1 e.symm).1))).trans s4.kp (fun k _ e => .inl e)
  · (repeat (first | refine k_nil ?_ | refine k_n ?_ | refine k_r ?_ | refine k_x ?_ | refine b_n ?_ | refine b_r ?_ | refine b_y rfl ?_ | refine b_z rfl ?_ | refine l_r ?_ | refine l_x ?_ | refine k_seq ?_ | refine k_blk ?_ | refine k_reg ?_ | refine k_ret ?_ | refine k_exit ?_ | refine k_skip ?_ | refine Zs ?_))
    refine s_v (r_ia rfl rfl rfl rfl h0 (by omega)) ?_
    (repeat (first | refine k_nil ?_ | refine k_n ?_ | refine k_r ?_ | refine k_x ?_ | refine b_n ?_ | refine b_r ?_ | refine b_y rfl ?_ | refine b_z rfl ?_ | refine l_r ?_ | refine l_x ?_ | refine k_seq ?_ | refine k_blk ?_ | refine k_reg ?_ | refine k_ret ?_ | refine k_exit ?_ | refine k_skip ?_ | refine Zs ?_))
    exact ret_1 rfl rfl ⟨⟨_, L, td, rfl, C0, .inr ⟨by omega, by omega, x, hx, .inr ⟨by omega, rfl, rfl, rfl⟩⟩⟩, z⟩
end Cd
end Go.Proofs.YtpamkidcmjfieaaDoor
