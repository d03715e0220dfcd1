/- Code: the law CodeHeights. -/
import Derived.Test.YtpamkidcmjfieaaDoorDn
import Derived.Test.YtpamkidcmjfieaaDoorCo
namespace Go.Proofs.YtpamkidcmjfieaaDoor
open Go Go.RowKit Fw Nu
set_option linter.unusedVariables false
set_option maxRecDepth 20000
namespace Cd
theorem cell_h {m : World} {hb : Nat} {L : List Int} {T : TypeId} (h : m.heap[hb]? = some (.cells (L.map (Value.int .i64)).toArray T (0, 0))) {d y : Int} (hy : L[d.toNat]? = some y) : m.cell? ⟨hb, 0 + d.toNat * 1, none⟩ = some (.int .i64 y) :=
  cell_of_blk h (by rw [Nat.zero_add, Nat.mul_one, List.getElem?_map, hy]; rfl)
set_option maxHeartbeats 4000000 in
theorem Heights (c : Cde) (ap al : Option Addr) (cp cl : Nat) (w : World) (hg : Glob w) (hp : RP w ap c.ps) (hi : RI w al c.is) (hcp : c.ps.length ≤ cp) (hcl : c.is.length ≤ cl) (hm : cp ≤ maxLen) (hm2 : cl ≤ maxLen) :
    Ret Tryd.prog 3 [.agg #[.slice ap c.ps.length cp, .slice al c.is.length cl]] w fun v w1 => v = .bool true ∧ Kp No w w1 := by
  have hbig : c.ps.length ≤ 9223372036854775807 := by unfold maxLen at hm; omega
  refine ret_enter Tryd.func3 rfl Tryd.ntmps3 rfl ?_
  (repeat (first | refine k_nil ?_ | refine k_n ?_ | refine k_r ?_ | refine k_x ?_ | refine b_n ?_ | refine b_r ?_ | refine b_y rfl ?_ | refine b_z rfl ?_ | refine l_r ?_ | refine l_x ?_ | refine k_seq ?_ | refine k_blk ?_ | refine k_reg ?_ | refine k_ret ?_ | refine k_exit ?_ | refine k_skip ?_ | refine Zs ?_))
  refine s_box (cs := [.slice ap c.ps.length cp, .slice al c.is.length cl]) rfl rfl (fun b1 w1 n1 => ?_)
  have e1 := n1.blk
  have kw1 := n1.kp
  (repeat (first | refine k_nil ?_ | refine k_n ?_ | refine k_r ?_ | refine k_x ?_ | refine b_n ?_ | refine b_r ?_ | refine b_y rfl ?_ | refine b_z rfl ?_ | refine l_r ?_ | refine l_x ?_ | refine k_seq ?_ | refine k_blk ?_ | refine k_reg ?_ | refine k_ret ?_ | refine k_exit ?_ | refine k_skip ?_ | refine Zs ?_))
  refine s_call (us := []) (zs := []) (by kernel_rfl) rfl rfl (awakeF w1 (hg.kp kw1)) ?_
  rintro _ w2 ⟨rfl, k2⟩
  have e2 := k2.get0 e1
  have kw2 := kw1.no k2
  (repeat (first | refine k_nil ?_ | refine k_n ?_ | refine k_r ?_ | refine k_x ?_ | refine b_n ?_ | refine b_r ?_ | refine b_y rfl ?_ | refine b_z rfl ?_ | refine l_r ?_ | refine l_x ?_ | refine k_seq ?_ | refine k_blk ?_ | refine k_reg ?_ | refine k_ret ?_ | refine k_exit ?_ | refine k_skip ?_ | refine Zs ?_ | refine Zn ?_ | refine Zu ?_ | refine Zg ?_))
  refine s_gv rfl (r_ldb (vs := [.slice ap c.ps.length cp, .slice al c.is.length cl]) rfl rfl rfl e2 rfl rfl) ?_
  refine s_gcall (us := []) (zs := []) rfl (by kernel_rfl) rfl rfl (fewF c ap al cp cl w2 (hp.kp0 kw2) hbig) ?_
  rintro _ w3 ⟨⟨b, rfl, hfew⟩, k3⟩
  have e3 := k3.get0 e2
  have kw3 := kw2.no k3
  cases b with
  | false =>
    (repeat (first | refine k_nil ?_ | refine k_n ?_ | refine k_r ?_ | refine k_x ?_ | refine b_n ?_ | refine b_r ?_ | refine b_y rfl ?_ | refine b_z rfl ?_ | refine l_r ?_ | refine l_x ?_ | refine k_seq ?_ | refine k_blk ?_ | refine k_reg ?_ | refine k_ret ?_ | refine k_exit ?_ | refine k_skip ?_ | refine Zs ?_ | refine Zn ?_ | refine Zu ?_ | refine Zg ?_))
    refine c_t rfl ?_
    (repeat (first | refine k_nil ?_ | refine k_n ?_ | refine k_r ?_ | refine k_x ?_ | refine b_n ?_ | refine b_r ?_ | refine b_y rfl ?_ | refine b_z rfl ?_ | refine l_r ?_ | refine l_x ?_ | refine k_seq ?_ | refine k_blk ?_ | refine k_reg ?_ | refine k_ret ?_ | refine k_exit ?_ | refine k_skip ?_ | refine Zs ?_))
    refine s_call (us := []) (zs := []) (by kernel_rfl) rfl rfl (awakeF w3 (hg.kp kw3)) ?_
    rintro _ w4 ⟨rfl, k4⟩
    (repeat (first | refine k_nil ?_ | refine k_n ?_ | refine k_r ?_ | refine k_x ?_ | refine b_n ?_ | refine b_r ?_ | refine b_y rfl ?_ | refine b_z rfl ?_ | refine l_r ?_ | refine l_x ?_ | refine k_seq ?_ | refine k_blk ?_ | refine k_reg ?_ | refine k_ret ?_ | refine k_exit ?_ | refine k_skip ?_ | refine Zs ?_))
    exact ret_1 rfl rfl ⟨rfl, kw3.no k4⟩
  | true =>
  obtain ⟨hf1, hf2, hf3⟩ := hfew.1 rfl
  have hnz : ∀ p ∈ c.ps, p.nm.size ≤ 1000000 := fun p hp => by have := hf1 p hp; omega
  (repeat (first | refine k_nil ?_ | refine k_n ?_ | refine k_r ?_ | refine k_x ?_ | refine b_n ?_ | refine b_r ?_ | refine b_y rfl ?_ | refine b_z rfl ?_ | refine l_r ?_ | refine l_x ?_ | refine k_seq ?_ | refine k_blk ?_ | refine k_reg ?_ | refine k_ret ?_ | refine k_exit ?_ | refine k_skip ?_ | refine Zs ?_ | refine Zn ?_ | refine Zu ?_ | refine Zg ?_))
  refine c_f rfl ?_
  (repeat (first | refine k_nil ?_ | refine k_n ?_ | refine k_r ?_ | refine k_x ?_ | refine b_n ?_ | refine b_r ?_ | refine b_y rfl ?_ | refine b_z rfl ?_ | refine l_r ?_ | refine l_x ?_ | refine k_seq ?_ | refine k_blk ?_ | refine k_reg ?_ | refine k_ret ?_ | refine k_exit ?_ | refine k_skip ?_ | refine Zs ?_))
  refine s_v (r_ldb (vs := [.slice ap c.ps.length cp, .slice al c.is.length cl]) rfl rfl rfl e3 rfl rfl) ?_
  refine s_call (us := []) (zs := []) (by kernel_rfl) rfl rfl (HeightsF c ap al cp cl w3 (hg.kp kw3).tk (hg.kp kw3).sh (hp.kp0 kw3) (hi.kp0 kw3) (by omega) (by omega) hcl hnz) ?_
  rintro v4 w4 ⟨k4, ⟨rfl, hng⟩ | ⟨hb, L, rfl, hh, hge, hbL⟩⟩
  · have e4 := k4.get0 e3
    have kw4 := kw3.no k4
    (repeat (first | refine k_nil ?_ | refine k_n ?_ | refine k_r ?_ | refine k_x ?_ | refine b_n ?_ | refine b_r ?_ | refine b_y rfl ?_ | refine b_z rfl ?_ | refine l_r ?_ | refine l_x ?_ | refine k_seq ?_ | refine k_blk ?_ | refine k_reg ?_ | refine k_ret ?_ | refine k_exit ?_ | refine k_skip ?_ | refine Zs ?_))
    refine c_t rfl ?_
    (repeat (first | refine k_nil ?_ | refine k_n ?_ | refine k_r ?_ | refine k_x ?_ | refine b_n ?_ | refine b_r ?_ | refine b_y rfl ?_ | refine b_z rfl ?_ | refine l_r ?_ | refine l_x ?_ | refine k_seq ?_ | refine k_blk ?_ | refine k_reg ?_ | refine k_ret ?_ | refine k_exit ?_ | refine k_skip ?_ | refine Zs ?_))
    refine s_set 27 true rfl rfl ?_
    (repeat (first | refine k_nil ?_ | refine k_n ?_ | refine k_r ?_ | refine k_x ?_ | refine b_n ?_ | refine b_r ?_ | refine b_y rfl ?_ | refine b_z rfl ?_ | refine l_r ?_ | refine l_x ?_ | refine k_seq ?_ | refine k_blk ?_ | refine k_reg ?_ | refine k_ret ?_ | refine k_exit ?_ | refine k_skip ?_ | refine Zs ?_ | refine Zn ?_ | refine Zu ?_ | refine Zg ?_))
    refine s_gv rfl (r_ldb (vs := [.slice ap c.ps.length cp, .slice al c.is.length cl]) rfl rfl rfl e4 rfl rfl) ?_
    refine s_gcall (us := []) (zs := []) rfl (by kernel_rfl) rfl rfl (GoodF c ap al cp cl w4 (hg.kp kw4).tk (hg.kp kw4).sh (hp.kp0 kw4) (hi.kp0 kw4) (by omega) (by omega) hcl hnz) ?_
    rintro _ w5 ⟨k5, r, rfl, hr⟩
    have hrf : r = false := by
      cases r with
      | true => exact (hng (hr.1 rfl)).elim
      | false => rfl
    subst hrf
    (repeat (first | refine k_nil ?_ | refine k_n ?_ | refine k_r ?_ | refine k_x ?_ | refine b_n ?_ | refine b_r ?_ | refine b_y rfl ?_ | refine b_z rfl ?_ | refine l_r ?_ | refine l_x ?_ | refine k_seq ?_ | refine k_blk ?_ | refine k_reg ?_ | refine k_ret ?_ | refine k_exit ?_ | refine k_skip ?_ | refine Zs ?_ | refine Zn ?_ | refine Zu ?_ | refine Zg ?_))
    exact ret_1 rfl rfl ⟨rfl, kw4.no k5⟩
  have e4 := k4.get0 e3
  have kw4 := kw3.no k4
  have hLl := hh.len
  (repeat (first | refine k_nil ?_ | refine k_n ?_ | refine k_r ?_ | refine k_x ?_ | refine b_n ?_ | refine b_r ?_ | refine b_y rfl ?_ | refine b_z rfl ?_ | refine l_r ?_ | refine l_x ?_ | refine k_seq ?_ | refine k_blk ?_ | refine k_reg ?_ | refine k_ret ?_ | refine k_exit ?_ | refine k_skip ?_ | refine Zs ?_))
  refine c_f rfl ?_
  (repeat (first | refine k_nil ?_ | refine k_n ?_ | refine k_r ?_ | refine k_x ?_ | refine b_n ?_ | refine b_r ?_ | refine b_y rfl ?_ | refine b_z rfl ?_ | refine l_r ?_ | refine l_x ?_ | refine k_seq ?_ | refine k_blk ?_ | refine k_reg ?_ | refine k_ret ?_ | refine k_exit ?_ | refine k_skip ?_ | refine Zs ?_))
  refine k_loop (σ := Nat) (fun j => [(1, .pointer (some ⟨b1, 0, none⟩)), (3, .slice (some ⟨hb, 0, none⟩) L.length L.length), (33, .slice ap c.ps.length cp), (34, .int .i64 c.ps.length), (35, .int .i64 j)]) (fun j m => j ≤ c.ps.length ∧ Kp No w4 m) (fun j => c.ps.length - j) 0 ⟨rfl, rfl, rfl, rfl, rfl, trivial⟩ ⟨Nat.zero_le _, Kp.refl _ _⟩ ?_
  rintro j l m ⟨hj, km⟩
  have e4m := km.get0 e4
  have hbm := km.get0 hbL
  have kwm := kw4.no km
  (repeat (first | refine k_nil ?_ | refine k_n ?_ | refine k_r ?_ | refine k_x ?_ | refine b_n ?_ | refine b_r ?_ | refine b_y rfl ?_ | refine b_z rfl ?_ | refine l_r ?_ | refine l_x ?_ | refine k_seq ?_ | refine k_blk ?_ | refine k_reg ?_ | refine k_ret ?_ | refine k_exit ?_ | refine k_skip ?_ | refine Zs ?_))
  refine c_dec rfl (fun hlt => ?_) (fun hge2 => ?_)
  · obtain ⟨p, hx⟩ : ∃ p, c.ps[j]? = some p := ⟨_, List.getElem?_eq_getElem (by omega)⟩
    have hpm := List.mem_of_getElem? hx
    obtain ⟨f1, f2, f3⟩ := form_at hh.fm hpm
    obtain ⟨pb, po, rfl, _, hc⟩ := (hp.kp0 kwm).at hx
    (repeat (first | refine k_nil ?_ | refine k_n ?_ | refine k_r ?_ | refine k_x ?_ | refine b_n ?_ | refine b_r ?_ | refine b_y rfl ?_ | refine b_z rfl ?_ | refine l_r ?_ | refine l_x ?_ | refine k_seq ?_ | refine k_blk ?_ | refine k_reg ?_ | refine k_ret ?_ | refine k_exit ?_ | refine k_skip ?_ | refine Zs ?_))
    refine s_v (r_ia (i := j) rfl rfl rfl rfl (by omega) (by omega)) ?_
    refine s_v (r_lda (vs := pc p) rfl rfl rfl rfl hc) ?_
    refine s_al rfl (fun b5 m1 n5 => ?_)
    have g5 := n5.ge
    refine s_st (vs := pc p) rfl rfl rfl rfl rfl n5.blk (Nat.le_of_ble_eq_true rfl) (fun m2 s2 => ?_)
    have k2m : Kp No m m2 := n5.kp.trans s2.kp (fun _ _ e => by omega)
    have e5 : m2.heap[b5]? = some (.cells [Value.string p.nm, .int .i64 p.fr, .int .i64 p.to, .int .i64 p.pa, .int .i64 p.sl, .int .i64 p.ty].toArray 32 (0, 0)) := s2.blk
    have hcell := cell_h (k2m.get0 hbm) (d := p.fr) (y := 0) (hh.lab p hpm).start
    (repeat (first | refine k_nil ?_ | refine k_n ?_ | refine k_r ?_ | refine k_x ?_ | refine b_n ?_ | refine b_r ?_ | refine b_y rfl ?_ | refine b_z rfl ?_ | refine l_r ?_ | refine l_x ?_ | refine k_seq ?_ | refine k_blk ?_ | refine k_reg ?_ | refine k_ret ?_ | refine k_exit ?_ | refine k_skip ?_ | refine Zs ?_))
    refine s_v (r_ia rfl rfl rfl rfl (by omega) (by omega)) ?_
    (repeat (first | refine k_nil ?_ | refine k_n ?_ | refine k_r ?_ | refine k_x ?_ | refine b_n ?_ | refine b_r ?_ | refine b_y rfl ?_ | refine b_z rfl ?_ | refine l_r ?_ | refine l_x ?_ | refine k_seq ?_ | refine k_blk ?_ | refine k_reg ?_ | refine k_ret ?_ | refine k_exit ?_ | refine k_skip ?_ | refine Zs ?_))
    refine c_ne rfl (fun h => (h rfl).elim) (fun _ => ?_)
    (repeat (first | refine k_nil ?_ | refine k_n ?_ | refine k_r ?_ | refine k_x ?_ | refine b_n ?_ | refine b_r ?_ | refine b_y rfl ?_ | refine b_z rfl ?_ | refine l_r ?_ | refine l_x ?_ | refine k_seq ?_ | refine k_blk ?_ | refine k_reg ?_ | refine k_ret ?_ | refine k_exit ?_ | refine k_skip ?_ | refine Zs ?_))
    exact l_next (j + 1) ⟨rfl, rfl, rfl, rfl, rfl, trivial⟩ ⟨by omega, km.no k2m⟩ (by omega)
  obtain rfl : j = c.ps.length := by omega
  (repeat (first | refine k_nil ?_ | refine k_n ?_ | refine k_r ?_ | refine k_x ?_ | refine b_n ?_ | refine b_r ?_ | refine b_y rfl ?_ | refine b_z rfl ?_ | refine l_r ?_ | refine l_x ?_ | refine k_seq ?_ | refine k_blk ?_ | refine k_reg ?_ | refine k_ret ?_ | refine k_exit ?_ | refine k_skip ?_ | refine Zs ?_))
  refine k_loop (σ := Nat) (fun j => [(1, .pointer (some ⟨b1, 0, none⟩)), (3, .slice (some ⟨hb, 0, none⟩) L.length L.length), (47, .slice al c.is.length cl), (48, .int .i64 c.is.length), (49, .int .i64 j)]) (fun j m' => j ≤ c.is.length ∧ Kp No m m') (fun j => c.is.length - j) 0 ⟨rfl, rfl, rfl, rfl, rfl, trivial⟩ ⟨Nat.zero_le _, Kp.refl _ _⟩ ?_
  rintro j l2 m2 ⟨hj, km2⟩
  have e42 := km2.get0 e4m
  have hb2 := km2.get0 hbm
  have kw2' := kwm.no km2
  (repeat (first | refine k_nil ?_ | refine k_n ?_ | refine k_r ?_ | refine k_x ?_ | refine b_n ?_ | refine b_r ?_ | refine b_y rfl ?_ | refine b_z rfl ?_ | refine l_r ?_ | refine l_x ?_ | refine k_seq ?_ | refine k_blk ?_ | refine k_reg ?_ | refine k_ret ?_ | refine k_exit ?_ | refine k_skip ?_ | refine Zs ?_))
  refine c_dec rfl (fun hlt => ?_) (fun hge3 => ?_)
  · obtain ⟨i, hx⟩ : ∃ i, c.is[j]? = some i := ⟨_, List.getElem?_eq_getElem (by omega)⟩
    obtain ⟨p, hpm, p1, p2⟩ := form_in hh.fm (j := j) (by omega)
    obtain ⟨y, hy⟩ : ∃ y, L[j]? = some y := ⟨_, List.getElem?_eq_getElem (by omega)⟩
    have hyr : y = -1 ∨ (0 ≤ y ∧ y ≤ 200) := (hh.rg p hpm j y p1 p2 hy).imp id (fun h => ⟨h.1, h.2.1⟩)
    have hret : i.op = 27 → 0 ≤ y → i.arg ≤ y := fun ho h0 => by
      have := ((hh.lab p hpm).next j y i p1 p2 hy h0 hx).1
      unfold eff at this
      rw [if_neg (by omega), if_pos ho] at this
      exact this
    obtain ⟨ib, io, rfl, _, hci⟩ := (hi.kp0 kw2').at hx
    (repeat (first | refine k_nil ?_ | refine k_n ?_ | refine k_r ?_ | refine k_x ?_ | refine b_n ?_ | refine b_r ?_ | refine b_y rfl ?_ | refine b_z rfl ?_ | refine l_r ?_ | refine l_x ?_ | refine k_seq ?_ | refine k_blk ?_ | refine k_reg ?_ | refine k_ret ?_ | refine k_exit ?_ | refine k_skip ?_ | refine Zs ?_))
    refine s_v (r_ia (i := j) rfl rfl rfl rfl (by omega) (by omega)) ?_
    refine s_v (r_lda (vs := ic i) rfl rfl rfl rfl hci) ?_
    refine s_al rfl (fun b8 m3 n8 => ?_)
    have g8 := n8.ge
    (repeat (first | refine k_nil ?_ | refine k_n ?_ | refine k_r ?_ | refine k_x ?_ | refine b_n ?_ | refine b_r ?_ | refine b_y rfl ?_ | refine b_z rfl ?_ | refine l_r ?_ | refine l_x ?_ | refine k_seq ?_ | refine k_blk ?_ | refine k_reg ?_ | refine k_ret ?_ | refine k_exit ?_ | refine k_skip ?_ | refine Zs ?_))
    refine s_st (vs := ic i) rfl rfl rfl rfl rfl n8.blk (Nat.le_of_ble_eq_true rfl) (fun m4 s4 => ?_)
    have k24 : Kp No m2 m4 := n8.kp.trans s4.kp (fun _ _ e => by omega)
    have e8 : m4.heap[b8]? = some (.cells [Value.int .i64 i.op, .int .i64 i.arg, .int .i64 i.more].toArray 34 (0, 0)) := s4.blk
    have hcell := cell_h (k24.get0 hb2) (d := (j : Int)) (y := y) hy
    (repeat (first | refine k_nil ?_ | refine k_n ?_ | refine k_r ?_ | refine k_x ?_ | refine b_n ?_ | refine b_r ?_ | refine b_y rfl ?_ | refine b_z rfl ?_ | refine l_r ?_ | refine l_x ?_ | refine k_seq ?_ | refine k_blk ?_ | refine k_reg ?_ | refine k_ret ?_ | refine k_exit ?_ | refine k_skip ?_ | refine Zs ?_))
    refine k_q (by kernel_rfl) (by kernel_rfl) ?_
    (repeat (first | refine Zq ?_ | refine Zqn ?_ | refine Zqu ?_ | refine Zqg ?_))
    refine q_set 59 false rfl (decide_eq_false (by omega)) ?_
    (repeat (first | refine Zq ?_ | refine Zqn ?_ | refine Zqu ?_ | refine Zqg ?_))
    refine q_set 66 false rfl (decide_eq_false (by omega)) ?_
    (repeat (first | refine Zq ?_ | refine Zqn ?_ | refine Zqu ?_ | refine Zqg ?_))
    have fin : ∀ (b : Bool) (l' : Slots) (q : Pst Tryd.prog), b = false → True := fun _ _ _ _ => trivial
    by_cases ho : i.op = 27
    · refine q_set 70 true rfl (by simp [ho]) ?_
      (repeat (first | refine Zq ?_ | refine Zqn ?_ | refine Zqu ?_ | refine Zqg ?_))
      by_cases h0 : 0 ≤ y
      · have hle := hret ho h0
        refine q_set 77 true rfl (decide_eq_true h0) ?_
        (repeat (first | refine Zq ?_ | refine Zqn ?_ | refine Zqu ?_ | refine Zqg ?_))
        refine q_nil (fun m5 k5 => ?_)
        (repeat (first | refine k_nil ?_ | refine k_n ?_ | refine k_r ?_ | refine k_x ?_ | refine b_n ?_ | refine b_r ?_ | refine b_y rfl ?_ | refine b_z rfl ?_ | refine l_r ?_ | refine l_x ?_ | refine k_seq ?_ | refine k_blk ?_ | refine k_reg ?_ | refine k_ret ?_ | refine k_exit ?_ | refine k_skip ?_ | refine Zs ?_))
        refine c_dec rfl (fun h => (by omega : False).elim) (fun _ => ?_)
        (repeat (first | refine k_nil ?_ | refine k_n ?_ | refine k_r ?_ | refine k_x ?_ | refine b_n ?_ | refine b_r ?_ | refine b_y rfl ?_ | refine b_z rfl ?_ | refine l_r ?_ | refine l_x ?_ | refine k_seq ?_ | refine k_blk ?_ | refine k_reg ?_ | refine k_ret ?_ | refine k_exit ?_ | refine k_skip ?_ | refine Zs ?_))
        exact l_next (j + 1) ⟨rfl, rfl, rfl, rfl, rfl, trivial⟩ ⟨by omega, (km2.no k24).no k5⟩ (by omega)
      · refine q_set 77 false rfl (decide_eq_false h0) ?_
        (repeat (first | refine Zq ?_ | refine Zqn ?_ | refine Zqu ?_ | refine Zqg ?_))
        refine q_nil (fun m5 k5 => ?_)
        (repeat (first | refine k_nil ?_ | refine k_n ?_ | refine k_r ?_ | refine k_x ?_ | refine b_n ?_ | refine b_r ?_ | refine b_y rfl ?_ | refine b_z rfl ?_ | refine l_r ?_ | refine l_x ?_ | refine k_seq ?_ | refine k_blk ?_ | refine k_reg ?_ | refine k_ret ?_ | refine k_exit ?_ | refine k_skip ?_ | refine Zs ?_))
        refine c_f rfl ?_
        (repeat (first | refine k_nil ?_ | refine k_n ?_ | refine k_r ?_ | refine k_x ?_ | refine b_n ?_ | refine b_r ?_ | refine b_y rfl ?_ | refine b_z rfl ?_ | refine l_r ?_ | refine l_x ?_ | refine k_seq ?_ | refine k_blk ?_ | refine k_reg ?_ | refine k_ret ?_ | refine k_exit ?_ | refine k_skip ?_ | refine Zs ?_))
        exact l_next (j + 1) ⟨rfl, rfl, rfl, rfl, rfl, trivial⟩ ⟨by omega, (km2.no k24).no k5⟩ (by omega)
    · refine q_set 70 false rfl (by simpa using ho) ?_
      (repeat (first | refine Zq ?_ | refine Zqn ?_ | refine Zqu ?_ | refine Zqg ?_))
      refine q_nil (fun m5 k5 => ?_)
      (repeat (first | refine k_nil ?_ | refine k_n ?_ | refine k_r ?_ | refine k_x ?_ | refine b_n ?_ | refine b_r ?_ | refine b_y rfl ?_ | refine b_z rfl ?_ | refine l_r ?_ | refine l_x ?_ | refine k_seq ?_ | refine k_blk ?_ | refine k_reg ?_ | refine k_ret ?_ | refine k_exit ?_ | refine k_skip ?_ | refine Zs ?_))
      refine c_f rfl ?_
      (repeat (first | refine k_nil ?_ | refine k_n ?_ | refine k_r ?_ | refine k_x ?_ | refine b_n ?_ | refine b_r ?_ | refine b_y rfl ?_ | refine b_z rfl ?_ | refine l_r ?_ | refine l_x ?_ | refine k_seq ?_ | refine k_blk ?_ | refine k_reg ?_ | refine k_ret ?_ | refine k_exit ?_ | refine k_skip ?_ | refine Zs ?_))
      exact l_next (j + 1) ⟨rfl, rfl, rfl, rfl, rfl, trivial⟩ ⟨by omega, (km2.no k24).no k5⟩ (by omega)
  · (repeat (first | refine k_nil ?_ | refine k_n ?_ | refine k_r ?_ | refine k_x ?_ | refine b_n ?_ | refine b_r ?_ | refine b_y rfl ?_ | refine b_z rfl ?_ | refine l_r ?_ | refine l_x ?_ | refine k_seq ?_ | refine k_blk ?_ | refine k_reg ?_ | refine k_ret ?_ | refine k_exit ?_ | refine k_skip ?_ | refine Zs ?_))
    refine ret_1 rfl rfl ⟨?_, kw2'⟩
    rw [hLl]
    simp
end Cd
end Go.Proofs.YtpamkidcmjfieaaDoor
