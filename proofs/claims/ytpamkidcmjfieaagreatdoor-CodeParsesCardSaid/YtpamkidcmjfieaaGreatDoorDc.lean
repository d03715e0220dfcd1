/- Code: the document's name, heights. -/
import Derived.Test.YtpamkidcmjfieaaGreatDoorDb
import Derived.Test.YtpamkidcmjfieaaGreatDoorTe
namespace Go.Proofs.YtpamkidcmjfieaaGreatDoor
open Go Go.RowKit Fw Nu
set_option linter.unusedVariables false
set_option maxRecDepth 20000
namespace Cd
set_option maxHeartbeats 2000000 in
theorem rname (s : ByteArray) (w : World) (hs : s.size ≤ 1000000) : Ret Tryz.prog 30 [.string s] w fun v w1 => v = .bool (nm (B s)) ∧ Kp No w w1 := by
  refine ret_enter Tryz.func30 rfl Tryz.ntmps30 rfl ?_
  (repeat (first | refine k_nil ?_ | refine k_n ?_ | refine k_r ?_ | refine k_x ?_ | refine b_n ?_ | refine b_r ?_ | refine b_y rfl ?_ | refine b_z rfl ?_ | refine l_r ?_ | refine l_x ?_ | refine k_seq ?_ | refine k_blk ?_ | refine k_reg ?_ | refine k_ret ?_ | refine k_exit ?_ | refine k_skip ?_ | refine Zs ?_))
  refine s_call (us := []) (zs := []) (by kernel_rfl) rfl rfl (Tk.rAll s w hs) ?_
  rintro _ w1 ⟨u, rfl, own, k1⟩
  have own' := own
  obtain ⟨a, c, rfl, _, _, _⟩ := own_read own
  have hrd := Tk.RdT.of own'
  (repeat (first | refine k_nil ?_ | refine k_n ?_ | refine k_r ?_ | refine k_x ?_ | refine b_n ?_ | refine b_r ?_ | refine b_y rfl ?_ | refine b_z rfl ?_ | refine l_r ?_ | refine l_x ?_ | refine k_seq ?_ | refine k_blk ?_ | refine k_reg ?_ | refine k_ret ?_ | refine k_exit ?_ | refine k_skip ?_ | refine Zs ?_))
  by_cases hc : (Tk.allT (B s)).2.2 = 0
  case neg =>
    refine s_set 14 false rfl (by simp [hc]) ?_
    (repeat (first | refine k_nil ?_ | refine k_n ?_ | refine k_r ?_ | refine k_x ?_ | refine b_n ?_ | refine b_r ?_ | refine b_y rfl ?_ | refine b_z rfl ?_ | refine l_r ?_ | refine l_x ?_ | refine k_seq ?_ | refine k_blk ?_ | refine k_reg ?_ | refine k_ret ?_ | refine k_exit ?_ | refine k_skip ?_ | refine Zs ?_ | refine Zn ?_ | refine Zu ?_ | refine Zg ?_))
    exact ret_1 rfl rfl ⟨by rw [nm_code hc], k1⟩
  refine s_set 14 true rfl (by simp [hc]) ?_
  (repeat (first | refine k_nil ?_ | refine k_n ?_ | refine k_r ?_ | refine k_x ?_ | refine b_n ?_ | refine b_r ?_ | refine b_y rfl ?_ | refine b_z rfl ?_ | refine l_r ?_ | refine l_x ?_ | refine k_seq ?_ | refine k_blk ?_ | refine k_reg ?_ | refine k_ret ?_ | refine k_exit ?_ | refine k_skip ?_ | refine Zs ?_ | refine Zn ?_ | refine Zu ?_ | refine Zg ?_))
  by_cases hl : (Tk.allT (B s)).1.length = 2
  case neg =>
    refine s_set 19 false rfl (by simp; omega) ?_
    (repeat (first | refine k_nil ?_ | refine k_n ?_ | refine k_r ?_ | refine k_x ?_ | refine b_n ?_ | refine b_r ?_ | refine b_y rfl ?_ | refine b_z rfl ?_ | refine l_r ?_ | refine l_x ?_ | refine k_seq ?_ | refine k_blk ?_ | refine k_reg ?_ | refine k_ret ?_ | refine k_exit ?_ | refine k_skip ?_ | refine Zs ?_ | refine Zn ?_ | refine Zu ?_ | refine Zg ?_))
    exact ret_1 rfl rfl ⟨by rw [nm_len hl], k1⟩
  refine s_set 19 true rfl (by simp; omega) ?_
  obtain ⟨t0, t1, hts⟩ : ∃ t0 t1, (Tk.allT (B s)).1 = [t0, t1] := by
    match h : (Tk.allT (B s)).1, hl with
    | [t0, t1], _ => exact ⟨t0, t1, rfl⟩
  obtain ⟨b, o, rfl, hcell⟩ := hrd.at (i := 0) (t := t0) (by rw [hts]; rfl)
  have c0 : w1.cell? ⟨b, o + (0 : Int).toNat * 3, none⟩ = some (.int .i64 t0.1) := hcell w1 (Kp.refl _ _) 0 (by decide)
  have hlen2 : (((Tk.allT (B s)).1.length : Nat) : Int) = 2 := by omega
  (repeat (first | refine k_nil ?_ | refine k_n ?_ | refine k_r ?_ | refine k_x ?_ | refine b_n ?_ | refine b_r ?_ | refine b_y rfl ?_ | refine b_z rfl ?_ | refine l_r ?_ | refine l_x ?_ | refine k_seq ?_ | refine k_blk ?_ | refine k_reg ?_ | refine k_ret ?_ | refine k_exit ?_ | refine k_skip ?_ | refine Zs ?_ | refine Zn ?_ | refine Zu ?_ | refine Zg ?_))
  refine s_gv rfl (r_ia (i := 0) rfl rfl rfl rfl (by decide) (by omega)) ?_
  (repeat (first | refine k_nil ?_ | refine k_n ?_ | refine k_r ?_ | refine k_x ?_ | refine b_n ?_ | refine b_r ?_ | refine b_y rfl ?_ | refine b_z rfl ?_ | refine l_r ?_ | refine l_x ?_ | refine k_seq ?_ | refine k_blk ?_ | refine k_reg ?_ | refine k_ret ?_ | refine k_exit ?_ | refine k_skip ?_ | refine Zs ?_ | refine Zn ?_ | refine Zu ?_ | refine Zg ?_))
  by_cases h1 : t0.1 = 1
  case neg =>
    refine s_set 26 false rfl (by simp [h1]) ?_
    (repeat (first | refine k_nil ?_ | refine k_n ?_ | refine k_r ?_ | refine k_x ?_ | refine b_n ?_ | refine b_r ?_ | refine b_y rfl ?_ | refine b_z rfl ?_ | refine l_r ?_ | refine l_x ?_ | refine k_seq ?_ | refine k_blk ?_ | refine k_reg ?_ | refine k_ret ?_ | refine k_exit ?_ | refine k_skip ?_ | refine Zs ?_ | refine Zn ?_ | refine Zu ?_ | refine Zg ?_))
    exact ret_1 rfl rfl ⟨by rw [nm_of hc hts]; simp [h1], k1⟩
  refine s_set 26 true rfl (by simp [h1]) ?_
  (repeat (first | refine k_nil ?_ | refine k_n ?_ | refine k_r ?_ | refine k_x ?_ | refine b_n ?_ | refine b_r ?_ | refine b_y rfl ?_ | refine b_z rfl ?_ | refine l_r ?_ | refine l_x ?_ | refine k_seq ?_ | refine k_blk ?_ | refine k_reg ?_ | refine k_ret ?_ | refine k_exit ?_ | refine k_skip ?_ | refine Zs ?_ | refine Zn ?_ | refine Zu ?_ | refine Zg ?_))
  have c1 : w1.cell? ⟨b, o + (0 : Int).toNat * 3 + 1, none⟩ = some (.int .i64 t0.2.1) := hcell w1 (Kp.refl _ _) 1 (by decide)
  have c2 : w1.cell? ⟨b, o + (0 : Int).toNat * 3 + 1 + 1, none⟩ = some (.int .i64 t0.2.2) := hcell w1 (Kp.refl _ _) 2 (by decide)
  refine s_gv rfl (r_ia (i := 0) rfl rfl rfl rfl (by decide) (by omega)) ?_
  (repeat (first | refine k_nil ?_ | refine k_n ?_ | refine k_r ?_ | refine k_x ?_ | refine b_n ?_ | refine b_r ?_ | refine b_y rfl ?_ | refine b_z rfl ?_ | refine l_r ?_ | refine l_x ?_ | refine k_seq ?_ | refine k_blk ?_ | refine k_reg ?_ | refine k_ret ?_ | refine k_exit ?_ | refine k_skip ?_ | refine Zs ?_ | refine Zn ?_ | refine Zu ?_ | refine Zg ?_))
  by_cases h2 : t0.2.1 = 0
  case neg =>
    refine s_set 34 false rfl (by simp [h2]) ?_
    (repeat (first | refine k_nil ?_ | refine k_n ?_ | refine k_r ?_ | refine k_x ?_ | refine b_n ?_ | refine b_r ?_ | refine b_y rfl ?_ | refine b_z rfl ?_ | refine l_r ?_ | refine l_x ?_ | refine k_seq ?_ | refine k_blk ?_ | refine k_reg ?_ | refine k_ret ?_ | refine k_exit ?_ | refine k_skip ?_ | refine Zs ?_ | refine Zn ?_ | refine Zu ?_ | refine Zg ?_))
    exact ret_1 rfl rfl ⟨by rw [nm_of hc hts]; simp [h1, h2], k1⟩
  refine s_set 34 true rfl (by simp [h2]) ?_
  (repeat (first | refine k_nil ?_ | refine k_n ?_ | refine k_r ?_ | refine k_x ?_ | refine b_n ?_ | refine b_r ?_ | refine b_y rfl ?_ | refine b_z rfl ?_ | refine l_r ?_ | refine l_x ?_ | refine k_seq ?_ | refine k_blk ?_ | refine k_reg ?_ | refine k_ret ?_ | refine k_exit ?_ | refine k_skip ?_ | refine Zs ?_ | refine Zn ?_ | refine Zu ?_ | refine Zg ?_))
  refine s_gv rfl (r_ia (i := 0) rfl rfl rfl rfl (by decide) (by omega)) ?_
  (repeat (first | refine k_nil ?_ | refine k_n ?_ | refine k_r ?_ | refine k_x ?_ | refine b_n ?_ | refine b_r ?_ | refine b_y rfl ?_ | refine b_z rfl ?_ | refine l_r ?_ | refine l_x ?_ | refine k_seq ?_ | refine k_blk ?_ | refine k_reg ?_ | refine k_ret ?_ | refine k_exit ?_ | refine k_skip ?_ | refine Zs ?_ | refine Zn ?_ | refine Zu ?_ | refine Zg ?_))
  refine ret_1 rfl rfl ⟨?_, k1⟩
  rw [nm_of hc hts, B_len]
  simp [h1, h2]
theorem set_map (L : List Int) (d : Int) (x : Int) : setAt (L.map (Value.int .i64)) (0 + d.toNat * 1) [Value.int .i64 x] = (L.set d.toNat x).map (Value.int .i64) := by
  show (L.map (Value.int .i64)).set (0 + d.toNat * 1) _ = _
  rw [Nat.zero_add, Nat.mul_one, List.map_set]
theorem cell_L {m : World} {hb : Nat} {L : List Int} {T : TypeId} (h : m.heap[hb]? = some (.cells (L.map (Value.int .i64)).toArray T (0, 0))) {d y : Int} (hy : L[d.toNat]? = some y) : m.cell? ⟨hb, 0 + d.toNat * 1, none⟩ = some (.int .i64 y) :=
  cell_of_blk h (by rw [Nat.zero_add, Nat.mul_one, List.getElem?_map, hy]; rfl)
set_option maxHeartbeats 16000000 in
theorem rHeights (c : Cde) (ap al : Option Addr) (cp cl : Nat) (w : World) (hp : RP w ap c.ps) (hi : RI w al c.is) (hn : c.ps.length ≤ 1000000) (hm : c.is.length ≤ 400000) (hz : ∀ p ∈ c.ps, p.nm.size ≤ 1000000) :
    Ret Tryz.prog 16 [.agg #[.slice ap c.ps.length cp, .slice al c.is.length cl]] w fun v w1 => Kp No w w1 ∧
      ((v = .tuple #[.slice none 0 0, .bool false] ∧ ¬ Gd c) ∨ (∃ g L, v = .tuple #[.slice (some ⟨g, 0, none⟩) L.length L.length, .bool true] ∧ Hts c L ∧ w.heap.size ≤ g ∧ w1.heap[g]? = some (.cells (L.map (Value.int .i64)).toArray 3 (0, 0)))) := by
  refine ret_enter Tryz.func16 rfl Tryz.ntmps16 rfl ?_
  (repeat (first | refine k_nil ?_ | refine k_n ?_ | refine k_r ?_ | refine k_x ?_ | refine b_n ?_ | refine b_r ?_ | refine b_y rfl ?_ | refine b_z rfl ?_ | refine l_r ?_ | refine l_x ?_ | refine k_seq ?_ | refine k_blk ?_ | refine k_reg ?_ | refine k_ret ?_ | refine k_exit ?_ | refine k_skip ?_ | refine Zs ?_))
  refine s_box (cs := [.slice ap c.ps.length cp, .slice al c.is.length cl]) rfl rfl (fun b1 w1 n1 => ?_)
  have e1 := n1.blk
  have kw1 := n1.kp
  have l1 := n1.lt
  (repeat (first | refine k_nil ?_ | refine k_n ?_ | refine k_r ?_ | refine k_x ?_ | refine b_n ?_ | refine b_r ?_ | refine b_y rfl ?_ | refine b_z rfl ?_ | refine l_r ?_ | refine l_x ?_ | refine k_seq ?_ | refine k_blk ?_ | refine k_reg ?_ | refine k_ret ?_ | refine k_exit ?_ | refine k_skip ?_ | refine Zs ?_))
  refine k_loop (σ := Nat) (fun j => [(1, .pointer (some ⟨b1, 0, none⟩)), (4, .int .i64 (cum c.ps j)), (22, .int .i64 c.ps.length), (23, .int .i64 j)])
    (fun j m => j ≤ c.ps.length ∧ Kp No w1 m ∧ ∀ (q : Nat) p, q < j → c.ps[q]? = some p → fc c p (cum c.ps q)) (fun j => c.ps.length - j) 0 ⟨rfl, rfl, rfl, rfl, trivial⟩ ⟨Nat.zero_le _, Kp.refl _ _, fun q p hq => by omega⟩ ?_
  rintro j l m ⟨hj, km, hfcs⟩
  have e1m := km.get0 e1
  have kwm := kw1.no km
  (repeat (first | refine k_nil ?_ | refine k_n ?_ | refine k_r ?_ | refine k_x ?_ | refine b_n ?_ | refine b_r ?_ | refine b_y rfl ?_ | refine b_z rfl ?_ | refine l_r ?_ | refine l_x ?_ | refine k_seq ?_ | refine k_blk ?_ | refine k_reg ?_ | refine k_ret ?_ | refine k_exit ?_ | refine k_skip ?_ | refine Zs ?_))
  refine c_dec rfl (fun hlt => ?_) (fun hge => ?_)
  · obtain ⟨p, hx⟩ : ∃ p, c.ps[j]? = some p := ⟨_, List.getElem?_eq_getElem (by omega)⟩
    have hpm := List.mem_of_getElem? hx
    obtain ⟨pb, po, rfl, _, hc⟩ := (hp.kp0 kwm).at hx
    (repeat (first | refine k_nil ?_ | refine k_n ?_ | refine k_r ?_ | refine k_x ?_ | refine b_n ?_ | refine b_r ?_ | refine b_y rfl ?_ | refine b_z rfl ?_ | refine l_r ?_ | refine l_x ?_ | refine k_seq ?_ | refine k_blk ?_ | refine k_reg ?_ | refine k_ret ?_ | refine k_exit ?_ | refine k_skip ?_ | refine Zs ?_))
    refine s_v (r_ia (i := j) rfl rfl rfl rfl (by omega) (by omega)) ?_
    refine s_v (r_lda (vs := pc p) rfl rfl rfl rfl hc) ?_
    refine s_al rfl (fun b5 m1 n5 => ?_)
    have g5 := n5.ge
    refine s_st (vs := pc p) rfl rfl rfl rfl rfl n5.blk (Nat.le_of_ble_eq_true rfl) (fun m2 s2 => ?_)
    have k2m : Kp No m m2 := n5.kp.trans s2.kp (fun _ _ e => by omega)
    have e5 : m2.heap[b5]? = some (.cells [Value.string p.nm, .int .i64 p.fr, .int .i64 p.to, .int .i64 p.pa, .int .i64 p.sl, .int .i64 p.ty].toArray 57 (0, 0)) := s2.blk
    have e12 := k2m.get0 e1m
    have kw2 := kwm.no k2m
    have bad : ∀ {m' : World}, Kp No w m' → ¬ fc c p (cum c.ps j) → Kp No w m' ∧ ((Value.tuple #[.slice none 0 0, .bool false] = .tuple #[.slice none 0 0, .bool false] ∧ ¬ Gd c) ∨ (∃ g L, Value.tuple #[.slice none 0 0, .bool false] = .tuple #[.slice (some ⟨g, 0, none⟩) L.length L.length, .bool true] ∧ Hts c L ∧ w.heap.size ≤ g ∧ m'.heap[g]? = some (.cells (L.map (Value.int .i64)).toArray 3 (0, 0)))) :=
      fun k h => ⟨k, .inl ⟨rfl, fun g => h (g.1.1 j p hx)⟩⟩
    (repeat (first | refine k_nil ?_ | refine k_n ?_ | refine k_r ?_ | refine k_x ?_ | refine b_n ?_ | refine b_r ?_ | refine b_y rfl ?_ | refine b_z rfl ?_ | refine l_r ?_ | refine l_x ?_ | refine k_seq ?_ | refine k_blk ?_ | refine k_reg ?_ | refine k_ret ?_ | refine k_exit ?_ | refine k_skip ?_ | refine Zs ?_))
    by_cases q1 : p.fr = cum c.ps j
    case neg =>
      refine s_set 35 true rfl (by simpa using q1) ?_
      (repeat (first | refine k_nil ?_ | refine k_n ?_ | refine k_r ?_ | refine k_x ?_ | refine b_n ?_ | refine b_r ?_ | refine b_y rfl ?_ | refine b_z rfl ?_ | refine l_r ?_ | refine l_x ?_ | refine k_seq ?_ | refine k_blk ?_ | refine k_reg ?_ | refine k_ret ?_ | refine k_exit ?_ | refine k_skip ?_ | refine Zs ?_ | refine Zn ?_ | refine Zu ?_ | refine Zg ?_))
      refine c_t rfl ?_
      (repeat (first | refine k_nil ?_ | refine k_n ?_ | refine k_r ?_ | refine k_x ?_ | refine b_n ?_ | refine b_r ?_ | refine b_y rfl ?_ | refine b_z rfl ?_ | refine l_r ?_ | refine l_x ?_ | refine k_seq ?_ | refine k_blk ?_ | refine k_reg ?_ | refine k_ret ?_ | refine k_exit ?_ | refine k_skip ?_ | refine Zs ?_))
      exact ret_2 rfl rfl rfl (bad kw2 (fun h => q1 h.1))
    refine s_set 35 false rfl (by simpa using q1) ?_
    (repeat (first | refine k_nil ?_ | refine k_n ?_ | refine k_r ?_ | refine k_x ?_ | refine b_n ?_ | refine b_r ?_ | refine b_y rfl ?_ | refine b_z rfl ?_ | refine l_r ?_ | refine l_x ?_ | refine k_seq ?_ | refine k_blk ?_ | refine k_reg ?_ | refine k_ret ?_ | refine k_exit ?_ | refine k_skip ?_ | refine Zs ?_ | refine Zn ?_ | refine Zu ?_ | refine Zg ?_))
    by_cases q2 : p.to ≤ cum c.ps j
    · refine s_set 41 true rfl (decide_eq_true q2) ?_
      (repeat (first | refine k_nil ?_ | refine k_n ?_ | refine k_r ?_ | refine k_x ?_ | refine b_n ?_ | refine b_r ?_ | refine b_y rfl ?_ | refine b_z rfl ?_ | refine l_r ?_ | refine l_x ?_ | refine k_seq ?_ | refine k_blk ?_ | refine k_reg ?_ | refine k_ret ?_ | refine k_exit ?_ | refine k_skip ?_ | refine Zs ?_ | refine Zn ?_ | refine Zu ?_ | refine Zg ?_))
      refine c_t rfl ?_
      (repeat (first | refine k_nil ?_ | refine k_n ?_ | refine k_r ?_ | refine k_x ?_ | refine b_n ?_ | refine b_r ?_ | refine b_y rfl ?_ | refine b_z rfl ?_ | refine l_r ?_ | refine l_x ?_ | refine k_seq ?_ | refine k_blk ?_ | refine k_reg ?_ | refine k_ret ?_ | refine k_exit ?_ | refine k_skip ?_ | refine Zs ?_))
      exact ret_2 rfl rfl rfl (bad kw2 (fun h => by have := h.2.1; omega))
    refine s_set 41 false rfl (decide_eq_false q2) ?_
    (repeat (first | refine k_nil ?_ | refine k_n ?_ | refine k_r ?_ | refine k_x ?_ | refine b_n ?_ | refine b_r ?_ | refine b_y rfl ?_ | refine b_z rfl ?_ | refine l_r ?_ | refine l_x ?_ | refine k_seq ?_ | refine k_blk ?_ | refine k_reg ?_ | refine k_ret ?_ | refine k_exit ?_ | refine k_skip ?_ | refine Zs ?_ | refine Zn ?_ | refine Zu ?_ | refine Zg ?_))
    by_cases q3 : (c.is.length : Int) < p.to
    · refine s_set 49 true rfl (decide_eq_true q3) ?_
      (repeat (first | refine k_nil ?_ | refine k_n ?_ | refine k_r ?_ | refine k_x ?_ | refine b_n ?_ | refine b_r ?_ | refine b_y rfl ?_ | refine b_z rfl ?_ | refine l_r ?_ | refine l_x ?_ | refine k_seq ?_ | refine k_blk ?_ | refine k_reg ?_ | refine k_ret ?_ | refine k_exit ?_ | refine k_skip ?_ | refine Zs ?_ | refine Zn ?_ | refine Zu ?_ | refine Zg ?_))
      refine c_t rfl ?_
      (repeat (first | refine k_nil ?_ | refine k_n ?_ | refine k_r ?_ | refine k_x ?_ | refine b_n ?_ | refine b_r ?_ | refine b_y rfl ?_ | refine b_z rfl ?_ | refine l_r ?_ | refine l_x ?_ | refine k_seq ?_ | refine k_blk ?_ | refine k_reg ?_ | refine k_ret ?_ | refine k_exit ?_ | refine k_skip ?_ | refine Zs ?_))
      exact ret_2 rfl rfl rfl (bad kw2 (fun h => by have := h.2.2.1; omega))
    refine s_set 49 false rfl (decide_eq_false q3) ?_
    (repeat (first | refine k_nil ?_ | refine k_n ?_ | refine k_r ?_ | refine k_x ?_ | refine b_n ?_ | refine b_r ?_ | refine b_y rfl ?_ | refine b_z rfl ?_ | refine l_r ?_ | refine l_x ?_ | refine k_seq ?_ | refine k_blk ?_ | refine k_reg ?_ | refine k_ret ?_ | refine k_exit ?_ | refine k_skip ?_ | refine Zs ?_ | refine Zn ?_ | refine Zu ?_ | refine Zg ?_))
    by_cases q4 : p.pa < 0
    · refine s_set 54 true rfl (decide_eq_true q4) ?_
      (repeat (first | refine k_nil ?_ | refine k_n ?_ | refine k_r ?_ | refine k_x ?_ | refine b_n ?_ | refine b_r ?_ | refine b_y rfl ?_ | refine b_z rfl ?_ | refine l_r ?_ | refine l_x ?_ | refine k_seq ?_ | refine k_blk ?_ | refine k_reg ?_ | refine k_ret ?_ | refine k_exit ?_ | refine k_skip ?_ | refine Zs ?_ | refine Zn ?_ | refine Zu ?_ | refine Zg ?_))
      refine c_t rfl ?_
      (repeat (first | refine k_nil ?_ | refine k_n ?_ | refine k_r ?_ | refine k_x ?_ | refine b_n ?_ | refine b_r ?_ | refine b_y rfl ?_ | refine b_z rfl ?_ | refine l_r ?_ | refine l_x ?_ | refine k_seq ?_ | refine k_blk ?_ | refine k_reg ?_ | refine k_ret ?_ | refine k_exit ?_ | refine k_skip ?_ | refine Zs ?_))
      exact ret_2 rfl rfl rfl (bad kw2 (fun h => by have := h.2.2.2.1.1; omega))
    refine s_set 54 false rfl (decide_eq_false q4) ?_
    (repeat (first | refine k_nil ?_ | refine k_n ?_ | refine k_r ?_ | refine k_x ?_ | refine b_n ?_ | refine b_r ?_ | refine b_y rfl ?_ | refine b_z rfl ?_ | refine l_r ?_ | refine l_x ?_ | refine k_seq ?_ | refine k_blk ?_ | refine k_reg ?_ | refine k_ret ?_ | refine k_exit ?_ | refine k_skip ?_ | refine Zs ?_ | refine Zn ?_ | refine Zu ?_ | refine Zg ?_))
    by_cases q5 : p.sl < p.pa
    · refine s_set 61 true rfl (decide_eq_true q5) ?_
      (repeat (first | refine k_nil ?_ | refine k_n ?_ | refine k_r ?_ | refine k_x ?_ | refine b_n ?_ | refine b_r ?_ | refine b_y rfl ?_ | refine b_z rfl ?_ | refine l_r ?_ | refine l_x ?_ | refine k_seq ?_ | refine k_blk ?_ | refine k_reg ?_ | refine k_ret ?_ | refine k_exit ?_ | refine k_skip ?_ | refine Zs ?_ | refine Zn ?_ | refine Zu ?_ | refine Zg ?_))
      refine c_t rfl ?_
      (repeat (first | refine k_nil ?_ | refine k_n ?_ | refine k_r ?_ | refine k_x ?_ | refine b_n ?_ | refine b_r ?_ | refine b_y rfl ?_ | refine b_z rfl ?_ | refine l_r ?_ | refine l_x ?_ | refine k_seq ?_ | refine k_blk ?_ | refine k_reg ?_ | refine k_ret ?_ | refine k_exit ?_ | refine k_skip ?_ | refine Zs ?_))
      exact ret_2 rfl rfl rfl (bad kw2 (fun h => by have := h.2.2.2.1.2; omega))
    refine s_set 61 false rfl (decide_eq_false q5) ?_
    (repeat (first | refine k_nil ?_ | refine k_n ?_ | refine k_r ?_ | refine k_x ?_ | refine b_n ?_ | refine b_r ?_ | refine b_y rfl ?_ | refine b_z rfl ?_ | refine l_r ?_ | refine l_x ?_ | refine k_seq ?_ | refine k_blk ?_ | refine k_reg ?_ | refine k_ret ?_ | refine k_exit ?_ | refine k_skip ?_ | refine Zs ?_ | refine Zn ?_ | refine Zu ?_ | refine Zg ?_))
    by_cases q6 : 64 < p.sl
    · refine s_set 66 true rfl (decide_eq_true q6) ?_
      (repeat (first | refine k_nil ?_ | refine k_n ?_ | refine k_r ?_ | refine k_x ?_ | refine b_n ?_ | refine b_r ?_ | refine b_y rfl ?_ | refine b_z rfl ?_ | refine l_r ?_ | refine l_x ?_ | refine k_seq ?_ | refine k_blk ?_ | refine k_reg ?_ | refine k_ret ?_ | refine k_exit ?_ | refine k_skip ?_ | refine Zs ?_ | refine Zn ?_ | refine Zu ?_ | refine Zg ?_))
      refine c_t rfl ?_
      (repeat (first | refine k_nil ?_ | refine k_n ?_ | refine k_r ?_ | refine k_x ?_ | refine b_n ?_ | refine b_r ?_ | refine b_y rfl ?_ | refine b_z rfl ?_ | refine l_r ?_ | refine l_x ?_ | refine k_seq ?_ | refine k_blk ?_ | refine k_reg ?_ | refine k_ret ?_ | refine k_exit ?_ | refine k_skip ?_ | refine Zs ?_))
      exact ret_2 rfl rfl rfl (bad kw2 (fun h => by have := h.2.2.2.2.1; omega))
    refine s_set 66 false rfl (decide_eq_false q6) ?_
    (repeat (first | refine k_nil ?_ | refine k_n ?_ | refine k_r ?_ | refine k_x ?_ | refine b_n ?_ | refine b_r ?_ | refine b_y rfl ?_ | refine b_z rfl ?_ | refine l_r ?_ | refine l_x ?_ | refine k_seq ?_ | refine k_blk ?_ | refine k_reg ?_ | refine k_ret ?_ | refine k_exit ?_ | refine k_skip ?_ | refine Zs ?_ | refine Zn ?_ | refine Zu ?_ | refine Zg ?_))
    have hcs : cum c.ps (j + 1) = p.to := cum_succ hx
    by_cases q7 : p.ty = 1 ∨ p.ty = 4
    case neg =>
      refine s_set 70 true rfl (by simp; omega) ?_
      (repeat (first | refine k_nil ?_ | refine k_n ?_ | refine k_r ?_ | refine k_x ?_ | refine b_n ?_ | refine b_r ?_ | refine b_y rfl ?_ | refine b_z rfl ?_ | refine l_r ?_ | refine l_x ?_ | refine k_seq ?_ | refine k_blk ?_ | refine k_reg ?_ | refine k_ret ?_ | refine k_exit ?_ | refine k_skip ?_ | refine Zs ?_ | refine Zn ?_ | refine Zu ?_ | refine Zg ?_))
      refine s_set 76 true rfl (by simp; omega) ?_
      (repeat (first | refine k_nil ?_ | refine k_n ?_ | refine k_r ?_ | refine k_x ?_ | refine b_n ?_ | refine b_r ?_ | refine b_y rfl ?_ | refine b_z rfl ?_ | refine l_r ?_ | refine l_x ?_ | refine k_seq ?_ | refine k_blk ?_ | refine k_reg ?_ | refine k_ret ?_ | refine k_exit ?_ | refine k_skip ?_ | refine Zs ?_ | refine Zn ?_ | refine Zu ?_ | refine Zg ?_))
      refine c_t rfl ?_
      (repeat (first | refine k_nil ?_ | refine k_n ?_ | refine k_r ?_ | refine k_x ?_ | refine b_n ?_ | refine b_r ?_ | refine b_y rfl ?_ | refine b_z rfl ?_ | refine l_r ?_ | refine l_x ?_ | refine k_seq ?_ | refine k_blk ?_ | refine k_reg ?_ | refine k_ret ?_ | refine k_exit ?_ | refine k_skip ?_ | refine Zs ?_))
      exact ret_2 rfl rfl rfl (bad kw2 (fun h => q7 h.2.2.2.2.2.1))
    have fin : ∀ {m' : World} {l' : Slots}, nm (B p.nm) = true → fc c p (cum c.ps j) := fun h => ⟨q1, by omega, by omega, by omega, by omega, q7, h⟩
    by_cases t1 : p.ty = 1
    · refine s_set 70 false rfl (by simp [t1]) ?_
      (repeat (first | refine k_nil ?_ | refine k_n ?_ | refine k_r ?_ | refine k_x ?_ | refine b_n ?_ | refine b_r ?_ | refine b_y rfl ?_ | refine b_z rfl ?_ | refine l_r ?_ | refine l_x ?_ | refine k_seq ?_ | refine k_blk ?_ | refine k_reg ?_ | refine k_ret ?_ | refine k_exit ?_ | refine k_skip ?_ | refine Zs ?_ | refine Zn ?_ | refine Zu ?_ | refine Zg ?_))
      refine s_gcall (us := []) (zs := []) rfl (by kernel_rfl) rfl rfl (rname p.nm m2 (hz p hpm)) ?_
      rintro _ m3 ⟨rfl, k3⟩
      have e53 := k3.get0 e5
      (repeat (first | refine k_nil ?_ | refine k_n ?_ | refine k_r ?_ | refine k_x ?_ | refine b_n ?_ | refine b_r ?_ | refine b_y rfl ?_ | refine b_z rfl ?_ | refine l_r ?_ | refine l_x ?_ | refine k_seq ?_ | refine k_blk ?_ | refine k_reg ?_ | refine k_ret ?_ | refine k_exit ?_ | refine k_skip ?_ | refine Zs ?_ | refine Zn ?_ | refine Zu ?_ | refine Zg ?_))
      refine c_b rfl (fun hq => ?_) (fun hq => ?_)
      · have hnn : nm (B p.nm) = false := by simpa using hq
        (repeat (first | refine k_nil ?_ | refine k_n ?_ | refine k_r ?_ | refine k_x ?_ | refine b_n ?_ | refine b_r ?_ | refine b_y rfl ?_ | refine b_z rfl ?_ | refine l_r ?_ | refine l_x ?_ | refine k_seq ?_ | refine k_blk ?_ | refine k_reg ?_ | refine k_ret ?_ | refine k_exit ?_ | refine k_skip ?_ | refine Zs ?_))
        exact ret_2 rfl rfl rfl (bad (kw2.no k3) (fun h => by rw [h.2.2.2.2.2.2] at hnn; cases hnn))
      · have hnn : nm (B p.nm) = true := by simpa using hq
        (repeat (first | refine k_nil ?_ | refine k_n ?_ | refine k_r ?_ | refine k_x ?_ | refine b_n ?_ | refine b_r ?_ | refine b_y rfl ?_ | refine b_z rfl ?_ | refine l_r ?_ | refine l_x ?_ | refine k_seq ?_ | refine k_blk ?_ | refine k_reg ?_ | refine k_ret ?_ | refine k_exit ?_ | refine k_skip ?_ | refine Zs ?_))
        refine l_next (j + 1) ⟨rfl, by rw [hcs]; rfl, rfl, rfl, trivial⟩ ⟨by omega, (km.no k2m).no k3, fun q x hq hx2 => ?_⟩ (by omega)
        by_cases e : q = j
        · subst e; rw [hx] at hx2; cases hx2; exact fin (m' := m) (l' := l) hnn
        · exact hfcs q x (by omega) hx2
    · refine s_set 70 true rfl (by simpa using t1) ?_
      (repeat (first | refine k_nil ?_ | refine k_n ?_ | refine k_r ?_ | refine k_x ?_ | refine b_n ?_ | refine b_r ?_ | refine b_y rfl ?_ | refine b_z rfl ?_ | refine l_r ?_ | refine l_x ?_ | refine k_seq ?_ | refine k_blk ?_ | refine k_reg ?_ | refine k_ret ?_ | refine k_exit ?_ | refine k_skip ?_ | refine Zs ?_ | refine Zn ?_ | refine Zu ?_ | refine Zg ?_))
      refine s_set 76 false rfl (by simp; omega) ?_
      (repeat (first | refine k_nil ?_ | refine k_n ?_ | refine k_r ?_ | refine k_x ?_ | refine b_n ?_ | refine b_r ?_ | refine b_y rfl ?_ | refine b_z rfl ?_ | refine l_r ?_ | refine l_x ?_ | refine k_seq ?_ | refine k_blk ?_ | refine k_reg ?_ | refine k_ret ?_ | refine k_exit ?_ | refine k_skip ?_ | refine Zs ?_ | refine Zn ?_ | refine Zu ?_ | refine Zg ?_))
      refine s_gcall (us := []) (zs := []) rfl (by kernel_rfl) rfl rfl (rname p.nm m2 (hz p hpm)) ?_
      rintro _ m3 ⟨rfl, k3⟩
      have e53 := k3.get0 e5
      (repeat (first | refine k_nil ?_ | refine k_n ?_ | refine k_r ?_ | refine k_x ?_ | refine b_n ?_ | refine b_r ?_ | refine b_y rfl ?_ | refine b_z rfl ?_ | refine l_r ?_ | refine l_x ?_ | refine k_seq ?_ | refine k_blk ?_ | refine k_reg ?_ | refine k_ret ?_ | refine k_exit ?_ | refine k_skip ?_ | refine Zs ?_ | refine Zn ?_ | refine Zu ?_ | refine Zg ?_))
      refine c_b rfl (fun hq => ?_) (fun hq => ?_)
      · have hnn : nm (B p.nm) = false := by simpa using hq
        (repeat (first | refine k_nil ?_ | refine k_n ?_ | refine k_r ?_ | refine k_x ?_ | refine b_n ?_ | refine b_r ?_ | refine b_y rfl ?_ | refine b_z rfl ?_ | refine l_r ?_ | refine l_x ?_ | refine k_seq ?_ | refine k_blk ?_ | refine k_reg ?_ | refine k_ret ?_ | refine k_exit ?_ | refine k_skip ?_ | refine Zs ?_))
        exact ret_2 rfl rfl rfl (bad (kw2.no k3) (fun h => by rw [h.2.2.2.2.2.2] at hnn; cases hnn))
      · have hnn : nm (B p.nm) = true := by simpa using hq
        (repeat (first | refine k_nil ?_ | refine k_n ?_ | refine k_r ?_ | refine k_x ?_ | refine b_n ?_ | refine b_r ?_ | refine b_y rfl ?_ | refine b_z rfl ?_ | refine l_r ?_ | refine l_x ?_ | refine k_seq ?_ | refine k_blk ?_ | refine k_reg ?_ | refine k_ret ?_ | refine k_exit ?_ | refine k_skip ?_ | refine Zs ?_))
        refine l_next (j + 1) ⟨rfl, by rw [hcs]; rfl, rfl, rfl, trivial⟩ ⟨by omega, (km.no k2m).no k3, fun q x hq hx2 => ?_⟩ (by omega)
        by_cases e : q = j
        · subst e; rw [hx] at hx2; cases hx2; exact fin (m' := m) (l' := l) hnn
        · exact hfcs q x (by omega) hx2
  obtain rfl : j = c.ps.length := by omega
  have hfc : ∀ (q : Nat) p, c.ps[q]? = some p → fc c p (cum c.ps q) := fun q p hq => hfcs q p (List.getElem?_eq_some_iff.1 hq).1 hq
  have bad0 : ∀ {m' : World}, Kp No w m' → ¬ Gd c → Kp No w m' ∧ ((Value.tuple #[.slice none 0 0, .bool false] = .tuple #[.slice none 0 0, .bool false] ∧ ¬ Gd c) ∨ (∃ g L, Value.tuple #[.slice none 0 0, .bool false] = .tuple #[.slice (some ⟨g, 0, none⟩) L.length L.length, .bool true] ∧ Hts c L ∧ w.heap.size ≤ g ∧ m'.heap[g]? = some (.cells (L.map (Value.int .i64)).toArray 3 (0, 0)))) :=
    fun k h => ⟨k, .inl ⟨rfl, h⟩⟩
  (repeat (first | refine k_nil ?_ | refine k_n ?_ | refine k_r ?_ | refine k_x ?_ | refine b_n ?_ | refine b_r ?_ | refine b_y rfl ?_ | refine b_z rfl ?_ | refine l_r ?_ | refine l_x ?_ | refine k_seq ?_ | refine k_blk ?_ | refine k_reg ?_ | refine k_ret ?_ | refine k_exit ?_ | refine k_skip ?_ | refine Zs ?_))
  by_cases p0 : c.ps.length = 0
  · refine s_set 89 true rfl (by rw [p0]; rfl) ?_
    (repeat (first | refine k_nil ?_ | refine k_n ?_ | refine k_r ?_ | refine k_x ?_ | refine b_n ?_ | refine b_r ?_ | refine b_y rfl ?_ | refine b_z rfl ?_ | refine l_r ?_ | refine l_x ?_ | refine k_seq ?_ | refine k_blk ?_ | refine k_reg ?_ | refine k_ret ?_ | refine k_exit ?_ | refine k_skip ?_ | refine Zs ?_ | refine Zn ?_ | refine Zu ?_ | refine Zg ?_))
    refine c_t rfl ?_
    (repeat (first | refine k_nil ?_ | refine k_n ?_ | refine k_r ?_ | refine k_x ?_ | refine b_n ?_ | refine b_r ?_ | refine b_y rfl ?_ | refine b_z rfl ?_ | refine l_r ?_ | refine l_x ?_ | refine k_seq ?_ | refine k_blk ?_ | refine k_reg ?_ | refine k_ret ?_ | refine k_exit ?_ | refine k_skip ?_ | refine Zs ?_))
    exact ret_2 rfl rfl rfl (bad0 kwm (fun g => by have := g.1.2.2.1; omega))
  refine s_set 89 false rfl (by rw [beq_eq_false_iff_ne]; omega) ?_
  (repeat (first | refine k_nil ?_ | refine k_n ?_ | refine k_r ?_ | refine k_x ?_ | refine b_n ?_ | refine b_r ?_ | refine b_y rfl ?_ | refine b_z rfl ?_ | refine l_r ?_ | refine l_x ?_ | refine k_seq ?_ | refine k_blk ?_ | refine k_reg ?_ | refine k_ret ?_ | refine k_exit ?_ | refine k_skip ?_ | refine Zs ?_ | refine Zn ?_ | refine Zu ?_ | refine Zg ?_))
  refine c_ne rfl (fun hne => ?_) (fun hcum => ?_)
  · (repeat (first | refine k_nil ?_ | refine k_n ?_ | refine k_r ?_ | refine k_x ?_ | refine b_n ?_ | refine b_r ?_ | refine b_y rfl ?_ | refine b_z rfl ?_ | refine l_r ?_ | refine l_x ?_ | refine k_seq ?_ | refine k_blk ?_ | refine k_reg ?_ | refine k_ret ?_ | refine k_exit ?_ | refine k_skip ?_ | refine Zs ?_))
    exact ret_2 rfl rfl rfl (bad0 kwm (fun g => hne g.1.2.2.2))
  have hlen0 : 0 < c.ps.length := by omega
  have hcum : cum c.ps c.ps.length = c.is.length := hcum
  (repeat (first | refine k_nil ?_ | refine k_n ?_ | refine k_r ?_ | refine k_x ?_ | refine b_n ?_ | refine b_r ?_ | refine b_y rfl ?_ | refine b_z rfl ?_ | refine l_r ?_ | refine l_x ?_ | refine k_seq ?_ | refine k_blk ?_ | refine k_reg ?_ | refine k_ret ?_ | refine k_exit ?_ | refine k_skip ?_ | refine Zs ?_))
  refine s_ms1 (m := c.is.length) (c := c.is.length) rfl rfl rfl rfl rfl rfl rfl (Nat.le_refl _) (by show 8 * c.is.length ≤ _; omega) (by omega) (fun hb w3 n3 => ?_)
  have g3 := n3.ge
  have l3 := n3.lt
  have km3 := km.no n3.kp
  have kw3 := kw1.no km3
  have e13 := n3.kp.get0 e1m
  have zm3 := km3.size
  have hrep : List.replicate c.is.length (Value.int .i64 0) = (List.replicate c.is.length (0 : Int)).map (Value.int .i64) := by rw [List.map_replicate]
  have hb3 := n3.blk
  rw [hrep] at hb3
  have keep : ∀ {m : World}, Kp (fun k => k = hb) w3 m → Kp No w m := fun k => kw3.trans k (fun q hq e => by have e : q = hb := e; have := kw1.size; have := km.size; omega)
  (repeat (first | refine k_nil ?_ | refine k_n ?_ | refine k_r ?_ | refine k_x ?_ | refine b_n ?_ | refine b_r ?_ | refine b_y rfl ?_ | refine b_z rfl ?_ | refine l_r ?_ | refine l_x ?_ | refine k_seq ?_ | refine k_blk ?_ | refine k_reg ?_ | refine k_ret ?_ | refine k_exit ?_ | refine k_skip ?_ | refine Zs ?_))
  have hbb : b1 < hb := by have := km.size; omega
  have hwh : w.heap.size ≤ hb := by have := kw1.size; have := km.size; omega
  refine k_loop (σ := Nat × List Int) (fun s => [(1, .pointer (some ⟨b1, 0, none⟩)), (7, .slice (some ⟨hb, 0, none⟩) c.is.length c.is.length), (101, .int .i64 c.is.length), (102, .int .i64 s.1)])
    (fun s m => s.1 ≤ c.is.length ∧ Kp (fun k => k = hb) w3 m ∧ s.2.length = c.is.length ∧ m.heap[hb]? = some (.cells (s.2.map (Value.int .i64)).toArray 3 (0, 0)) ∧ ∀ (q : Nat) y, q < s.1 → s.2[q]? = some y → y = -1) (fun s => c.is.length - s.1) (0, List.replicate c.is.length (0 : Int)) ⟨rfl, rfl, rfl, rfl, trivial⟩ ⟨Nat.zero_le _, Kp.refl _ _, List.length_replicate, hb3, fun q y hq => by simp at hq⟩ ?_
  rintro ⟨j, L⟩ l m ⟨hj, km, hLl, hbm, hall⟩
  simp only at hj hLl hbm hall
  try dsimp only
  have e1m := km.get e13 (show ¬ b1 = hb by omega)
  (repeat (first | refine k_nil ?_ | refine k_n ?_ | refine k_r ?_ | refine k_x ?_ | refine b_n ?_ | refine b_r ?_ | refine b_y rfl ?_ | refine b_z rfl ?_ | refine l_r ?_ | refine l_x ?_ | refine k_seq ?_ | refine k_blk ?_ | refine k_reg ?_ | refine k_ret ?_ | refine k_exit ?_ | refine k_skip ?_ | refine Zs ?_))
  refine c_dec rfl (fun hlt => ?_) (fun hge => ?_)
  · (repeat (first | refine k_nil ?_ | refine k_n ?_ | refine k_r ?_ | refine k_x ?_ | refine b_n ?_ | refine b_r ?_ | refine b_y rfl ?_ | refine b_z rfl ?_ | refine l_r ?_ | refine l_x ?_ | refine k_seq ?_ | refine k_blk ?_ | refine k_reg ?_ | refine k_ret ?_ | refine k_exit ?_ | refine k_skip ?_ | refine Zs ?_))
    refine s_v (r_ia (i := j) rfl rfl rfl rfl (by omega) (by omega)) ?_
    refine s_st rfl rfl rfl rfl rfl hbm (by show 0 + j * 1 + 1 ≤ _; rw [List.length_map]; omega) (fun m2 s2 => ?_)
    have hb2 := s2.blk
    have hsm := set_map L (j : Int) (-1)
    have hsm : setAt (L.map (Value.int .i64)) (0 + (j : Int).toNat * 1) (cellsL (Value.int .i64 (-1))) = _ := hsm
    rw [hsm] at hb2
    (repeat (first | refine k_nil ?_ | refine k_n ?_ | refine k_r ?_ | refine k_x ?_ | refine b_n ?_ | refine b_r ?_ | refine b_y rfl ?_ | refine b_z rfl ?_ | refine l_r ?_ | refine l_x ?_ | refine k_seq ?_ | refine k_blk ?_ | refine k_reg ?_ | refine k_ret ?_ | refine k_exit ?_ | refine k_skip ?_ | refine Zs ?_))
    refine l_next (j + 1, L.set (j : Int).toNat (-1)) ⟨rfl, rfl, rfl, rfl, trivial⟩ ⟨by show j + 1 ≤ _; omega, km.trans s2.kp (fun _ _ e => e), by rw [List.length_set]; exact hLl, hb2, fun q y hq hy => ?_⟩ (by show c.is.length - (j + 1) < c.is.length - j; omega)
    have hq : q < j + 1 := hq
    have hy : (L.set (j : Int).toNat (-1))[q]? = some y := hy
    rw [Int.toNat_natCast] at hy
    by_cases e : q = j
    · subst e
      rw [List.getElem?_set_self (by omega)] at hy
      exact (Option.some.inj hy).symm
    · rw [List.getElem?_set_ne (Ne.symm e)] at hy
      exact hall q y (by omega) hy
  obtain rfl : j = c.is.length := by omega
  have hneg : ∀ (q : Nat) y, L[q]? = some y → y = -1 := fun q y hy => hall q y (by have := (List.getElem?_eq_some_iff.1 hy).1; omega) hy
  clear hall hge
  obtain ⟨L1, hL1⟩ : ∃ L1, L1 = L := ⟨_, rfl⟩
  have k3m := km
  -- what may be, in each procedure
  (repeat (first | refine k_nil ?_ | refine k_n ?_ | refine k_r ?_ | refine k_x ?_ | refine b_n ?_ | refine b_r ?_ | refine b_y rfl ?_ | refine b_z rfl ?_ | refine l_r ?_ | refine l_x ?_ | refine k_seq ?_ | refine k_blk ?_ | refine k_reg ?_ | refine k_ret ?_ | refine k_exit ?_ | refine k_skip ?_ | refine Zs ?_))
  refine k_loop (σ := Nat) (fun j => [(1, .pointer (some ⟨b1, 0, none⟩)), (7, .slice (some ⟨hb, 0, none⟩) c.is.length c.is.length), (111, .int .i64 c.ps.length), (112, .int .i64 j)])
    (fun j m' => j ≤ c.ps.length ∧ Kp No m m' ∧ ∀ (q : Nat) p, q < j → c.ps[q]? = some p → ∀ i ∈ part c p, fit c p i) (fun j => c.ps.length - j) 0 ⟨rfl, rfl, rfl, rfl, trivial⟩ ⟨Nat.zero_le _, Kp.refl _ _, fun q p hq => by omega⟩ ?_
  rintro j l m5 ⟨hj, km5, hfits⟩
  have e15 := km5.get0 (k3m.get e13 (show ¬ b1 = hb by omega))
  have kw5 := (keep k3m).no km5
  (repeat (first | refine k_nil ?_ | refine k_n ?_ | refine k_r ?_ | refine k_x ?_ | refine b_n ?_ | refine b_r ?_ | refine b_y rfl ?_ | refine b_z rfl ?_ | refine l_r ?_ | refine l_x ?_ | refine k_seq ?_ | refine k_blk ?_ | refine k_reg ?_ | refine k_ret ?_ | refine k_exit ?_ | refine k_skip ?_ | refine Zs ?_))
  refine c_dec rfl (fun hlt => ?_) (fun hge => ?_)
  · obtain ⟨p, hx⟩ : ∃ p, c.ps[j]? = some p := ⟨_, List.getElem?_eq_getElem (by omega)⟩
    have hpm := List.mem_of_getElem? hx
    obtain ⟨f1, f2, f3, _⟩ := hfc j p hx
    have h0 := cum_nn (c := c) (n := c.ps.length) (fun j p _ h => hfc j p h) j (by omega)
    obtain ⟨pb, po, rfl, _, hc⟩ := (hp.kp0 kw5).at hx
    (repeat (first | refine k_nil ?_ | refine k_n ?_ | refine k_r ?_ | refine k_x ?_ | refine b_n ?_ | refine b_r ?_ | refine b_y rfl ?_ | refine b_z rfl ?_ | refine l_r ?_ | refine l_x ?_ | refine k_seq ?_ | refine k_blk ?_ | refine k_reg ?_ | refine k_ret ?_ | refine k_exit ?_ | refine k_skip ?_ | refine Zs ?_))
    refine s_v (r_ia (i := j) rfl rfl rfl rfl (by omega) (by omega)) ?_
    refine s_v (r_lda (vs := pc p) rfl rfl rfl rfl hc) ?_
    refine s_al rfl (fun b6 m6 n6 => ?_)
    have g6 := n6.ge
    refine s_st (vs := pc p) rfl rfl rfl rfl rfl n6.blk (Nat.le_of_ble_eq_true rfl) (fun m7 s7 => ?_)
    have k57 : Kp No m5 m7 := n6.kp.trans s7.kp (fun _ _ e => by omega)
    have e7 : m7.heap[b6]? = some (.cells [Value.string p.nm, .int .i64 p.fr, .int .i64 p.to, .int .i64 p.pa, .int .i64 p.sl, .int .i64 p.ty].toArray 57 (0, 0)) := s7.blk
    have e17 := k57.get0 e15
    (repeat (first | refine k_nil ?_ | refine k_n ?_ | refine k_r ?_ | refine k_x ?_ | refine b_n ?_ | refine b_r ?_ | refine b_y rfl ?_ | refine b_z rfl ?_ | refine l_r ?_ | refine l_x ?_ | refine k_seq ?_ | refine k_blk ?_ | refine k_reg ?_ | refine k_ret ?_ | refine k_exit ?_ | refine k_skip ?_ | refine Zs ?_))
    refine k_loop (σ := Nat) (fun q => [(1, .pointer (some ⟨b1, 0, none⟩)), (7, .slice (some ⟨hb, 0, none⟩) c.is.length c.is.length), (10, .pointer (some ⟨b6, 0, none⟩)), (11, .int .i64 (p.fr + q)), (111, .int .i64 c.ps.length), (112, .int .i64 j)])
      (fun q m' => p.fr + q ≤ p.to ∧ Kp No m7 m' ∧ ∀ (k : Nat) i, k < q → c.is[p.fr.toNat + k]? = some i → fit c p i) (fun q => (p.to - p.fr).toNat - q) 0 ⟨rfl, rfl, rfl, (by rw [show p.fr + ((0 : Nat) : Int) = p.fr from by omega]; rfl), rfl, rfl, trivial⟩ ⟨by omega, Kp.refl _ _, fun k i hk => by omega⟩ ?_
    rintro q l2 m8 ⟨hq, km8, hfq⟩
    have e78 := km8.get0 e7
    have e18 := km8.get0 e17
    have kw8 := (kw5.no k57).no km8
    (repeat (first | refine k_nil ?_ | refine k_n ?_ | refine k_r ?_ | refine k_x ?_ | refine b_n ?_ | refine b_r ?_ | refine b_y rfl ?_ | refine b_z rfl ?_ | refine l_r ?_ | refine l_x ?_ | refine k_seq ?_ | refine k_blk ?_ | refine k_reg ?_ | refine k_ret ?_ | refine k_exit ?_ | refine k_skip ?_ | refine Zs ?_))
    refine c_dec rfl (fun hlt2 => ?_) (fun hge2 => ?_)
    · obtain ⟨i, hxi⟩ : ∃ i, c.is[p.fr.toNat + q]? = some i := ⟨_, List.getElem?_eq_getElem (by omega)⟩
      obtain ⟨ib, io, rfl, _, hci⟩ := (hi.kp0 kw8).at hxi
      have ecast : ((p.fr.toNat + q : Nat) : Int) = p.fr + q := by omega
      rw [ecast] at hci
      (repeat (first | refine k_nil ?_ | refine k_n ?_ | refine k_r ?_ | refine k_x ?_ | refine b_n ?_ | refine b_r ?_ | refine b_y rfl ?_ | refine b_z rfl ?_ | refine l_r ?_ | refine l_x ?_ | refine k_seq ?_ | refine k_blk ?_ | refine k_reg ?_ | refine k_ret ?_ | refine k_exit ?_ | refine k_skip ?_ | refine Zs ?_))
      refine k_h (fun w' => Kp No m8 w') [(0, false), (1, false), (2, false), (3, false), (4, false), (5, false), (6, false), (7, true), (8, false)] 9 (by kernel_rfl) (by exact waits_none) (by kernel_rfl) (by kernel_rfl) rfl rfl (fun m9 k9 _ => ?_)
      refine h_v k9 (fun w' hw => r_ldb (vs := [.slice (some ⟨pb, po, none⟩) c.ps.length cp, .slice (some ⟨ib, io, none⟩) c.is.length cl]) rfl rfl rfl (hw.get0 e18) rfl rfl) ?_
      refine h_v k9 (fun w' hw => r_ldb (vs := pc p) rfl rfl rfl (hw.get0 e78) rfl rfl) ?_
      refine h_v k9 (fun w' hw => r_fa rfl rfl) ?_
      refine h_v k9 (fun w' hw => r_ld rfl rfl (cell_of_blk (hw.get0 e18) rfl)) ?_
      refine h_v k9 (fun w' hw => r_mv rfl) ?_
      refine h_v k9 (fun w' hw => r_ia rfl rfl rfl rfl (by omega) (by omega)) ?_
      refine h_v k9 (fun w' hw => r_lda (vs := ic i) rfl rfl rfl rfl (fun k hk => by
        obtain ⟨u, hu⟩ : ∃ u, (ic i)[k]? = some u := ⟨_, List.getElem?_eq_getElem hk⟩
        have := hci k hk
        rw [hu] at this ⊢
        exact hw.cell0 this)) ?_
      refine h_call (us := []) (zs := []) (by kernel_rfl) rfl rfl (rfits c (some ⟨pb, po, none⟩) (some ⟨ib, io, none⟩) cp c.is.length cl p i m9) ?_
      rintro _ m10 ⟨rfl, k10⟩
      refine ⟨fun _ => k9.no k10, ?_⟩
      refine h_v (k9.no k10) (fun w' hw => r_not rfl) ?_
      refine h_nil ?_
      have k810 := k9.no k10
      (repeat (first | refine k_nil ?_ | refine k_n ?_ | refine k_r ?_ | refine k_x ?_ | refine b_n ?_ | refine b_r ?_ | refine b_y rfl ?_ | refine b_z rfl ?_ | refine l_r ?_ | refine l_x ?_ | refine k_seq ?_ | refine k_blk ?_ | refine k_reg ?_ | refine k_ret ?_ | refine k_exit ?_ | refine k_skip ?_ | refine Zs ?_))
      refine c_b rfl (fun hb' => ?_) (fun hb' => ?_)
      · have hnf : ¬ fit c p i := by simpa using hb'
        (repeat (first | refine k_nil ?_ | refine k_n ?_ | refine k_r ?_ | refine k_x ?_ | refine b_n ?_ | refine b_r ?_ | refine b_y rfl ?_ | refine b_z rfl ?_ | refine l_r ?_ | refine l_x ?_ | refine k_seq ?_ | refine k_blk ?_ | refine k_reg ?_ | refine k_ret ?_ | refine k_exit ?_ | refine k_skip ?_ | refine Zs ?_))
        refine ret_2 rfl rfl rfl (bad0 (kw8.no k810) (fun g => hnf (g.1.2.1 p hpm i (part_at (by omega) (by omega) f3 (j := p.fr.toNat + q) (by omega) (by omega) hxi))))
      · have hyf : fit c p i := by simpa using hb'
        (repeat (first | refine k_nil ?_ | refine k_n ?_ | refine k_r ?_ | refine k_x ?_ | refine b_n ?_ | refine b_r ?_ | refine b_y rfl ?_ | refine b_z rfl ?_ | refine l_r ?_ | refine l_x ?_ | refine k_seq ?_ | refine k_blk ?_ | refine k_reg ?_ | refine k_ret ?_ | refine k_exit ?_ | refine k_skip ?_ | refine Zs ?_))
        refine l_next (q + 1) ⟨rfl, rfl, rfl, (by rw [show p.fr + ((q + 1 : Nat) : Int) = p.fr + q + 1 from by omega]; rfl), rfl, rfl, trivial⟩ ⟨by omega, km8.no k810, fun k i' hk hi' => ?_⟩ (by omega)
        by_cases e : k = q
        · subst e; rw [hxi] at hi'; cases hi'; exact hyf
        · exact hfq k i' (by omega) hi'
    · (repeat (first | refine k_nil ?_ | refine k_n ?_ | refine k_r ?_ | refine k_x ?_ | refine b_n ?_ | refine b_r ?_ | refine b_y rfl ?_ | refine b_z rfl ?_ | refine l_r ?_ | refine l_x ?_ | refine k_seq ?_ | refine k_blk ?_ | refine k_reg ?_ | refine k_ret ?_ | refine k_exit ?_ | refine k_skip ?_ | refine Zs ?_))
      refine l_next (j + 1) ⟨rfl, rfl, rfl, rfl, trivial⟩ ⟨by omega, (km5.no k57).no km8, fun q' p' hq' hp' => ?_⟩ (by omega)
      by_cases e : q' = j
      · subst e
        rw [hx] at hp'
        cases hp'
        intro i hi'
        unfold part at hi'
        obtain ⟨k, hk⟩ := List.mem_iff_getElem?.1 hi'
        rw [List.getElem?_drop, List.getElem?_take] at hk
        split at hk
        · exact hfq k i (by omega) hk
        · cases hk
      · exact hfits q' p' (by omega) hp'
  obtain rfl : j = c.ps.length := by omega
  have hfm : form c := ⟨hfc, fun p hp i hi' => by
    obtain ⟨q, hq⟩ := List.mem_iff_getElem?.1 hp
    exact hfits q p (List.getElem?_eq_some_iff.1 hq).1 hq i hi', hlen0, hcum⟩
  have hpa : ∀ q ∈ c.ps, 0 ≤ q.pa := fun q hq => by
    obtain ⟨i, hi'⟩ := List.mem_iff_getElem?.1 hq
    exact (hfc i q hi').2.2.2.1.1
  have k35 : Kp (fun k => k = hb) w3 m5 := k3m.no km5
  have hb5 := km5.get0 hbm
  have hnB : ∀ (j : Nat) p i, c.ps[j]? = some p → ∀ k : Nat, p.fr ≤ k → (k : Int) < p.to → c.is[k]? = some i → fit c p i := fun j p i hj k h1 h2 hk => by
    obtain ⟨f1, f2, f3⟩ := form_at hfm (List.mem_of_getElem? hj)
    exact hfm.2.1 p (List.mem_of_getElem? hj) i (part_at f1 f2 f3 h1 h2 hk)
  have e15' := km5.get0 (k3m.get e13 (show ¬ b1 = hb by omega))
  -- the heights
  (repeat (first | refine k_nil ?_ | refine k_n ?_ | refine k_r ?_ | refine k_x ?_ | refine b_n ?_ | refine b_r ?_ | refine b_y rfl ?_ | refine b_z rfl ?_ | refine l_r ?_ | refine l_x ?_ | refine k_seq ?_ | refine k_blk ?_ | refine k_reg ?_ | refine k_ret ?_ | refine k_exit ?_ | refine k_skip ?_ | refine Zs ?_))
  refine k_loop (σ := Nat × List Int) (fun s => [(1, .pointer (some ⟨b1, 0, none⟩)), (7, .slice (some ⟨hb, 0, none⟩) c.is.length c.is.length), (140, .int .i64 c.ps.length), (141, .int .i64 s.1)])
    (fun s m => s.1 ≤ c.ps.length ∧ Kp (fun k => k = hb) m5 m ∧ s.2.length = c.is.length ∧ m.heap[hb]? = some (.cells (s.2.map (Value.int .i64)).toArray 3 (0, 0)) ∧ (∀ (q : Nat) p, q < s.1 → c.ps[q]? = some p → Lab c p s.2 ∧ Rg c p s.2) ∧ (∀ (k : Nat) y, cum c.ps s.1 ≤ k → s.2[k]? = some y → y = -1))
    (fun s => c.ps.length - s.1) (0, L) ⟨rfl, rfl, rfl, rfl, trivial⟩ ⟨Nat.zero_le _, Kp.refl _ _, hLl, hb5, fun q p hq => by simp at hq, fun k y _ hy => hneg k y hy⟩ ?_
  rintro ⟨j, L0⟩ l m6 ⟨hj, km6, hL0, hb6, hlab, hneg0⟩
  simp only at hj hL0 hb6 hlab hneg0
  try dsimp only
  have e16 := km6.get e15' (show ¬ b1 = hb by omega)
  have k36 : Kp (fun k => k = hb) w3 m6 := k35.trans km6 (fun _ _ e => e)
  have kw6 := keep k36
  have z6 := km6.size
  (repeat (first | refine k_nil ?_ | refine k_n ?_ | refine k_r ?_ | refine k_x ?_ | refine b_n ?_ | refine b_r ?_ | refine b_y rfl ?_ | refine b_z rfl ?_ | refine l_r ?_ | refine l_x ?_ | refine k_seq ?_ | refine k_blk ?_ | refine k_reg ?_ | refine k_ret ?_ | refine k_exit ?_ | refine k_skip ?_ | refine Zs ?_))
  refine c_dec rfl (fun hlt => ?_) (fun hge => ?_)
  rotate_left
  · obtain rfl : j = c.ps.length := by omega
    (repeat (first | refine k_nil ?_ | refine k_n ?_ | refine k_r ?_ | refine k_x ?_ | refine b_n ?_ | refine b_r ?_ | refine b_y rfl ?_ | refine b_z rfl ?_ | refine l_r ?_ | refine l_x ?_ | refine k_seq ?_ | refine k_blk ?_ | refine k_reg ?_ | refine k_ret ?_ | refine k_exit ?_ | refine k_skip ?_ | refine Zs ?_))
    refine ret_2 rfl rfl rfl ⟨kw6, .inr ⟨hb, L0, by rw [hL0], ⟨hfm, hL0, fun p hp => ?_, fun p hp => ?_⟩, hwh, hb6⟩⟩
    · obtain ⟨q, hq⟩ := List.mem_iff_getElem?.1 hp
      exact (hlab q p (List.getElem?_eq_some_iff.1 hq).1 hq).1
    · obtain ⟨q, hq⟩ := List.mem_iff_getElem?.1 hp
      exact (hlab q p (List.getElem?_eq_some_iff.1 hq).1 hq).2
  obtain ⟨p, hx⟩ : ∃ p, c.ps[j]? = some p := ⟨_, List.getElem?_eq_getElem (by omega)⟩
  have hpm := List.mem_of_getElem? hx
  obtain ⟨f1, f2, f3⟩ := form_at hfm hpm
  have hfr := (hfc j p hx).1
  obtain ⟨pb, po, rfl, _, hc⟩ := (hp.kp0 kw6).at hx
  (repeat (first | refine k_nil ?_ | refine k_n ?_ | refine k_r ?_ | refine k_x ?_ | refine b_n ?_ | refine b_r ?_ | refine b_y rfl ?_ | refine b_z rfl ?_ | refine l_r ?_ | refine l_x ?_ | refine k_seq ?_ | refine k_blk ?_ | refine k_reg ?_ | refine k_ret ?_ | refine k_exit ?_ | refine k_skip ?_ | refine Zs ?_))
  refine s_v (r_ia (i := j) rfl rfl rfl rfl (by omega) (by omega)) ?_
  refine s_v (r_lda (vs := pc p) rfl rfl rfl rfl hc) ?_
  refine s_al rfl (fun b7 m7 n7 => ?_)
  have g7 := n7.ge
  refine s_st (vs := pc p) rfl rfl rfl rfl rfl n7.blk (Nat.le_of_ble_eq_true rfl) (fun m8 s8 => ?_)
  have k68 : Kp No m6 m8 := n7.kp.trans s8.kp (fun _ _ e => by omega)
  have e8 : m8.heap[b7]? = some (.cells [Value.string p.nm, .int .i64 p.fr, .int .i64 p.to, .int .i64 p.pa, .int .i64 p.sl, .int .i64 p.ty].toArray 57 (0, 0)) := s8.blk
  have e18 := k68.get0 e16
  have hb8 := k68.get0 hb6
  have lhb := lt_of_get hb6
  have hne7 : ¬ b7 = hb := by omega
  (repeat (first | refine k_nil ?_ | refine k_n ?_ | refine k_r ?_ | refine k_x ?_ | refine b_n ?_ | refine b_r ?_ | refine b_y rfl ?_ | refine b_z rfl ?_ | refine l_r ?_ | refine l_x ?_ | refine k_seq ?_ | refine k_blk ?_ | refine k_reg ?_ | refine k_ret ?_ | refine k_exit ?_ | refine k_skip ?_ | refine Zs ?_))
  refine s_v (r_ia (i := p.fr) rfl rfl rfl rfl (by omega) (by omega)) ?_
  refine s_st rfl rfl rfl rfl rfl hb8 (by show 0 + p.fr.toNat * 1 + 1 ≤ _; rw [List.length_map]; omega) (fun m9 s9 => ?_)
  have hb9 := s9.blk
  have hsm : setAt (L0.map (Value.int .i64)) (0 + p.fr.toNat * 1) (cellsL (Value.int .i64 0)) = _ := set_map L0 p.fr 0
  rw [hsm] at hb9
  have e9 := s9.kp.get e8 hne7
  have e19 := s9.kp.get e18 (show ¬ b1 = hb by omega)
  have k69 : Kp (fun k => k = hb) m6 m9 := (k68.mono (fun _ _ e => e.elim)).trans s9.kp (fun _ _ e => e)
  have kw9 : Kp (fun k => k = hb) w3 m9 := k36.trans k69 (fun _ _ e => e)
  have hIst : Dv c p L0 (L0.set p.fr.toNat 0) := by
    have hfl : p.fr.toNat < L0.length := by omega
    refine ⟨List.length_set, fun q hq => List.getElem?_set_ne (fun e => hq (by omega)), fun q y q1 q2 hy => ?_, List.getElem?_set_self hfl⟩
    by_cases e : q = p.fr.toNat
    · subst e
      rw [List.getElem?_set_self hfl] at hy
      cases hy
      have e2 : ((p.fr.toNat : Nat) : Int) = p.fr := by omega
      exact .inr ⟨Int.le_refl _, by decide, by rw [e2]; exact Rch.start⟩
    · rw [List.getElem?_set_ne (Ne.symm e)] at hy
      exact .inl (hneg0 q y (by omega) hy)
  (repeat (first | refine k_nil ?_ | refine k_n ?_ | refine k_r ?_ | refine k_x ?_ | refine b_n ?_ | refine b_r ?_ | refine b_y rfl ?_ | refine b_z rfl ?_ | refine l_r ?_ | refine l_x ?_ | refine k_seq ?_ | refine k_blk ?_ | refine k_reg ?_ | refine k_ret ?_ | refine k_exit ?_ | refine k_skip ?_ | refine Zs ?_))
  -- again and again
  refine k_loop (σ := Bool × List Int) (fun s => [(1, .pointer (some ⟨b1, 0, none⟩)), (7, .slice (some ⟨hb, 0, none⟩) c.is.length c.is.length), (13, .pointer (some ⟨b7, 0, none⟩)), (14, .bool s.1), (140, .int .i64 c.ps.length), (141, .int .i64 j)])
    (fun s m => Kp (fun k => k = hb) m9 m ∧ m.heap[hb]? = some (.cells (s.2.map (Value.int .i64)).toArray 3 (0, 0)) ∧ Dv c p L0 s.2 ∧ (s.1 = false → ∀ (q : Nat) y, p.fr ≤ q → (q : Int) < p.to → s.2[q]? = some y → 0 ≤ y → Cld c p s.2 q y))
    (fun s => 2 * ng s.2 + (if s.1 = true then 1 else 0)) (true, L0.set p.fr.toNat 0) ⟨rfl, rfl, rfl, rfl, rfl, rfl, trivial⟩ ⟨Kp.refl _ _, hb9, hIst, fun h => by cases h⟩ ?_
  rintro ⟨b, Ls⟩ l2 m10 ⟨km10, hb10, hIs, hcl'⟩
  simp only at hb10 hIs hcl'
  try dsimp only
  have e110 := km10.get e19 (show ¬ b1 = hb by omega)
  have e10 := km10.get e9 hne7
  have kw10 : Kp (fun k => k = hb) w3 m10 := kw9.trans km10 (fun _ _ e => e)
  (repeat (first | refine k_nil ?_ | refine k_n ?_ | refine k_r ?_ | refine k_x ?_ | refine b_n ?_ | refine b_r ?_ | refine b_y rfl ?_ | refine b_z rfl ?_ | refine l_r ?_ | refine l_x ?_ | refine k_seq ?_ | refine k_blk ?_ | refine k_reg ?_ | refine k_ret ?_ | refine k_exit ?_ | refine k_skip ?_ | refine Zs ?_))
  cases b with
  | false =>
    refine c_f rfl ?_
    (repeat (first | refine k_nil ?_ | refine k_n ?_ | refine k_r ?_ | refine k_x ?_ | refine b_n ?_ | refine b_r ?_ | refine b_y rfl ?_ | refine b_z rfl ?_ | refine l_r ?_ | refine l_x ?_ | refine k_seq ?_ | refine k_blk ?_ | refine k_reg ?_ | refine k_ret ?_ | refine k_exit ?_ | refine k_skip ?_ | refine Zs ?_))
    have hl := hIs.lab (hcl' rfl)
    refine l_next (j + 1, Ls) ⟨rfl, rfl, rfl, rfl, trivial⟩ ⟨by show j + 1 ≤ _; omega, (km6.trans k69 (fun _ _ e => e)).trans km10 (fun _ _ e => e), hIs.len.trans hL0, hb10, fun q x hq hx2 => ?_, fun k y hk hy => ?_⟩ (by show c.ps.length - (j + 1) < c.ps.length - j; omega)
    · by_cases e : q = j
      · subst e
        rw [hx] at hx2
        cases hx2
        exact ⟨hl, hIs.rch⟩
      · obtain ⟨l1, l2⟩ := hlab q x (by have : q < j + 1 := hq; omega) hx2
        obtain ⟨x1, x2, x3⟩ := form_at hfm (List.mem_of_getElem? hx2)
        have hle : x.to ≤ p.fr := by
          have := cum_le hfc (q := q + 1) (j := j) (by have : q < j + 1 := hq; omega) (by omega)
          rw [cum_succ hx2] at this
          omega
        have hcg : ∀ k : Nat, x.fr ≤ k → (k : Int) < x.to → Ls[k]? = L0[k]? := fun k q1 q2 => hIs.out k (by omega)
        exact ⟨l1.cong x1 x2 hcg, l2.cong hcg⟩
    · have hk : cum c.ps (j + 1) ≤ k := hk
      have hy : Ls[k]? = some y := hy
      rw [cum_succ hx] at hk
      rw [hIs.out k (by omega)] at hy
      exact hneg0 k y (by omega) hy
  | true =>
  refine c_t rfl ?_
  (repeat (first | refine k_nil ?_ | refine k_n ?_ | refine k_r ?_ | refine k_x ?_ | refine b_n ?_ | refine b_r ?_ | refine b_y rfl ?_ | refine b_z rfl ?_ | refine l_r ?_ | refine l_x ?_ | refine k_seq ?_ | refine k_blk ?_ | refine k_reg ?_ | refine k_ret ?_ | refine k_exit ?_ | refine k_skip ?_ | refine Zs ?_))
  -- one round
  refine k_loop (σ := Nat × Bool × List Int) (fun s => [(1, .pointer (some ⟨b1, 0, none⟩)), (7, .slice (some ⟨hb, 0, none⟩) c.is.length c.is.length), (13, .pointer (some ⟨b7, 0, none⟩)), (14, .bool s.2.1), (15, .int .i64 (p.fr + s.1)), (140, .int .i64 c.ps.length), (141, .int .i64 j)])
    (fun s m => p.fr + s.1 ≤ p.to ∧ Kp (fun k => k = hb) m10 m ∧ m.heap[hb]? = some (.cells (s.2.2.map (Value.int .i64)).toArray 3 (0, 0)) ∧ Dv c p L0 s.2.2 ∧ ng s.2.2 ≤ ng Ls ∧ (s.2.1 = true → ng s.2.2 < ng Ls) ∧
      (s.2.1 = false → s.2.2 = Ls ∧ ∀ (q : Nat) y, p.fr ≤ q → (q : Int) < p.fr + s.1 → Ls[q]? = some y → 0 ≤ y → Cld c p Ls q y))
    (fun s => (p.to - p.fr).toNat - s.1) (0, false, Ls) ⟨rfl, rfl, rfl, rfl, (by rw [show p.fr + ((0 : Nat) : Int) = p.fr from by omega]; rfl), rfl, rfl, trivial⟩ ⟨by show p.fr + ((0 : Nat) : Int) ≤ p.to; omega, Kp.refl _ _, hb10, hIs, Nat.le_refl _, fun h => (by cases h), fun _ => ⟨rfl, fun q y h1 h2 => (by have h2 : (q : Int) < p.fr + ((0 : Nat) : Int) := h2; omega)⟩⟩ ?_
  rintro ⟨q, b, L2⟩ l3 m11 ⟨hq, km11, hb11, hI2, hng, hngt, hfal⟩
  simp only at hq hb11 hI2 hng hngt hfal
  try dsimp only
  have e111 := km11.get e110 (show ¬ b1 = hb by omega)
  have e11 := km11.get e10 hne7
  have kw11 : Kp (fun k => k = hb) w3 m11 := kw10.trans km11 (fun _ _ e => e)
  (repeat (first | refine k_nil ?_ | refine k_n ?_ | refine k_r ?_ | refine k_x ?_ | refine b_n ?_ | refine b_r ?_ | refine b_y rfl ?_ | refine b_z rfl ?_ | refine l_r ?_ | refine l_x ?_ | refine k_seq ?_ | refine k_blk ?_ | refine k_reg ?_ | refine k_ret ?_ | refine k_exit ?_ | refine k_skip ?_ | refine Zs ?_))
  refine c_dec rfl (fun hlt2 => ?_) (fun hge2 => ?_)
  rotate_left
  · (repeat (first | refine k_nil ?_ | refine k_n ?_ | refine k_r ?_ | refine k_x ?_ | refine b_n ?_ | refine b_r ?_ | refine b_y rfl ?_ | refine b_z rfl ?_ | refine l_r ?_ | refine l_x ?_ | refine k_seq ?_ | refine k_blk ?_ | refine k_reg ?_ | refine k_ret ?_ | refine k_exit ?_ | refine k_skip ?_ | refine Zs ?_))
    refine l_next (b, L2) ⟨rfl, rfl, rfl, rfl, rfl, rfl, trivial⟩ ⟨km10.trans km11 (fun _ _ e => e), hb11, hI2, fun h => ?_⟩ ?_
    · obtain ⟨h1, h2⟩ := hfal h
      show ∀ (q : Nat) y, _ → _ → L2[q]? = some y → _ → Cld c p L2 q y
      rw [h1]
      intro k y k1 k2 hy hy0
      exact h2 k y k1 (by omega) hy hy0
    · show 2 * ng L2 + (if b = true then 1 else 0) < 2 * ng Ls + (if true = true then 1 else 0)
      cases b with
      | true => have := hngt rfl; simp; omega
      | false => simp; omega
  obtain ⟨i, hxi⟩ : ∃ i, c.is[p.fr.toNat + q]? = some i := ⟨_, List.getElem?_eq_getElem (by omega)⟩
  have ecast : ((p.fr.toNat + q : Nat) : Int) = p.fr + q := by omega
  have etn : (p.fr + q : Int).toNat = p.fr.toNat + q := by omega
  have hfit := hnB j p i hx (p.fr.toNat + q) (by omega) (by omega) hxi
  have heff := eff_range hfit hpa
  have hLl2 : L2.length = c.is.length := hI2.len.trans hL0
  obtain ⟨h, hh⟩ : ∃ h, L2[p.fr.toNat + q]? = some h := ⟨_, List.getElem?_eq_getElem (by omega)⟩
  have hcell := cell_L hb11 (d := p.fr + q) (y := h) (by rw [etn]; exact hh)
  (repeat (first | refine k_nil ?_ | refine k_n ?_ | refine k_r ?_ | refine k_x ?_ | refine b_n ?_ | refine b_r ?_ | refine b_y rfl ?_ | refine b_z rfl ?_ | refine l_r ?_ | refine l_x ?_ | refine k_seq ?_ | refine k_blk ?_ | refine k_reg ?_ | refine k_ret ?_ | refine k_exit ?_ | refine k_skip ?_ | refine Zs ?_))
  refine s_v (r_ia (i := p.fr + q) rfl rfl rfl rfl (by omega) (by omega)) ?_
  (repeat (first | refine k_nil ?_ | refine k_n ?_ | refine k_r ?_ | refine k_x ?_ | refine b_n ?_ | refine b_r ?_ | refine b_y rfl ?_ | refine b_z rfl ?_ | refine l_r ?_ | refine l_x ?_ | refine k_seq ?_ | refine k_blk ?_ | refine k_reg ?_ | refine k_ret ?_ | refine k_exit ?_ | refine k_skip ?_ | refine Zs ?_))
  refine c_dec rfl (fun hneg' => ?_) (fun hpos => ?_)
  · (repeat (first | refine k_nil ?_ | refine k_n ?_ | refine k_r ?_ | refine k_x ?_ | refine b_n ?_ | refine b_r ?_ | refine b_y rfl ?_ | refine b_z rfl ?_ | refine l_r ?_ | refine l_x ?_ | refine k_seq ?_ | refine k_blk ?_ | refine k_reg ?_ | refine k_ret ?_ | refine k_exit ?_ | refine k_skip ?_ | refine Zs ?_))
    refine l_next (q + 1, b, L2) ⟨rfl, rfl, rfl, rfl, (by rw [show p.fr + ((q + 1 : Nat) : Int) = p.fr + q + 1 from by omega]; rfl), rfl, rfl, trivial⟩ ⟨by show p.fr + ((q + 1 : Nat) : Int) ≤ _; omega, km11, hb11, hI2, hng, hngt, fun hf => ?_⟩ (by show (p.to - p.fr).toNat - (q + 1) < (p.to - p.fr).toNat - q; omega)
    obtain ⟨h1, h2⟩ := hfal hf
    refine ⟨h1, fun k y k1 k2 hy hy0 => ?_⟩
    by_cases e : k = p.fr.toNat + q
    · subst e
      have hy : Ls[p.fr.toNat + q]? = some y := hy
      rw [← h1, hh] at hy
      cases hy; omega
    · have k2 : (k : Int) < p.fr + ((q + 1 : Nat) : Int) := k2
      exact h2 k y k1 (by omega) hy hy0
  have hh0 : 0 ≤ h := by omega
  have hrch : 0 ≤ h ∧ h ≤ 200 ∧ Rch c p (p.fr + q) h := by
    rcases hI2.rch (p.fr.toNat + q) h (by omega) (by omega) hh with e | e
    · omega
    · rw [ecast] at e; exact e
  obtain ⟨ib, io, rfl, _, hci⟩ := (hi.kp0 (keep kw11)).at hxi
  rw [ecast] at hci
  have hicell : ∀ {m' : World}, Kp No m11 m' → ∀ k, k < 3 → m'.cell? ⟨ib, io + (p.fr + q : Int).toNat * 3 + k, none⟩ = (ic i)[k]? := fun k' k hk => by
    obtain ⟨u, hu⟩ : ∃ u, (ic i)[k]? = some u := ⟨_, List.getElem?_eq_getElem hk⟩
    have := hci k hk
    rw [hu] at this ⊢
    exact k'.cell0 this
  have h26 : i.op = 26 → 0 ≤ i.arg ∧ i.arg < c.ps.length := fun e => by
    have := (fA5 (c := c) (p := p) (i := i) (by rw [e]; rfl)).1 hfit.2.1
    omega
  (repeat (first | refine k_nil ?_ | refine k_n ?_ | refine k_r ?_ | refine k_x ?_ | refine b_n ?_ | refine b_r ?_ | refine b_y rfl ?_ | refine b_z rfl ?_ | refine l_r ?_ | refine l_x ?_ | refine k_seq ?_ | refine k_blk ?_ | refine k_reg ?_ | refine k_ret ?_ | refine k_exit ?_ | refine k_skip ?_ | refine Zs ?_))
  refine k_h (fun w' => Kp No m11 w') [(0, false), (1, false), (2, false), (3, false), (4, false), (5, false), (6, false), (7, false), (8, false), (9, false), (10, true), (11, false)] 12 (by kernel_rfl) (by exact waits_none) (by kernel_rfl) (by kernel_rfl) rfl rfl (fun m12 k12 _ => ?_)
  refine h_v k12 (fun w' hw => r_mv rfl) ?_
  refine h_v k12 (fun w' hw => r_mv rfl) ?_
  refine h_v k12 (fun w' hw => r_ia rfl rfl rfl rfl (by omega) (by omega)) ?_
  refine h_v k12 (fun w' hw => r_ld rfl rfl (hw.cell0 hcell)) ?_
  refine h_v k12 (fun w' hw => r_ldb (vs := [.slice (some ⟨pb, po, none⟩) c.ps.length cp, .slice (some ⟨ib, io, none⟩) c.is.length cl]) rfl rfl rfl (hw.get0 e111) rfl rfl) ?_
  refine h_v k12 (fun w' hw => r_fa rfl rfl) ?_
  refine h_v k12 (fun w' hw => r_ld rfl rfl (cell_of_blk (hw.get0 e111) rfl)) ?_
  refine h_v k12 (fun w' hw => r_mv rfl) ?_
  refine h_v k12 (fun w' hw => r_ia rfl rfl rfl rfl (by omega) (by omega)) ?_
  refine h_v k12 (fun w' hw => r_lda (vs := ic i) rfl rfl rfl rfl (hicell hw)) ?_
  refine h_call (us := []) (zs := []) (by kernel_rfl) rfl rfl (rtakes c (some ⟨pb, po, none⟩) (some ⟨ib, io, none⟩) cp c.is.length cl i m12 (hp.kp0 ((keep kw11).no k12)) hfit.1 h26) ?_
  rintro _ m13 ⟨rfl, k13⟩
  refine ⟨fun _ => k12.no k13, ?_⟩
  refine h_v (k12.no k13) (fun w' hw => r_bin rfl) ?_
  refine h_nil ?_
  have k113 := k12.no k13
  (repeat (first | refine k_nil ?_ | refine k_n ?_ | refine k_r ?_ | refine k_x ?_ | refine b_n ?_ | refine b_r ?_ | refine b_y rfl ?_ | refine b_z rfl ?_ | refine l_r ?_ | refine l_x ?_ | refine k_seq ?_ | refine k_blk ?_ | refine k_reg ?_ | refine k_ret ?_ | refine k_exit ?_ | refine k_skip ?_ | refine Zs ?_))
  refine c_dec rfl (fun htk => ?_) (fun htk => ?_)
  · (repeat (first | refine k_nil ?_ | refine k_n ?_ | refine k_r ?_ | refine k_x ?_ | refine b_n ?_ | refine b_r ?_ | refine b_y rfl ?_ | refine b_z rfl ?_ | refine l_r ?_ | refine l_x ?_ | refine k_seq ?_ | refine k_blk ?_ | refine k_reg ?_ | refine k_ret ?_ | refine k_exit ?_ | refine k_skip ?_ | refine Zs ?_))
    exact ret_2 rfl rfl rfl (bad0 ((keep kw11).no k113) (fun g => g.2 p hpm ⟨p.fr + q, h, hrch.2.2, .inr (.inr (.inr ⟨i, by rw [etn]; exact hxi, by omega⟩))⟩))
  have e113 := k113.get0 e111
  have hb13 := k113.get0 hb11
  have e13' := k113.get0 e11
  have hcell13 := k113.cell0 hcell
  have kw13 := kw11.no k113
  (repeat (first | refine k_nil ?_ | refine k_n ?_ | refine k_r ?_ | refine k_x ?_ | refine b_n ?_ | refine b_r ?_ | refine b_y rfl ?_ | refine b_z rfl ?_ | refine l_r ?_ | refine l_x ?_ | refine k_seq ?_ | refine k_blk ?_ | refine k_reg ?_ | refine k_ret ?_ | refine k_exit ?_ | refine k_skip ?_ | refine Zs ?_))
  refine k_h (fun w' => Kp No m13 w') [(0, false), (1, false), (2, false), (3, false), (4, false), (5, false), (6, true), (7, false)] 8 (by kernel_rfl) (by exact waits_none) (by kernel_rfl) (by kernel_rfl) rfl rfl (fun m14 k14 _ => ?_)
  refine h_v k14 (fun w' hw => r_ldb (vs := [.slice (some ⟨pb, po, none⟩) c.ps.length cp, .slice (some ⟨ib, io, none⟩) c.is.length cl]) rfl rfl rfl (hw.get0 e113) rfl rfl) ?_
  refine h_v k14 (fun w' hw => r_mv rfl) ?_
  refine h_v k14 (fun w' hw => r_mv rfl) ?_
  refine h_v k14 (fun w' hw => r_mv rfl) ?_
  refine h_v k14 (fun w' hw => r_ia rfl rfl rfl rfl (by omega) (by omega)) ?_
  refine h_v k14 (fun w' hw => r_ld rfl rfl (hw.cell0 hcell13)) ?_
  have haf := rafter c (some ⟨pb, po, none⟩) (some ⟨ib, io, none⟩) cp cl (p.fr.toNat + q) h i p m14 (hp.kp0 ((keep kw13).no k14)) (hi.kp0 ((keep kw13).no k14)) hxi hfit hm ⟨hrch.1, hrch.2.1⟩ (by omega) heff
  rw [ecast] at haf
  refine h_call (us := []) (zs := []) (by kernel_rfl) rfl rfl haf ?_
  rintro _ m15 ⟨⟨ra, rc, rfl, hRA, hge15⟩, k15⟩
  refine ⟨fun _ => k14.no k15, ?_⟩
  refine h_v (k14.no k15) (fun w' hw => r_as rfl) ?_
  refine h_nil ?_
  obtain ⟨ws, hws⟩ : ∃ ws, ws = aft c i (p.fr + q) h := ⟨_, rfl⟩
  rw [← hws] at hRA ⊢
  have hwl : ws.length ≤ 2 := by rw [hws]; unfold aft; split <;> (try split) <;> (try split) <;> (try split) <;> simp
  have hRAne : ∀ b' o', ra = some ⟨b', o', none⟩ → ¬ b' = hb := fun b' o' e => by
    have := hge15 b' o' e
    have := lt_of_get (k14.get0 hb13)
    omega
  have k1315 := k14.no k15
  have e115 := k1315.get0 e113
  have hb15 := k1315.get0 hb13
  have e15'' := k1315.get0 e13'
  have kw15 := kw13.no k1315
  have k1115 := k113.no k1315
  (repeat (first | refine k_nil ?_ | refine k_n ?_ | refine k_r ?_ | refine k_x ?_ | refine b_n ?_ | refine b_r ?_ | refine b_y rfl ?_ | refine b_z rfl ?_ | refine l_r ?_ | refine l_x ?_ | refine k_seq ?_ | refine k_blk ?_ | refine k_reg ?_ | refine k_ret ?_ | refine k_exit ?_ | refine k_skip ?_ | refine Zs ?_))
  -- where it leads
  refine k_loop (σ := Nat × Bool × List Int) (fun s => [(1, .pointer (some ⟨b1, 0, none⟩)), (7, .slice (some ⟨hb, 0, none⟩) c.is.length c.is.length), (13, .pointer (some ⟨b7, 0, none⟩)), (14, .bool s.2.1), (15, .int .i64 (p.fr + q)), (16, .slice ra ws.length rc), (140, .int .i64 c.ps.length), (141, .int .i64 j), (187, .int .i64 ws.length), (188, .int .i64 s.1)])
    (fun s m => s.1 ≤ ws.length ∧ Kp (fun k => k = hb) m15 m ∧ m.heap[hb]? = some (.cells (s.2.2.map (Value.int .i64)).toArray 3 (0, 0)) ∧ Dv c p L0 s.2.2 ∧ Grow L2 s.2.2 ∧ ng s.2.2 ≤ ng Ls ∧ (s.2.1 = true → ng s.2.2 < ng Ls) ∧ (s.2.1 = false → b = false ∧ s.2.2 = L2) ∧
      (∀ (k : Nat) d x, k < s.1 → ws[k]? = some (d, x) → p.fr ≤ d ∧ d < p.to ∧ 0 ≤ x ∧ x ≤ 200 ∧ s.2.2[d.toNat]? = some x))
    (fun s => ws.length - s.1) (0, b, L2) ⟨rfl, rfl, rfl, rfl, rfl, rfl, rfl, rfl, rfl, rfl, trivial⟩ ⟨Nat.zero_le _, Kp.refl _ _, hb15, hI2, Grow.refl _, hng, hngt, fun h => ⟨h, rfl⟩, fun k d x hk => by simp at hk⟩ ?_
  rintro ⟨k, b', L3⟩ l4 m16 ⟨hk, km16, hb16, hI3, hgr, hng3, hngt3, hfal3, htg⟩
  simp only at hk hb16 hI3 hgr hng3 hngt3 hfal3 htg
  try dsimp only
  have e116 := km16.get e115 (show ¬ b1 = hb by omega)
  have e16' := km16.get e15'' hne7
  have kw16 : Kp (fun k => k = hb) w3 m16 := kw15.trans km16 (fun _ _ e => e)
  have hLl3 : L3.length = c.is.length := hI3.len.trans hL0
  (repeat (first | refine k_nil ?_ | refine k_n ?_ | refine k_r ?_ | refine k_x ?_ | refine b_n ?_ | refine b_r ?_ | refine b_y rfl ?_ | refine b_z rfl ?_ | refine l_r ?_ | refine l_x ?_ | refine k_seq ?_ | refine k_blk ?_ | refine k_reg ?_ | refine k_ret ?_ | refine k_exit ?_ | refine k_skip ?_ | refine Zs ?_))
  refine c_dec rfl (fun hlt3 => ?_) (fun hge3 => ?_)
  rotate_left
  · (repeat (first | refine k_nil ?_ | refine k_n ?_ | refine k_r ?_ | refine k_x ?_ | refine b_n ?_ | refine b_r ?_ | refine b_y rfl ?_ | refine b_z rfl ?_ | refine l_r ?_ | refine l_x ?_ | refine k_seq ?_ | refine k_blk ?_ | refine k_reg ?_ | refine k_ret ?_ | refine k_exit ?_ | refine k_skip ?_ | refine Zs ?_))
    refine l_next (q + 1, b', L3) ⟨rfl, rfl, rfl, rfl, (by rw [show p.fr + ((q + 1 : Nat) : Int) = p.fr + q + 1 from by omega]; rfl), rfl, rfl, trivial⟩ ⟨by show p.fr + ((q + 1 : Nat) : Int) ≤ _; omega, (km11.no k1115).trans km16 (fun _ _ e => e), hb16, hI3, hng3, hngt3, fun hf => ?_⟩ (by show (p.to - p.fr).toNat - (q + 1) < (p.to - p.fr).toNat - q; omega)
    obtain ⟨h1, h2⟩ := hfal3 hf
    obtain ⟨h3, h4⟩ := hfal h1
    have hL3 : L3 = Ls := h2.trans h3
    refine ⟨hL3, fun x y x1 x2 hy hy0 => ?_⟩
    by_cases e : x = p.fr.toNat + q
    · subst e
      have hy : Ls[p.fr.toNat + q]? = some y := hy
      rw [← h3, hh] at hy
      cases hy
      intro i' hi'
      rw [hxi] at hi'
      cases hi'
      refine ⟨by omega, fun d x hm => ?_⟩
      rw [ecast, ← hws] at hm
      obtain ⟨n, hn⟩ := List.mem_iff_getElem?.1 hm
      have := htg n d x (by have := (List.getElem?_eq_some_iff.1 hn).1; omega) hn
      rw [hL3] at this
      exact this
    · have x2 : (x : Int) < p.fr + ((q + 1 : Nat) : Int) := x2
      exact h4 x y x1 (by omega) hy hy0
  obtain ⟨⟨d, x⟩, hwk⟩ : ∃ t, ws[k]? = some t := ⟨_, List.getElem?_eq_getElem (by omega)⟩
  have hmem : (d, x) ∈ aft c i (p.fr + q) h := by rw [← hws]; exact List.mem_of_getElem? hwk
  obtain ⟨hd0, hx0⟩ := aft_lo hfit (by omega) (by omega) ⟨heff.1, heff.2.1⟩ hmem
  have hrd : Rch c p d x := Rch.step hrch.2.2 (by rw [etn]; exact hxi) (by omega) hmem
  have hreach := hI3.reach f1 hrd hd0 hx0
  rcases hRA with e | ⟨rb, ro, rfl, hrlt, hrc⟩
  · rw [e] at hwk; simp at hwk
  have hrne := hRAne rb ro rfl
  obtain ⟨c1, c2⟩ := hrc k (d, x) hwk
  have c1 := km16.cell c1 hrne
  have c2 := km16.cell c2 hrne
  have hk0 : (k : Int).toNat = k := Int.toNat_natCast k
  (repeat (first | refine k_nil ?_ | refine k_n ?_ | refine k_r ?_ | refine k_x ?_ | refine b_n ?_ | refine b_r ?_ | refine b_y rfl ?_ | refine b_z rfl ?_ | refine l_r ?_ | refine l_x ?_ | refine k_seq ?_ | refine k_blk ?_ | refine k_reg ?_ | refine k_ret ?_ | refine k_exit ?_ | refine k_skip ?_ | refine Zs ?_))
  refine k_q (by kernel_rfl) (by kernel_rfl) ?_
  (repeat (first | refine Zq ?_ | refine Zqn ?_ | refine Zqu ?_ | refine Zqg ?_))
  refine q_v (fun w' hw => r_iaa rfl rfl rfl rfl (by decide) (by decide)) ?_
  refine q_v (fun w' hw => r_ld rfl rfl (hw.cell0 (v := .int .i64 d) (by show m16.cell? ⟨rb, ro + (k : Int).toNat * 2 + 0, none⟩ = _; exact c1))) ?_
  (repeat (first | refine Zq ?_ | refine Zqn ?_ | refine Zqu ?_ | refine Zqg ?_))
  refine q_v (fun w' hw => r_iaa rfl rfl rfl rfl (by decide) (by decide)) ?_
  refine q_v (fun w' hw => r_ld rfl rfl (hw.cell0 (v := .int .i64 x) (by show m16.cell? ⟨rb, ro + (k : Int).toNat * 2 + 1, none⟩ = _; exact c2))) ?_
  (repeat (first | refine Zq ?_ | refine Zqn ?_ | refine Zqu ?_ | refine Zqg ?_))
  refine q_nil (fun m17 k17 => ?_)
  have hb17 := k17.get0 hb16
  have e117 := k17.get0 e116
  have e17' := k17.get0 e16'
  have kw17 := kw16.no k17
  have km17 := km16.no k17
  (repeat (first | refine k_nil ?_ | refine k_n ?_ | refine k_r ?_ | refine k_x ?_ | refine b_n ?_ | refine b_r ?_ | refine b_y rfl ?_ | refine b_z rfl ?_ | refine l_r ?_ | refine l_x ?_ | refine k_seq ?_ | refine k_blk ?_ | refine k_reg ?_ | refine k_ret ?_ | refine k_exit ?_ | refine k_skip ?_ | refine Zs ?_))
  by_cases r1 : p.to ≤ d
  · refine s_set 205 true rfl (decide_eq_true r1) ?_
    (repeat (first | refine k_nil ?_ | refine k_n ?_ | refine k_r ?_ | refine k_x ?_ | refine b_n ?_ | refine b_r ?_ | refine b_y rfl ?_ | refine b_z rfl ?_ | refine l_r ?_ | refine l_x ?_ | refine k_seq ?_ | refine k_blk ?_ | refine k_reg ?_ | refine k_ret ?_ | refine k_exit ?_ | refine k_skip ?_ | refine Zs ?_ | refine Zn ?_ | refine Zu ?_ | refine Zg ?_))
    refine c_t rfl ?_
    (repeat (first | refine k_nil ?_ | refine k_n ?_ | refine k_r ?_ | refine k_x ?_ | refine b_n ?_ | refine b_r ?_ | refine b_y rfl ?_ | refine b_z rfl ?_ | refine l_r ?_ | refine l_x ?_ | refine k_seq ?_ | refine k_blk ?_ | refine k_reg ?_ | refine k_ret ?_ | refine k_exit ?_ | refine k_skip ?_ | refine Zs ?_))
    exact ret_2 rfl rfl rfl (bad0 (keep kw17) (fun g => g.2 p hpm (hreach.1 (.inl r1))))
  refine s_set 205 false rfl (decide_eq_false r1) ?_
  (repeat (first | refine k_nil ?_ | refine k_n ?_ | refine k_r ?_ | refine k_x ?_ | refine b_n ?_ | refine b_r ?_ | refine b_y rfl ?_ | refine b_z rfl ?_ | refine l_r ?_ | refine l_x ?_ | refine k_seq ?_ | refine k_blk ?_ | refine k_reg ?_ | refine k_ret ?_ | refine k_exit ?_ | refine k_skip ?_ | refine Zs ?_ | refine Zn ?_ | refine Zu ?_ | refine Zg ?_))
  by_cases r2 : 200 < x
  · refine s_set 209 true rfl (decide_eq_true r2) ?_
    (repeat (first | refine k_nil ?_ | refine k_n ?_ | refine k_r ?_ | refine k_x ?_ | refine b_n ?_ | refine b_r ?_ | refine b_y rfl ?_ | refine b_z rfl ?_ | refine l_r ?_ | refine l_x ?_ | refine k_seq ?_ | refine k_blk ?_ | refine k_reg ?_ | refine k_ret ?_ | refine k_exit ?_ | refine k_skip ?_ | refine Zs ?_ | refine Zn ?_ | refine Zu ?_ | refine Zg ?_))
    refine c_t rfl ?_
    (repeat (first | refine k_nil ?_ | refine k_n ?_ | refine k_r ?_ | refine k_x ?_ | refine b_n ?_ | refine b_r ?_ | refine b_y rfl ?_ | refine b_z rfl ?_ | refine l_r ?_ | refine l_x ?_ | refine k_seq ?_ | refine k_blk ?_ | refine k_reg ?_ | refine k_ret ?_ | refine k_exit ?_ | refine k_skip ?_ | refine Zs ?_))
    exact ret_2 rfl rfl rfl (bad0 (keep kw17) (fun g => g.2 p hpm (hreach.1 (.inr r2))))
  refine s_set 209 false rfl (decide_eq_false r2) ?_
  (repeat (first | refine k_nil ?_ | refine k_n ?_ | refine k_r ?_ | refine k_x ?_ | refine b_n ?_ | refine b_r ?_ | refine b_y rfl ?_ | refine b_z rfl ?_ | refine l_r ?_ | refine l_x ?_ | refine k_seq ?_ | refine k_blk ?_ | refine k_reg ?_ | refine k_ret ?_ | refine k_exit ?_ | refine k_skip ?_ | refine Zs ?_ | refine Zn ?_ | refine Zu ?_ | refine Zg ?_))
  obtain ⟨y, hy⟩ : ∃ y, L3[d.toNat]? = some y := ⟨_, List.getElem?_eq_getElem (by omega)⟩
  have hcy := cell_L hb17 hy
  obtain ⟨hr1, hr2⟩ := hreach.2 (by omega) (by omega) y hy
  refine s_gv rfl (r_ia rfl rfl rfl rfl (by omega) (by omega)) ?_
  (repeat (first | refine k_nil ?_ | refine k_n ?_ | refine k_r ?_ | refine k_x ?_ | refine b_n ?_ | refine b_r ?_ | refine b_y rfl ?_ | refine b_z rfl ?_ | refine l_r ?_ | refine l_x ?_ | refine k_seq ?_ | refine k_blk ?_ | refine k_reg ?_ | refine k_ret ?_ | refine k_exit ?_ | refine k_skip ?_ | refine Zs ?_ | refine Zn ?_ | refine Zu ?_ | refine Zg ?_))
  by_cases r3 : 0 ≤ y
  · refine s_set 215 true rfl (decide_eq_true r3) ?_
    (repeat (first | refine k_nil ?_ | refine k_n ?_ | refine k_r ?_ | refine k_x ?_ | refine b_n ?_ | refine b_r ?_ | refine b_y rfl ?_ | refine b_z rfl ?_ | refine l_r ?_ | refine l_x ?_ | refine k_seq ?_ | refine k_blk ?_ | refine k_reg ?_ | refine k_ret ?_ | refine k_exit ?_ | refine k_skip ?_ | refine Zs ?_ | refine Zn ?_ | refine Zu ?_ | refine Zg ?_))
    refine s_gv rfl (r_ia rfl rfl rfl rfl (by omega) (by omega)) ?_
    (repeat (first | refine k_nil ?_ | refine k_n ?_ | refine k_r ?_ | refine k_x ?_ | refine b_n ?_ | refine b_r ?_ | refine b_y rfl ?_ | refine b_z rfl ?_ | refine l_r ?_ | refine l_x ?_ | refine k_seq ?_ | refine k_blk ?_ | refine k_reg ?_ | refine k_ret ?_ | refine k_exit ?_ | refine k_skip ?_ | refine Zs ?_ | refine Zn ?_ | refine Zu ?_ | refine Zg ?_))
    refine c_ne rfl (fun hne => ?_) (fun heq => ?_)
    · (repeat (first | refine k_nil ?_ | refine k_n ?_ | refine k_r ?_ | refine k_x ?_ | refine b_n ?_ | refine b_r ?_ | refine b_y rfl ?_ | refine b_z rfl ?_ | refine l_r ?_ | refine l_x ?_ | refine k_seq ?_ | refine k_blk ?_ | refine k_reg ?_ | refine k_ret ?_ | refine k_exit ?_ | refine k_skip ?_ | refine Zs ?_))
      exact ret_2 rfl rfl rfl (bad0 (keep kw17) (fun g => g.2 p hpm (hr1 r3 hne)))
    · (repeat (first | refine k_nil ?_ | refine k_n ?_ | refine k_r ?_ | refine k_x ?_ | refine b_n ?_ | refine b_r ?_ | refine b_y rfl ?_ | refine b_z rfl ?_ | refine l_r ?_ | refine l_x ?_ | refine k_seq ?_ | refine k_blk ?_ | refine k_reg ?_ | refine k_ret ?_ | refine k_exit ?_ | refine k_skip ?_ | refine Zs ?_))
      refine s_v (r_ia rfl rfl rfl rfl (by omega) (by omega)) ?_
      (repeat (first | refine k_nil ?_ | refine k_n ?_ | refine k_r ?_ | refine k_x ?_ | refine b_n ?_ | refine b_r ?_ | refine b_y rfl ?_ | refine b_z rfl ?_ | refine l_r ?_ | refine l_x ?_ | refine k_seq ?_ | refine k_blk ?_ | refine k_reg ?_ | refine k_ret ?_ | refine k_exit ?_ | refine k_skip ?_ | refine Zs ?_))
      refine c_dec rfl (fun hn => (by omega : False).elim) (fun _ => ?_)
      (repeat (first | refine k_nil ?_ | refine k_n ?_ | refine k_r ?_ | refine k_x ?_ | refine b_n ?_ | refine b_r ?_ | refine b_y rfl ?_ | refine b_z rfl ?_ | refine l_r ?_ | refine l_x ?_ | refine k_seq ?_ | refine k_blk ?_ | refine k_reg ?_ | refine k_ret ?_ | refine k_exit ?_ | refine k_skip ?_ | refine Zs ?_))
      refine l_next (k + 1, b', L3) ⟨rfl, rfl, rfl, rfl, rfl, rfl, rfl, rfl, rfl, rfl, trivial⟩ ⟨by show k + 1 ≤ _; omega, km17, hb17, hI3, hgr, hng3, hngt3, hfal3, fun n d' x' hn hw' => ?_⟩ (by show ws.length - (k + 1) < ws.length - k; omega)
      by_cases e : n = k
      · subst e
        rw [hwk] at hw'
        cases hw'
        exact ⟨hd0, by omega, hx0, by omega, by show L3[d.toNat]? = _; rw [hy, heq]⟩
      · exact htg n d' x' (by have : n < k + 1 := hn; omega) hw'
  · refine s_set 215 false rfl (decide_eq_false r3) ?_
    (repeat (first | refine k_nil ?_ | refine k_n ?_ | refine k_r ?_ | refine k_x ?_ | refine b_n ?_ | refine b_r ?_ | refine b_y rfl ?_ | refine b_z rfl ?_ | refine l_r ?_ | refine l_x ?_ | refine k_seq ?_ | refine k_blk ?_ | refine k_reg ?_ | refine k_ret ?_ | refine k_exit ?_ | refine k_skip ?_ | refine Zs ?_ | refine Zn ?_ | refine Zu ?_ | refine Zg ?_))
    refine c_f rfl ?_
    (repeat (first | refine k_nil ?_ | refine k_n ?_ | refine k_r ?_ | refine k_x ?_ | refine b_n ?_ | refine b_r ?_ | refine b_y rfl ?_ | refine b_z rfl ?_ | refine l_r ?_ | refine l_x ?_ | refine k_seq ?_ | refine k_blk ?_ | refine k_reg ?_ | refine k_ret ?_ | refine k_exit ?_ | refine k_skip ?_ | refine Zs ?_))
    refine s_v (r_ia rfl rfl rfl rfl (by omega) (by omega)) ?_
    (repeat (first | refine k_nil ?_ | refine k_n ?_ | refine k_r ?_ | refine k_x ?_ | refine b_n ?_ | refine b_r ?_ | refine b_y rfl ?_ | refine b_z rfl ?_ | refine l_r ?_ | refine l_x ?_ | refine k_seq ?_ | refine k_blk ?_ | refine k_reg ?_ | refine k_ret ?_ | refine k_exit ?_ | refine k_skip ?_ | refine Zs ?_))
    refine c_dec rfl (fun _ => ?_) (fun hn => (by omega : False).elim)
    obtain ⟨hI4, hg4, hset, hngs⟩ := hr2 (by omega)
    (repeat (first | refine k_nil ?_ | refine k_n ?_ | refine k_r ?_ | refine k_x ?_ | refine b_n ?_ | refine b_r ?_ | refine b_y rfl ?_ | refine b_z rfl ?_ | refine l_r ?_ | refine l_x ?_ | refine k_seq ?_ | refine k_blk ?_ | refine k_reg ?_ | refine k_ret ?_ | refine k_exit ?_ | refine k_skip ?_ | refine Zs ?_))
    refine s_v (r_ia rfl rfl rfl rfl (by omega) (by omega)) ?_
    refine s_st rfl rfl rfl rfl rfl hb17 (by show 0 + d.toNat * 1 + 1 ≤ _; rw [List.length_map]; omega) (fun m18 s18 => ?_)
    have hb18 := s18.blk
    have hsm2 : setAt (L3.map (Value.int .i64)) (0 + d.toNat * 1) (cellsL (Value.int .i64 x)) = _ := set_map L3 d x
    rw [hsm2] at hb18
    (repeat (first | refine k_nil ?_ | refine k_n ?_ | refine k_r ?_ | refine k_x ?_ | refine b_n ?_ | refine b_r ?_ | refine b_y rfl ?_ | refine b_z rfl ?_ | refine l_r ?_ | refine l_x ?_ | refine k_seq ?_ | refine k_blk ?_ | refine k_reg ?_ | refine k_ret ?_ | refine k_exit ?_ | refine k_skip ?_ | refine Zs ?_))
    refine l_next (k + 1, true, L3.set d.toNat x) ⟨rfl, rfl, rfl, rfl, rfl, rfl, rfl, rfl, rfl, rfl, trivial⟩ ⟨by show k + 1 ≤ _; omega, km17.trans s18.kp (fun _ _ e => e), hb18, hI4, hgr.trans hg4, by show ng (L3.set d.toNat x) ≤ _; omega, fun _ => (by show ng (L3.set d.toNat x) < _; omega), fun h => (by cases h), fun n d' x' hn hw' => ?_⟩ (by show ws.length - (k + 1) < ws.length - k; omega)
    by_cases e : n = k
    · subst e
      rw [hwk] at hw'
      cases hw'
      exact ⟨hd0, by omega, hx0, by omega, hset⟩
    · obtain ⟨t1, t2, t3, t4, t5⟩ := htg n d' x' (by have : n < k + 1 := hn; omega) hw'
      exact ⟨t1, t2, t3, t4, hg4 _ _ t5 t3⟩
end Cd
end Go.Proofs.YtpamkidcmjfieaaGreatDoor
