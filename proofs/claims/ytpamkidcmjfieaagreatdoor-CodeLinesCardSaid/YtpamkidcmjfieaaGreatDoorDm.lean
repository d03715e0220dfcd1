/- Code: what the laws ask of codes; the document's example. -/
import Derived.Test.YtpamkidcmjfieaaGreatDoorDh
import Derived.Test.YtpamkidcmjfieaaGreatDoorDg
import Derived.Test.YtpamkidcmjfieaaGreatDoorFz
namespace Go.Proofs.YtpamkidcmjfieaaGreatDoor
open Go Go.RowKit Fw Nu
set_option linter.unusedVariables false
set_option maxRecDepth 20000
namespace Cd
def Few (c : Cde) : Prop := (∀ p ∈ c.ps, p.nm.size ≤ 60) ∧ c.ps.length ≤ 20 ∧ c.is.length ≤ 120
theorem fewF (c : Cde) (ap al : Option Addr) (cp cl : Nat) (w : World) (hp : RP w ap c.ps) (hn : c.ps.length ≤ 9223372036854775807) :
    Ret Tryz.prog 13 [.agg #[.slice ap c.ps.length cp, .slice al c.is.length cl]] w fun v w1 => (∃ b, v = .bool b ∧ (b = true ↔ Few c)) ∧ Kp No w w1 := by
  refine ret_enter Tryz.func13 rfl Tryz.ntmps13 rfl ?_
  (repeat (first | refine k_nil ?_ | refine k_n ?_ | refine k_r ?_ | refine k_x ?_ | refine b_n ?_ | refine b_r ?_ | refine b_y rfl ?_ | refine b_z rfl ?_ | refine l_r ?_ | refine l_x ?_ | refine k_seq ?_ | refine k_blk ?_ | refine k_reg ?_ | refine k_ret ?_ | refine k_exit ?_ | refine k_skip ?_ | refine Zs ?_))
  refine s_box (cs := [.slice ap c.ps.length cp, .slice al c.is.length cl]) rfl rfl (fun b1 w1 n1 => ?_)
  have e1 := n1.blk
  have kw1 := n1.kp
  (repeat (first | refine k_nil ?_ | refine k_n ?_ | refine k_r ?_ | refine k_x ?_ | refine b_n ?_ | refine b_r ?_ | refine b_y rfl ?_ | refine b_z rfl ?_ | refine l_r ?_ | refine l_x ?_ | refine k_seq ?_ | refine k_blk ?_ | refine k_reg ?_ | refine k_ret ?_ | refine k_exit ?_ | refine k_skip ?_ | refine Zs ?_))
  refine k_loop (σ := Nat) (fun j => [(1, .pointer (some ⟨b1, 0, none⟩)), (6, .slice ap c.ps.length cp), (7, .int .i64 c.ps.length), (8, .int .i64 j)]) (fun j m => j ≤ c.ps.length ∧ Kp No w1 m ∧ ∀ (q : Nat) p, q < j → c.ps[q]? = some p → p.nm.size ≤ 60) (fun j => c.ps.length - j) 0 ⟨rfl, rfl, rfl, rfl, trivial⟩ ⟨Nat.zero_le _, Kp.refl _ _, fun q p hq => by omega⟩ ?_
  rintro j l m ⟨hj, km, hall⟩
  have e1m := km.get0 e1
  (repeat (first | refine k_nil ?_ | refine k_n ?_ | refine k_r ?_ | refine k_x ?_ | refine b_n ?_ | refine b_r ?_ | refine b_y rfl ?_ | refine b_z rfl ?_ | refine l_r ?_ | refine l_x ?_ | refine k_seq ?_ | refine k_blk ?_ | refine k_reg ?_ | refine k_ret ?_ | refine k_exit ?_ | refine k_skip ?_ | refine Zs ?_))
  refine c_dec rfl (fun hlt => ?_) (fun hge => ?_)
  · obtain ⟨p, hx⟩ : ∃ p, c.ps[j]? = some p := ⟨_, List.getElem?_eq_getElem (by omega)⟩
    obtain ⟨pb, po, rfl, _, hc⟩ := (hp.kp0 (kw1.no km)).at hx
    (repeat (first | refine k_nil ?_ | refine k_n ?_ | refine k_r ?_ | refine k_x ?_ | refine b_n ?_ | refine b_r ?_ | refine b_y rfl ?_ | refine b_z rfl ?_ | refine l_r ?_ | refine l_x ?_ | refine k_seq ?_ | refine k_blk ?_ | refine k_reg ?_ | refine k_ret ?_ | refine k_exit ?_ | refine k_skip ?_ | refine Zs ?_))
    refine s_v (r_ia (i := j) rfl rfl rfl rfl (by omega) (by omega)) ?_
    refine s_v (r_lda (vs := pc p) rfl rfl rfl rfl hc) ?_
    refine s_al rfl (fun b5 m1 n5 => ?_)
    have g5 := n5.ge
    refine s_st (vs := pc p) rfl rfl rfl rfl rfl n5.blk (Nat.le_of_ble_eq_true rfl) (fun m2 s2 => ?_)
    have k2m : Kp No m m2 := n5.kp.trans s2.kp (fun _ _ e => by omega)
    have e5 : m2.heap[b5]? = some (.cells [Value.string p.nm, .int .i64 p.fr, .int .i64 p.to, .int .i64 p.pa, .int .i64 p.sl, .int .i64 p.ty].toArray 54 (0, 0)) := s2.blk
    (repeat (first | refine k_nil ?_ | refine k_n ?_ | refine k_r ?_ | refine k_x ?_ | refine b_n ?_ | refine b_r ?_ | refine b_y rfl ?_ | refine b_z rfl ?_ | refine l_r ?_ | refine l_x ?_ | refine k_seq ?_ | refine k_blk ?_ | refine k_reg ?_ | refine k_ret ?_ | refine k_exit ?_ | refine k_skip ?_ | refine Zs ?_))
    refine c_dec rfl (fun hbig => ?_) (fun hsm => ?_)
    · (repeat (first | refine k_nil ?_ | refine k_n ?_ | refine k_r ?_ | refine k_x ?_ | refine b_n ?_ | refine b_r ?_ | refine b_y rfl ?_ | refine b_z rfl ?_ | refine l_r ?_ | refine l_x ?_ | refine k_seq ?_ | refine k_blk ?_ | refine k_reg ?_ | refine k_ret ?_ | refine k_exit ?_ | refine k_skip ?_ | refine Zs ?_))
      exact ret_1 rfl rfl ⟨⟨false, rfl, fun h => (by cases h), fun h => (by have := h.1 p (List.mem_of_getElem? hx); omega)⟩, (kw1.no km).no k2m⟩
    · (repeat (first | refine k_nil ?_ | refine k_n ?_ | refine k_r ?_ | refine k_x ?_ | refine b_n ?_ | refine b_r ?_ | refine b_y rfl ?_ | refine b_z rfl ?_ | refine l_r ?_ | refine l_x ?_ | refine k_seq ?_ | refine k_blk ?_ | refine k_reg ?_ | refine k_ret ?_ | refine k_exit ?_ | refine k_skip ?_ | refine Zs ?_))
      refine l_next (j + 1) ⟨rfl, rfl, rfl, rfl, trivial⟩ ⟨by omega, km.no k2m, fun q p' hq hp' => ?_⟩ (by omega)
      by_cases e : q = j
      · subst e; rw [hx] at hp'; cases hp'; omega
      · exact hall q p' (by omega) hp'
  · have hnm : ∀ p ∈ c.ps, p.nm.size ≤ 60 := fun p hp => by
      obtain ⟨q, hq⟩ := List.mem_iff_getElem?.1 hp
      exact hall q p (by have := (List.getElem?_eq_some_iff.1 hq).1; omega) hq
    (repeat (first | refine k_nil ?_ | refine k_n ?_ | refine k_r ?_ | refine k_x ?_ | refine b_n ?_ | refine b_r ?_ | refine b_y rfl ?_ | refine b_z rfl ?_ | refine l_r ?_ | refine l_x ?_ | refine k_seq ?_ | refine k_blk ?_ | refine k_reg ?_ | refine k_ret ?_ | refine k_exit ?_ | refine k_skip ?_ | refine Zs ?_))
    by_cases h20 : c.ps.length ≤ 20
    · refine s_set 21 true rfl (decide_eq_true (by omega)) ?_
      (repeat (first | refine k_nil ?_ | refine k_n ?_ | refine k_r ?_ | refine k_x ?_ | refine b_n ?_ | refine b_r ?_ | refine b_y rfl ?_ | refine b_z rfl ?_ | refine l_r ?_ | refine l_x ?_ | refine k_seq ?_ | refine k_blk ?_ | refine k_reg ?_ | refine k_ret ?_ | refine k_exit ?_ | refine k_skip ?_ | refine Zs ?_ | refine Zn ?_ | refine Zu ?_ | refine Zg ?_))
      refine ret_1 rfl rfl ⟨⟨_, rfl, ?_⟩, kw1.no km⟩
      rw [decide_eq_true_eq]
      exact ⟨fun h => ⟨hnm, h20, by omega⟩, fun h => by have := h.2.2; omega⟩
    · refine s_set 21 false rfl (decide_eq_false (by omega)) ?_
      (repeat (first | refine k_nil ?_ | refine k_n ?_ | refine k_r ?_ | refine k_x ?_ | refine b_n ?_ | refine b_r ?_ | refine b_y rfl ?_ | refine b_z rfl ?_ | refine l_r ?_ | refine l_x ?_ | refine k_seq ?_ | refine k_blk ?_ | refine k_reg ?_ | refine k_ret ?_ | refine k_exit ?_ | refine k_skip ?_ | refine Zs ?_ | refine Zn ?_ | refine Zu ?_ | refine Zg ?_))
      exact ret_1 rfl rfl ⟨⟨false, rfl, fun h => (by cases h), fun h => (h20 h.2.1).elim⟩, kw1.no km⟩
set_option maxHeartbeats 4000000 in
theorem RefF (c : Cde) (ap al : Option Addr) (cp cl : Nat) (w : World) (hp : RP w ap c.ps) (hi : RI w al c.is) (hn : c.ps.length ≤ 400000) (hm : c.is.length ≤ 400000) :
    Ret Tryz.prog 11 [.agg #[.slice ap c.ps.length cp, .slice al c.is.length cl]] w fun v w1 => (∃ ap' al' cp' cl', v = .agg #[.slice ap' c.ps.length cp', .slice al' c.is.length cl'] ∧ RP w1 ap' c.ps ∧ RI w1 al' c.is ∧ c.ps.length ≤ cp' ∧ c.is.length ≤ cl') ∧ Kp No w w1 := by
  refine ret_enter Tryz.func11 rfl Tryz.ntmps11 rfl ?_
  (repeat (first | refine k_nil ?_ | refine k_n ?_ | refine k_r ?_ | refine k_x ?_ | refine b_n ?_ | refine b_r ?_ | refine b_y rfl ?_ | refine b_z rfl ?_ | refine l_r ?_ | refine l_x ?_ | refine k_seq ?_ | refine k_blk ?_ | refine k_reg ?_ | refine k_ret ?_ | refine k_exit ?_ | refine k_skip ?_ | refine Zs ?_))
  refine s_box (cs := [.slice ap c.ps.length cp, .slice al c.is.length cl]) rfl rfl (fun b1 w1 n1 => ?_)
  refine s_al (cs := [.slice none 0 0, .slice none 0 0]) rfl (fun b2 w2 n2 => ?_)
  (repeat (first | refine k_nil ?_ | refine k_n ?_ | refine k_r ?_ | refine k_x ?_ | refine b_n ?_ | refine b_r ?_ | refine b_y rfl ?_ | refine b_z rfl ?_ | refine l_r ?_ | refine l_x ?_ | refine k_seq ?_ | refine k_blk ?_ | refine k_reg ?_ | refine k_ret ?_ | refine k_exit ?_ | refine k_skip ?_ | refine Zs ?_))
  refine s_al (cs := [.slice none 0 0, .slice none 0 0]) rfl (fun b3 w3 n3 => ?_)
  have g2 := n2.ge
  have g3 := n3.ge
  have l1 := n1.lt
  have l2 := n2.lt
  have l3 := n3.lt
  have z1 := n1.kp.size
  have kw3 := (n1.kp.no n2.kp).no n3.kp
  have e1 := n3.kp.get0 (n2.kp.get0 n1.blk)
  have e2 := n3.kp.get0 n2.blk
  have e3 := n3.blk
  obtain ⟨base, hbase⟩ : ∃ base, base = w3.heap.size := ⟨_, rfl⟩
  have keep : ∀ {m : World}, Kp (fun k => k = b3 ∨ base ≤ k) w3 m → Kp No w m := fun km => kw3.trans km (fun q hq e => by omega)
  (repeat (first | refine k_nil ?_ | refine k_n ?_ | refine k_r ?_ | refine k_x ?_ | refine b_n ?_ | refine b_r ?_ | refine b_y rfl ?_ | refine b_z rfl ?_ | refine l_r ?_ | refine l_x ?_ | refine k_seq ?_ | refine k_blk ?_ | refine k_reg ?_ | refine k_ret ?_ | refine k_exit ?_ | refine k_skip ?_ | refine Zs ?_))
  refine k_loop (σ := Nat × Option Addr × Nat) (fun t => [(1, .pointer (some ⟨b1, 0, none⟩)), (2, .pointer (some ⟨b2, 0, none⟩)), (3, .pointer (some ⟨b3, 0, none⟩)), (9, .slice ap c.ps.length cp), (10, .int .i64 c.ps.length), (11, .int .i64 t.1)])
    (fun t m => t.1 ≤ c.ps.length ∧ Kp (fun k => k = b3 ∨ base ≤ k) w3 m ∧ m.heap[b3]? = some (.cells [Value.slice t.2.1 t.1 t.2.2, .slice none 0 0].toArray 33 (0, 0)) ∧ m.ownsRow base 57 6 (.slice t.2.1 t.1 t.2.2) t.1 ((c.ps.take t.1).flatMap pc)) (fun t => c.ps.length - t.1) (0, none, 0) ⟨rfl, rfl, rfl, rfl, rfl, rfl, trivial⟩ ⟨Nat.zero_le _, Kp.refl _ _, e3, World.ownsRow_nil _ _ _ _⟩ ?_
  rintro ⟨j, a, cc⟩ l m ⟨hj, km, hb3, own⟩
  simp only at hj hb3 own
  try dsimp only
  have zm := km.size
  have e1m := km.get e1 (show ¬ (b1 = b3 ∨ base ≤ b1) by omega)
  have e2m := km.get e2 (show ¬ (b2 = b3 ∨ base ≤ b2) by omega)
  (repeat (first | refine k_nil ?_ | refine k_n ?_ | refine k_r ?_ | refine k_x ?_ | refine b_n ?_ | refine b_r ?_ | refine b_y rfl ?_ | refine b_z rfl ?_ | refine l_r ?_ | refine l_x ?_ | refine k_seq ?_ | refine k_blk ?_ | refine k_reg ?_ | refine k_ret ?_ | refine k_exit ?_ | refine k_skip ?_ | refine Zs ?_))
  refine c_dec rfl (fun hlt => ?_) (fun hge => ?_)
  · obtain ⟨p, hx⟩ : ∃ p, c.ps[j]? = some p := ⟨_, List.getElem?_eq_getElem (by omega)⟩
    obtain ⟨pb, po, rfl, _, hc⟩ := (hp.kp0 (keep km)).at hx
    (repeat (first | refine k_nil ?_ | refine k_n ?_ | refine k_r ?_ | refine k_x ?_ | refine b_n ?_ | refine b_r ?_ | refine b_y rfl ?_ | refine b_z rfl ?_ | refine l_r ?_ | refine l_x ?_ | refine k_seq ?_ | refine k_blk ?_ | refine k_reg ?_ | refine k_ret ?_ | refine k_exit ?_ | refine k_skip ?_ | refine Zs ?_))
    refine s_v (r_ia (i := j) rfl rfl rfl rfl (by omega) (by omega)) ?_
    refine s_v (r_lda (vs := pc p) rfl rfl rfl rfl hc) ?_
    refine s_al rfl (fun b5 m1 n5 => ?_)
    have g5 := n5.ge
    refine s_st (vs := pc p) rfl rfl rfl rfl rfl n5.blk (Nat.le_of_ble_eq_true rfl) (fun m2 s2 => ?_)
    have k2m : Kp No m m2 := n5.kp.trans s2.kp (fun _ _ e => by omega)
    have e5 : m2.heap[b5]? = some (.cells [Value.string p.nm, .int .i64 p.fr, .int .i64 p.to, .int .i64 p.pa, .int .i64 p.sl, .int .i64 p.ty].toArray 54 (0, 0)) := s2.blk
    have hb32 := k2m.get0 hb3
    have own2 := own_kp own k2m (fun _ _ => id)
    (repeat (first | refine k_nil ?_ | refine k_n ?_ | refine k_r ?_ | refine k_x ?_ | refine b_n ?_ | refine b_r ?_ | refine b_y rfl ?_ | refine b_z rfl ?_ | refine l_r ?_ | refine l_x ?_ | refine k_seq ?_ | refine k_blk ?_ | refine k_reg ?_ | refine k_ret ?_ | refine k_exit ?_ | refine k_skip ?_ | refine Zs ?_))
    refine s_v (r_ldb (vs := pc p) rfl rfl rfl e5 rfl rfl) ?_
    refine s_bs (cs := pc p) (e := 57) rfl (fun b6 m3 n6 => ?_)
    have own3 := own_kp own2 n6.kp (fun _ _ => id)
    have z2 := k2m.size
    have z6 := n6.kp.size
    refine s_app (size := 6) (bytes := 56) (base := base) (news := pc p) rfl rfl rfl rfl rfl rfl rfl rfl own3 rfl (blk_cells n6.blk) rfl rfl (by omega) (by omega) (by omega) ?_
    rintro v m4 ⟨own4, k4, _, row4⟩
    have own5 := own4
    obtain ⟨a', c', rfl, _, _, _⟩ := own_read own4
    have hob : ∀ g, (Value.slice a j cc).ownBlock = some g → base ≤ g := fun g hg => (own_lt own3 hg).1
    have hb34 := k4.get (n6.kp.get0 hb32) (fun e => by have := hob b3 e.symm; omega)
    (repeat (first | refine k_nil ?_ | refine k_n ?_ | refine k_r ?_ | refine k_x ?_ | refine b_n ?_ | refine b_r ?_ | refine b_y rfl ?_ | refine b_z rfl ?_ | refine l_r ?_ | refine l_x ?_ | refine k_seq ?_ | refine k_blk ?_ | refine k_reg ?_ | refine k_ret ?_ | refine k_exit ?_ | refine k_skip ?_ | refine Zs ?_))
    refine s_st rfl rfl rfl rfl rfl hb34 (Nat.le_of_ble_eq_true rfl) (fun m5 s5 => ?_)
    have hne : ∀ g, (Value.slice a' (j + 1) c').ownBlock = some g → ¬ g = b3 := fun g hg e => by
      rcases row4 g hg with h | h
      · have := hob g h; omega
      · have := lt_of_get hb3; omega
    (repeat (first | refine k_nil ?_ | refine k_n ?_ | refine k_r ?_ | refine k_x ?_ | refine b_n ?_ | refine b_r ?_ | refine b_y rfl ?_ | refine b_z rfl ?_ | refine l_r ?_ | refine l_x ?_ | refine k_seq ?_ | refine k_blk ?_ | refine k_reg ?_ | refine k_ret ?_ | refine k_exit ?_ | refine k_skip ?_ | refine Zs ?_))
    refine l_next (j + 1, a', c') ⟨rfl, rfl, rfl, rfl, rfl, rfl, trivial⟩ ⟨by show j + 1 ≤ _; omega, (((km.no k2m).no n6.kp).trans k4 (fun q hq e => .inr (hob q e.symm))).trans s5.kp (fun q hq e => .inl e), s5.blk, ?_⟩ (by show c.ps.length - (j + 1) < c.ps.length - j; omega)
    show m5.ownsRow base _ 6 (.slice a' (j + 1) c') (j + 1) ((c.ps.take (j + 1)).flatMap pc)
    rw [List.take_add_one, hx, Option.toList_some, List.flatMap_append, List.flatMap_cons, List.flatMap_nil, List.append_nil]
    exact own_kp own5 s5.kp hne
  obtain rfl : j = c.ps.length := by omega
  rw [List.take_length] at own
  have ownp := own
  obtain ⟨base2, hbase2⟩ : ∃ base2, base2 = m.heap.size := ⟨_, rfl⟩
  have lb3 := lt_of_get hb3
  have keep2 : ∀ {m' : World}, Kp (fun k => k = b3 ∨ base2 ≤ k) m m' → Kp (fun k => k = b3 ∨ base ≤ k) w3 m' := fun k => km.trans k (fun q hq e => by omega)
  (repeat (first | refine k_nil ?_ | refine k_n ?_ | refine k_r ?_ | refine k_x ?_ | refine b_n ?_ | refine b_r ?_ | refine b_y rfl ?_ | refine b_z rfl ?_ | refine l_r ?_ | refine l_x ?_ | refine k_seq ?_ | refine k_blk ?_ | refine k_reg ?_ | refine k_ret ?_ | refine k_exit ?_ | refine k_skip ?_ | refine Zs ?_))
  refine k_loop (σ := Nat × Option Addr × Nat) (fun t => [(2, .pointer (some ⟨b2, 0, none⟩)), (3, .pointer (some ⟨b3, 0, none⟩)), (23, .slice al c.is.length cl), (24, .int .i64 c.is.length), (25, .int .i64 t.1)])
    (fun t m' => t.1 ≤ c.is.length ∧ Kp (fun k => k = b3 ∨ base2 ≤ k) m m' ∧ m'.heap[b3]? = some (.cells [Value.slice a c.ps.length cc, .slice t.2.1 t.1 t.2.2].toArray 33 (0, 0)) ∧ m'.ownsRow base2 58 3 (.slice t.2.1 t.1 t.2.2) t.1 ((c.is.take t.1).flatMap ic)) (fun t => c.is.length - t.1) (0, none, 0) ⟨rfl, rfl, rfl, rfl, rfl, trivial⟩ ⟨Nat.zero_le _, Kp.refl _ _, hb3, World.ownsRow_nil _ _ _ _⟩ ?_
  rintro ⟨j, ai, ci⟩ l2 m2 ⟨hj, km2, hb32, own2⟩
  simp only at hj hb32 own2
  try dsimp only
  have zm2 := km2.size
  have e22 := km2.get e2m (show ¬ (b2 = b3 ∨ base2 ≤ b2) by omega)
  have ownp2 : m2.ownsRow base 57 6 (.slice a c.ps.length cc) c.ps.length (c.ps.flatMap pc) := own_kp ownp km2 (fun g hg e => by have := own_lt ownp hg; omega)
  (repeat (first | refine k_nil ?_ | refine k_n ?_ | refine k_r ?_ | refine k_x ?_ | refine b_n ?_ | refine b_r ?_ | refine b_y rfl ?_ | refine b_z rfl ?_ | refine l_r ?_ | refine l_x ?_ | refine k_seq ?_ | refine k_blk ?_ | refine k_reg ?_ | refine k_ret ?_ | refine k_exit ?_ | refine k_skip ?_ | refine Zs ?_))
  refine c_dec rfl (fun hlt => ?_) (fun hge2 => ?_)
  · obtain ⟨p, hx⟩ : ∃ p, c.is[j]? = some p := ⟨_, List.getElem?_eq_getElem (by omega)⟩
    obtain ⟨pb, po, rfl, _, hc⟩ := (hi.kp0 (keep (keep2 km2))).at hx
    (repeat (first | refine k_nil ?_ | refine k_n ?_ | refine k_r ?_ | refine k_x ?_ | refine b_n ?_ | refine b_r ?_ | refine b_y rfl ?_ | refine b_z rfl ?_ | refine l_r ?_ | refine l_x ?_ | refine k_seq ?_ | refine k_blk ?_ | refine k_reg ?_ | refine k_ret ?_ | refine k_exit ?_ | refine k_skip ?_ | refine Zs ?_))
    refine s_v (r_ia (i := j) rfl rfl rfl rfl (by omega) (by omega)) ?_
    refine s_v (r_lda (vs := ic p) rfl rfl rfl rfl hc) ?_
    refine s_al rfl (fun b5 m3 n5 => ?_)
    have g5 := n5.ge
    refine s_st (vs := ic p) rfl rfl rfl rfl rfl n5.blk (Nat.le_of_ble_eq_true rfl) (fun m4 s4 => ?_)
    have k24 : Kp No m2 m4 := n5.kp.trans s4.kp (fun _ _ e => by omega)
    have e5 : m4.heap[b5]? = some (.cells [Value.int .i64 p.op, .int .i64 p.arg, .int .i64 p.more].toArray 50 (0, 0)) := s4.blk
    have hb34 := k24.get0 hb32
    have own4 := own_kp own2 k24 (fun _ _ => id)
    (repeat (first | refine k_nil ?_ | refine k_n ?_ | refine k_r ?_ | refine k_x ?_ | refine b_n ?_ | refine b_r ?_ | refine b_y rfl ?_ | refine b_z rfl ?_ | refine l_r ?_ | refine l_x ?_ | refine k_seq ?_ | refine k_blk ?_ | refine k_reg ?_ | refine k_ret ?_ | refine k_exit ?_ | refine k_skip ?_ | refine Zs ?_))
    refine s_v (r_ldb (vs := ic p) rfl rfl rfl e5 rfl rfl) ?_
    refine s_bs (cs := ic p) (e := 58) rfl (fun b6 m5 n6 => ?_)
    have own5 := own_kp own4 n6.kp (fun _ _ => id)
    have z2 := k24.size
    have z6 := n6.kp.size
    refine s_app (size := 3) (bytes := 24) (base := base2) (news := ic p) rfl rfl rfl rfl rfl rfl rfl rfl own5 rfl (blk_cells n6.blk) rfl rfl (by omega) (by omega) (by omega) ?_
    rintro v m6 ⟨own6, k6, _, row6⟩
    have own7 := own6
    obtain ⟨a', c', rfl, _, _, _⟩ := own_read own6
    have hob : ∀ g, (Value.slice ai j ci).ownBlock = some g → base2 ≤ g := fun g hg => (own_lt own5 hg).1
    have hb36 := k6.get (n6.kp.get0 hb34) (fun e => by have := hob b3 e.symm; omega)
    (repeat (first | refine k_nil ?_ | refine k_n ?_ | refine k_r ?_ | refine k_x ?_ | refine b_n ?_ | refine b_r ?_ | refine b_y rfl ?_ | refine b_z rfl ?_ | refine l_r ?_ | refine l_x ?_ | refine k_seq ?_ | refine k_blk ?_ | refine k_reg ?_ | refine k_ret ?_ | refine k_exit ?_ | refine k_skip ?_ | refine Zs ?_))
    refine s_st rfl rfl rfl rfl rfl hb36 (Nat.le_of_ble_eq_true rfl) (fun m7 s7 => ?_)
    have hne : ∀ g, (Value.slice a' (j + 1) c').ownBlock = some g → ¬ g = b3 := fun g hg e => by
      rcases row6 g hg with h | h
      · have := hob g h; omega
      · omega
    (repeat (first | refine k_nil ?_ | refine k_n ?_ | refine k_r ?_ | refine k_x ?_ | refine b_n ?_ | refine b_r ?_ | refine b_y rfl ?_ | refine b_z rfl ?_ | refine l_r ?_ | refine l_x ?_ | refine k_seq ?_ | refine k_blk ?_ | refine k_reg ?_ | refine k_ret ?_ | refine k_exit ?_ | refine k_skip ?_ | refine Zs ?_))
    refine l_next (j + 1, a', c') ⟨rfl, rfl, rfl, rfl, rfl, trivial⟩ ⟨by show j + 1 ≤ _; omega, (((km2.no k24).no n6.kp).trans k6 (fun q hq e => .inr (hob q e.symm))).trans s7.kp (fun q hq e => .inl e), s7.blk, ?_⟩ (by show c.is.length - (j + 1) < c.is.length - j; omega)
    show m7.ownsRow base2 _ 3 (.slice a' (j + 1) c') (j + 1) ((c.is.take (j + 1)).flatMap ic)
    rw [List.take_add_one, hx, Option.toList_some, List.flatMap_append, List.flatMap_cons, List.flatMap_nil, List.append_nil]
    exact own_kp own7 s7.kp hne
  obtain rfl : j = c.is.length := by omega
  rw [List.take_length] at own2
  (repeat (first | refine k_nil ?_ | refine k_n ?_ | refine k_r ?_ | refine k_x ?_ | refine b_n ?_ | refine b_r ?_ | refine b_y rfl ?_ | refine b_z rfl ?_ | refine l_r ?_ | refine l_x ?_ | refine k_seq ?_ | refine k_blk ?_ | refine k_reg ?_ | refine k_ret ?_ | refine k_exit ?_ | refine k_skip ?_ | refine Zs ?_))
  refine s_v (r_ldb (vs := [.slice a c.ps.length cc, .slice ai c.is.length ci]) rfl rfl rfl hb32 rfl rfl) ?_
  refine s_st (vs := [.slice a c.ps.length cc, .slice ai c.is.length ci]) rfl rfl rfl rfl rfl e22 (Nat.le_of_ble_eq_true rfl) (fun m3 s3 => ?_)
  have o1 := own_kp ownp2 s3.kp (fun g hg e => by have := (own_lt ownp2 hg).1; have e : g = b2 := e; omega)
  have o2 := own_kp own2 s3.kp (fun g hg e => by have := (own_lt own2 hg).1; have e : g = b2 := e; omega)
  obtain ⟨_, _, ea, hca, _, _⟩ := own_read o1
  obtain ⟨_, _, ei, hci, _, _⟩ := own_read o2
  simp only [Value.slice.injEq, true_and] at ea ei
  obtain ⟨rfl, rfl⟩ := ea
  obtain ⟨rfl, rfl⟩ := ei
  (repeat (first | refine k_nil ?_ | refine k_n ?_ | refine k_r ?_ | refine k_x ?_ | refine b_n ?_ | refine b_r ?_ | refine b_y rfl ?_ | refine b_z rfl ?_ | refine l_r ?_ | refine l_x ?_ | refine k_seq ?_ | refine k_blk ?_ | refine k_reg ?_ | refine k_ret ?_ | refine k_exit ?_ | refine k_skip ?_ | refine Zs ?_))
  exact ret_c1 rfl (rv_ag rfl rfl rfl s3.blk rfl rfl) ⟨⟨a, ai, cc, ci, rfl, RP.of o1, RI.of o2, hca, hci⟩, (keep (keep2 km2)).trans s3.kp (fun q hq e => by have e : q = b2 := e; omega)⟩
theorem sameT (c : Cde) (ap al bp bl : Option Addr) (cp cl dp dl : Nat) (w : World) (hp : RP w ap c.ps) (hi : RI w al c.is) (hp2 : RP w bp c.ps) (hi2 : RI w bl c.is) (hn : c.ps.length ≤ 400000) (hm : c.is.length ≤ 400000) :
    Ret Tryz.prog 10 [.agg #[.slice ap c.ps.length cp, .slice al c.is.length cl], .agg #[.slice bp c.ps.length dp, .slice bl c.is.length dl]] w fun v w1 => v = .bool true ∧ Kp No w w1 := by
  refine ret_enter Tryz.func10 rfl Tryz.ntmps10 rfl ?_
  (repeat (first | refine k_nil ?_ | refine k_n ?_ | refine k_r ?_ | refine k_x ?_ | refine b_n ?_ | refine b_r ?_ | refine b_y rfl ?_ | refine b_z rfl ?_ | refine l_r ?_ | refine l_x ?_ | refine k_seq ?_ | refine k_blk ?_ | refine k_reg ?_ | refine k_ret ?_ | refine k_exit ?_ | refine k_skip ?_ | refine Zs ?_))
  refine s_box (cs := [.slice ap c.ps.length cp, .slice al c.is.length cl]) rfl rfl (fun b2 w1 n1 => ?_)
  refine s_box (cs := [.slice bp c.ps.length dp, .slice bl c.is.length dl]) rfl rfl (fun b3 w2 n2 => ?_)
  have e2 := n2.kp.get0 n1.blk
  have e3 := n2.blk
  have kw2 := n1.kp.no n2.kp
  (repeat (first | refine k_nil ?_ | refine k_n ?_ | refine k_r ?_ | refine k_x ?_ | refine b_n ?_ | refine b_r ?_ | refine b_y rfl ?_ | refine b_z rfl ?_ | refine l_r ?_ | refine l_x ?_ | refine k_seq ?_ | refine k_blk ?_ | refine k_reg ?_ | refine k_ret ?_ | refine k_exit ?_ | refine k_skip ?_ | refine Zs ?_))
  refine s_set 14 false rfl (by simp) ?_
  (repeat (first | refine k_nil ?_ | refine k_n ?_ | refine k_r ?_ | refine k_x ?_ | refine b_n ?_ | refine b_r ?_ | refine b_y rfl ?_ | refine b_z rfl ?_ | refine l_r ?_ | refine l_x ?_ | refine k_seq ?_ | refine k_blk ?_ | refine k_reg ?_ | refine k_ret ?_ | refine k_exit ?_ | refine k_skip ?_ | refine Zs ?_ | refine Zn ?_ | refine Zu ?_ | refine Zg ?_))
  refine c_ne rfl (fun h => (h rfl).elim) (fun _ => ?_)
  (repeat (first | refine k_nil ?_ | refine k_n ?_ | refine k_r ?_ | refine k_x ?_ | refine b_n ?_ | refine b_r ?_ | refine b_y rfl ?_ | refine b_z rfl ?_ | refine l_r ?_ | refine l_x ?_ | refine k_seq ?_ | refine k_blk ?_ | refine k_reg ?_ | refine k_ret ?_ | refine k_exit ?_ | refine k_skip ?_ | refine Zs ?_))
  refine k_loop (σ := Nat) (fun j => [(2, .pointer (some ⟨b2, 0, none⟩)), (3, .pointer (some ⟨b3, 0, none⟩)), (25, .int .i64 c.ps.length), (26, .int .i64 j)]) (fun j m => j ≤ c.ps.length ∧ Kp No w2 m) (fun j => c.ps.length - j) 0 ⟨rfl, rfl, rfl, rfl, trivial⟩ ⟨Nat.zero_le _, Kp.refl _ _⟩ ?_
  rintro j l m ⟨hj, km⟩
  have e2m := km.get0 e2
  have e3m := km.get0 e3
  (repeat (first | refine k_nil ?_ | refine k_n ?_ | refine k_r ?_ | refine k_x ?_ | refine b_n ?_ | refine b_r ?_ | refine b_y rfl ?_ | refine b_z rfl ?_ | refine l_r ?_ | refine l_x ?_ | refine k_seq ?_ | refine k_blk ?_ | refine k_reg ?_ | refine k_ret ?_ | refine k_exit ?_ | refine k_skip ?_ | refine Zs ?_))
  refine c_dec rfl (fun hlt => ?_) (fun hge => ?_)
  · obtain ⟨p, hx⟩ : ∃ p, c.ps[j]? = some p := ⟨_, List.getElem?_eq_getElem (by omega)⟩
    obtain ⟨pb, po, rfl, _, hc⟩ := (hp.kp0 (kw2.no km)).at hx
    obtain ⟨qb, qo, rfl, _, hd⟩ := (hp2.kp0 (kw2.no km)).at hx
    have g6 : ∀ {a : Addr} {k : Nat} {m' : World}, Kp No m m' → k < 6 → m.cell? a = (pc p)[k]? → m'.cell? a = (pc p)[k]? := fun {a k m'} hw hk h => by
      obtain ⟨u, hu⟩ : ∃ u, (pc p)[k]? = some u := ⟨_, List.getElem?_eq_getElem hk⟩
      rw [hu] at h ⊢
      exact hw.cell0 h
    (repeat (first | refine k_nil ?_ | refine k_n ?_ | refine k_r ?_ | refine k_x ?_ | refine b_n ?_ | refine b_r ?_ | refine b_y rfl ?_ | refine b_z rfl ?_ | refine l_r ?_ | refine l_x ?_ | refine k_seq ?_ | refine k_blk ?_ | refine k_reg ?_ | refine k_ret ?_ | refine k_exit ?_ | refine k_skip ?_ | refine Zs ?_))
    refine k_q (by kernel_rfl) (by kernel_rfl) ?_
    (repeat (first | refine Zq ?_ | refine Zqn ?_ | refine Zqu ?_ | refine Zqg ?_))
    refine q_v (fun w' hw => r_lda (vs := pc p) rfl rfl rfl rfl (fun k hk => g6 hw hk (hc k hk))) ?_
    (repeat (first | refine Zq ?_ | refine Zqn ?_ | refine Zqu ?_ | refine Zqg ?_))
    refine q_v (fun w' hw => r_lda (vs := pc p) rfl rfl rfl rfl (fun k hk => g6 hw hk (hd k hk))) ?_
    refine q_v (fun w' hw => r_nes [57] (by kernel_rfl) (by kernel_rfl) rfl rfl rfl) ?_
    (repeat (first | refine Zq ?_ | refine Zqn ?_ | refine Zqu ?_ | refine Zqg ?_))
    refine q_nil (fun m2 k2 => ?_)
    (repeat (first | refine k_nil ?_ | refine k_n ?_ | refine k_r ?_ | refine k_x ?_ | refine b_n ?_ | refine b_r ?_ | refine b_y rfl ?_ | refine b_z rfl ?_ | refine l_r ?_ | refine l_x ?_ | refine k_seq ?_ | refine k_blk ?_ | refine k_reg ?_ | refine k_ret ?_ | refine k_exit ?_ | refine k_skip ?_ | refine Zs ?_))
    refine c_b rfl (fun hb => ?_) (fun _ => ?_)
    · exfalso; revert hb; simp
    · (repeat (first | refine k_nil ?_ | refine k_n ?_ | refine k_r ?_ | refine k_x ?_ | refine b_n ?_ | refine b_r ?_ | refine b_y rfl ?_ | refine b_z rfl ?_ | refine l_r ?_ | refine l_x ?_ | refine k_seq ?_ | refine k_blk ?_ | refine k_reg ?_ | refine k_ret ?_ | refine k_exit ?_ | refine k_skip ?_ | refine Zs ?_))
      exact l_next (j + 1) ⟨rfl, rfl, rfl, rfl, trivial⟩ ⟨by omega, km.no k2⟩ (by omega)
  · obtain rfl : j = c.ps.length := by omega
    have kw3 := kw2.no km
    (repeat (first | refine k_nil ?_ | refine k_n ?_ | refine k_r ?_ | refine k_x ?_ | refine b_n ?_ | refine b_r ?_ | refine b_y rfl ?_ | refine b_z rfl ?_ | refine l_r ?_ | refine l_x ?_ | refine k_seq ?_ | refine k_blk ?_ | refine k_reg ?_ | refine k_ret ?_ | refine k_exit ?_ | refine k_skip ?_ | refine Zs ?_))
    refine k_loop (σ := Nat) (fun j => [(2, .pointer (some ⟨b2, 0, none⟩)), (3, .pointer (some ⟨b3, 0, none⟩)), (43, .int .i64 c.is.length), (44, .int .i64 j)]) (fun j m' => j ≤ c.is.length ∧ Kp No m m') (fun j => c.is.length - j) 0 ⟨rfl, rfl, rfl, rfl, trivial⟩ ⟨Nat.zero_le _, Kp.refl _ _⟩ ?_
    rintro j l m' ⟨hj, km'⟩
    have e2m' := km'.get0 e2m
    have e3m' := km'.get0 e3m
    (repeat (first | refine k_nil ?_ | refine k_n ?_ | refine k_r ?_ | refine k_x ?_ | refine b_n ?_ | refine b_r ?_ | refine b_y rfl ?_ | refine b_z rfl ?_ | refine l_r ?_ | refine l_x ?_ | refine k_seq ?_ | refine k_blk ?_ | refine k_reg ?_ | refine k_ret ?_ | refine k_exit ?_ | refine k_skip ?_ | refine Zs ?_))
    refine c_dec rfl (fun hlt => ?_) (fun hge => ?_)
    · obtain ⟨p, hx⟩ : ∃ p, c.is[j]? = some p := ⟨_, List.getElem?_eq_getElem (by omega)⟩
      obtain ⟨pb, po, rfl, _, hc⟩ := (hi.kp0 (kw3.no km')).at hx
      obtain ⟨qb, qo, rfl, _, hd⟩ := (hi2.kp0 (kw3.no km')).at hx
      have g6 : ∀ {a : Addr} {k : Nat} {m2 : World}, Kp No m' m2 → k < 3 → m'.cell? a = (ic p)[k]? → m2.cell? a = (ic p)[k]? := fun {a k m2} hw hk h => by
        obtain ⟨u, hu⟩ : ∃ u, (ic p)[k]? = some u := ⟨_, List.getElem?_eq_getElem hk⟩
        rw [hu] at h ⊢
        exact hw.cell0 h
      (repeat (first | refine k_nil ?_ | refine k_n ?_ | refine k_r ?_ | refine k_x ?_ | refine b_n ?_ | refine b_r ?_ | refine b_y rfl ?_ | refine b_z rfl ?_ | refine l_r ?_ | refine l_x ?_ | refine k_seq ?_ | refine k_blk ?_ | refine k_reg ?_ | refine k_ret ?_ | refine k_exit ?_ | refine k_skip ?_ | refine Zs ?_))
      refine k_q (by kernel_rfl) (by kernel_rfl) ?_
      (repeat (first | refine Zq ?_ | refine Zqn ?_ | refine Zqu ?_ | refine Zqg ?_))
      refine q_v (fun w' hw => r_lda (vs := ic p) rfl rfl rfl rfl (fun k hk => g6 hw hk (hc k hk))) ?_
      (repeat (first | refine Zq ?_ | refine Zqn ?_ | refine Zqu ?_ | refine Zqg ?_))
      refine q_v (fun w' hw => r_lda (vs := ic p) rfl rfl rfl rfl (fun k hk => g6 hw hk (hd k hk))) ?_
      refine q_v (fun w' hw => r_nes [58] (by kernel_rfl) (by kernel_rfl) rfl rfl rfl) ?_
      (repeat (first | refine Zq ?_ | refine Zqn ?_ | refine Zqu ?_ | refine Zqg ?_))
      refine q_nil (fun m2 k2 => ?_)
      (repeat (first | refine k_nil ?_ | refine k_n ?_ | refine k_r ?_ | refine k_x ?_ | refine b_n ?_ | refine b_r ?_ | refine b_y rfl ?_ | refine b_z rfl ?_ | refine l_r ?_ | refine l_x ?_ | refine k_seq ?_ | refine k_blk ?_ | refine k_reg ?_ | refine k_ret ?_ | refine k_exit ?_ | refine k_skip ?_ | refine Zs ?_))
      refine c_b rfl (fun hb => ?_) (fun _ => ?_)
      · exfalso; revert hb; simp
      · (repeat (first | refine k_nil ?_ | refine k_n ?_ | refine k_r ?_ | refine k_x ?_ | refine b_n ?_ | refine b_r ?_ | refine b_y rfl ?_ | refine b_z rfl ?_ | refine l_r ?_ | refine l_x ?_ | refine k_seq ?_ | refine k_blk ?_ | refine k_reg ?_ | refine k_ret ?_ | refine k_exit ?_ | refine k_skip ?_ | refine Zs ?_))
        exact l_next (j + 1) ⟨rfl, rfl, rfl, rfl, trivial⟩ ⟨by omega, km'.no k2⟩ (by omega)
    · (repeat (first | refine k_nil ?_ | refine k_n ?_ | refine k_r ?_ | refine k_x ?_ | refine b_n ?_ | refine b_r ?_ | refine b_y rfl ?_ | refine b_z rfl ?_ | refine l_r ?_ | refine l_x ?_ | refine k_seq ?_ | refine k_blk ?_ | refine k_reg ?_ | refine k_ret ?_ | refine k_exit ?_ | refine k_skip ?_ | refine Zs ?_))
      exact ret_1 rfl rfl ⟨rfl, kw3.no km'⟩
/-- Numbers in a row. -/
def RN (w : World) (a : Option Addr) (xs : List Int) : Prop := xs = [] ∨ ∃ b o, a = some ⟨b, o, none⟩ ∧ ∀ (j : Nat) y, xs[j]? = some y → w.cell? ⟨b, o + j, none⟩ = some (.int .i64 y)
theorem RN.kp {S : Nat → Prop} {w w' : World} {a : Option Addr} {xs : List Int} (h : RN w a xs) (k : Kp S w w') (hS : ∀ b o, a = some ⟨b, o, none⟩ → ¬ S b) : RN w' a xs := by
  rcases h with h | ⟨b, o, rfl, h⟩
  · exact .inl h
  · exact .inr ⟨b, o, rfl, fun j y hj => k.cell (h j y hj) (hS b o rfl)⟩
theorem RN.kp0 {w w' : World} {a : Option Addr} {xs : List Int} (h : RN w a xs) (k : Kp No w w') : RN w' a xs := h.kp k fun _ _ _ => id
theorem RN.blk {w : World} {g : Nat} {xs : List Int} {T : TypeId} (h : w.heap[g]? = some (.cells (xs.map (Value.int .i64)).toArray T (0, 0))) : RN w (some ⟨g, 0, none⟩) xs :=
  .inr ⟨g, 0, rfl, fun j y hj => cell_of_blk h (by rw [Nat.zero_add, List.getElem?_map, hj]; rfl)⟩
theorem RN.at {w : World} {a : Option Addr} {xs : List Int} (h : RN w a xs) {j : Nat} {y : Int} (hj : xs[j]? = some y) : ∃ b o, a = some ⟨b, o, none⟩ ∧ w.cell? ⟨b, o + (j : Int).toNat * 1, none⟩ = some (.int .i64 y) := by
  rcases h with rfl | ⟨b, o, rfl, h⟩
  · simp at hj
  · refine ⟨b, o, rfl, ?_⟩
    rw [Int.toNat_natCast, Nat.mul_one]
    exact h j y hj
theorem intsT (xs : List Int) (a b : Option Addr) (ca cb : Nat) (w : World) (h1 : RN w a xs) (h2 : RN w b xs) (hl : xs.length ≤ 1000000) :
    Ret Tryz.prog 17 [.slice a xs.length ca, .slice b xs.length cb] w fun v w1 => v = .bool true ∧ Kp No w w1 := by
  refine ret_enter Tryz.func17 rfl Tryz.ntmps17 rfl ?_
  (repeat (first | refine k_nil ?_ | refine k_n ?_ | refine k_r ?_ | refine k_x ?_ | refine b_n ?_ | refine b_r ?_ | refine b_y rfl ?_ | refine b_z rfl ?_ | refine l_r ?_ | refine l_x ?_ | refine k_seq ?_ | refine k_blk ?_ | refine k_reg ?_ | refine k_ret ?_ | refine k_exit ?_ | refine k_skip ?_ | refine Zs ?_))
  refine c_ne rfl (fun h => (h rfl).elim) (fun _ => ?_)
  (repeat (first | refine k_nil ?_ | refine k_n ?_ | refine k_r ?_ | refine k_x ?_ | refine b_n ?_ | refine b_r ?_ | refine b_y rfl ?_ | refine b_z rfl ?_ | refine l_r ?_ | refine l_x ?_ | refine k_seq ?_ | refine k_blk ?_ | refine k_reg ?_ | refine k_ret ?_ | refine k_exit ?_ | refine k_skip ?_ | refine Zs ?_))
  refine k_loop (σ := Nat) (fun j => [(0, .slice a xs.length ca), (1, .slice b xs.length cb), (12, .int .i64 xs.length), (13, .int .i64 j)]) (fun j m => j ≤ xs.length ∧ Kp No w m) (fun j => xs.length - j) 0 ⟨rfl, rfl, rfl, rfl, trivial⟩ ⟨Nat.zero_le _, Kp.refl _ _⟩ ?_
  rintro j l m ⟨hj, km⟩
  (repeat (first | refine k_nil ?_ | refine k_n ?_ | refine k_r ?_ | refine k_x ?_ | refine b_n ?_ | refine b_r ?_ | refine b_y rfl ?_ | refine b_z rfl ?_ | refine l_r ?_ | refine l_x ?_ | refine k_seq ?_ | refine k_blk ?_ | refine k_reg ?_ | refine k_ret ?_ | refine k_exit ?_ | refine k_skip ?_ | refine Zs ?_))
  refine c_dec rfl (fun hlt => ?_) (fun hge => ?_)
  · obtain ⟨y, hx⟩ : ∃ y, xs[j]? = some y := ⟨_, List.getElem?_eq_getElem (by omega)⟩
    obtain ⟨pb, po, rfl, hc⟩ := (h1.kp0 km).at hx
    obtain ⟨qb, qo, rfl, hd⟩ := (h2.kp0 km).at hx
    (repeat (first | refine k_nil ?_ | refine k_n ?_ | refine k_r ?_ | refine k_x ?_ | refine b_n ?_ | refine b_r ?_ | refine b_y rfl ?_ | refine b_z rfl ?_ | refine l_r ?_ | refine l_x ?_ | refine k_seq ?_ | refine k_blk ?_ | refine k_reg ?_ | refine k_ret ?_ | refine k_exit ?_ | refine k_skip ?_ | refine Zs ?_))
    refine k_q (by kernel_rfl) (by kernel_rfl) ?_
    (repeat (first | refine Zq ?_ | refine Zqn ?_ | refine Zqu ?_ | refine Zqg ?_))
    refine q_nil (fun m2 k2 => ?_)
    (repeat (first | refine k_nil ?_ | refine k_n ?_ | refine k_r ?_ | refine k_x ?_ | refine b_n ?_ | refine b_r ?_ | refine b_y rfl ?_ | refine b_z rfl ?_ | refine l_r ?_ | refine l_x ?_ | refine k_seq ?_ | refine k_blk ?_ | refine k_reg ?_ | refine k_ret ?_ | refine k_exit ?_ | refine k_skip ?_ | refine Zs ?_))
    refine c_ne rfl (fun h => (h rfl).elim) (fun _ => ?_)
    (repeat (first | refine k_nil ?_ | refine k_n ?_ | refine k_r ?_ | refine k_x ?_ | refine b_n ?_ | refine b_r ?_ | refine b_y rfl ?_ | refine b_z rfl ?_ | refine l_r ?_ | refine l_x ?_ | refine k_seq ?_ | refine k_blk ?_ | refine k_reg ?_ | refine k_ret ?_ | refine k_exit ?_ | refine k_skip ?_ | refine Zs ?_))
    exact l_next (j + 1) ⟨rfl, rfl, rfl, rfl, trivial⟩ ⟨by omega, km.no k2⟩ (by omega)
  · (repeat (first | refine k_nil ?_ | refine k_n ?_ | refine k_r ?_ | refine k_x ?_ | refine b_n ?_ | refine b_r ?_ | refine b_y rfl ?_ | refine b_z rfl ?_ | refine l_r ?_ | refine l_x ?_ | refine k_seq ?_ | refine k_blk ?_ | refine k_reg ?_ | refine k_ret ?_ | refine k_exit ?_ | refine k_skip ?_ | refine Zs ?_))
    exact ret_1 rfl rfl ⟨rfl, km⟩
end Cd
end Go.Proofs.YtpamkidcmjfieaaGreatDoor
