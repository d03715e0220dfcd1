/- The closure that recovers, in Parse. -/
import Derived.Test.YtgnkdeapifbgeaaDoorHc
import Derived.Test.YtgnkdeapifbgeaaDoorHb
namespace Go.Proofs.YtgnkdeapifbgeaaDoor.Fw
open Go Go.RowKit
set_option linter.unusedVariables false
section
variable {P : Program} {w : World} {ρ : Operand → Value} {dst : Option Tmp} {ty : TypeId} {pos : String} {af : Array Edge} {g : Option (Nat × Bool)} {v : Value}
theorem r_ta {t tt : TypeId} {x : Operand} {d : TypeDesc} (hd : P.underlying tt = some d) (hi : (match d with | .interface _ => false | _ => true) = true) (hx : ρ x = .iface tt v) :
    Rn P ρ ⟨dst, .typeAssert x t tt true, ty, pos, af, g⟩ w (.ok (.value (.tuple #[v, .bool true])) w) := by
  refine ⟨run_v ?_⟩
  unfold Instr.typeAssert
  rw [Sem.run_bind, run_underlying hd, hx]
  cases d <;> first | exact Bool.noConfusion hi | simp [Result.andThen]
theorem r_tn {t tt : TypeId} {x : Operand} {d : TypeDesc} {i : TypeInfo} {z : Value} (hd : P.underlying tt = some d) (hi : (match d with | .interface _ => false | _ => true) = true) (hx : ρ x = .nilIface) (hz : P.info? tt = some i) (hz' : i.zero = some z) :
    Rn P ρ ⟨dst, .typeAssert x t tt true, ty, pos, af, g⟩ w (.ok (.value (.tuple #[z, .bool false])) w) := by
  refine ⟨run_v ?_⟩
  have hzv : (zeroValue tt).run P w = .ok z w := by
    simp [zeroValue, typeInfo, Sem.run_bind, hz, hz', Result.andThen]
  unfold Instr.typeAssert
  rw [Sem.run_bind, run_underlying hd, hx]
  cases d <;> first | exact Bool.noConfusion hi | simp [Result.andThen, hzv]
end
end Go.Proofs.YtgnkdeapifbgeaaDoor.Fw
namespace Go.Proofs.YtgnkdeapifbgeaaDoor.Sy
open Go Go.RowKit Fw
set_option linter.unusedVariables false
set_option maxRecDepth 20000
theorem catchF (p2 p3 p4 : Nat) (a b : Int) (v2 v2' v2'' v3 v4 : Value) (w : World) (h2 : w.heap[p2]? = some (.cells [v2, v2', v2''].toArray 27 (0, 0))) (h3 : w.heap[p3]? = some (.cells [v3].toArray 3 (0, 0))) (h4 : w.heap[p4]? = some (.cells [v4].toArray 28 (0, 0)))
    (h23 : p2 ≠ p3) (h24 : p2 ≠ p4) (h34 : p3 ≠ p4) :
    CallsD Tryd.prog 17 [Value.pointer (some ⟨p2, 0, none⟩), .pointer (some ⟨p3, 0, none⟩), .pointer (some ⟨p4, 0, none⟩)].toArray (.panicking (thrown b a)) w fun e u w' => (∃ v, e = .returned v) ∧ settle u = .returning ∧
      (w'.heap[p2]? = some (.cells [nilS, nilS, nilS].toArray 27 (0, 0)) ∧ w'.heap[p3]? = some (.cells [Value.int .i64 a].toArray 3 (0, 0)) ∧ w'.heap[p4]? = some (.cells [Value.int .i64 b].toArray 28 (0, 0))) ∧ Kp (fun i => i = p2 ∨ i = p3 ∨ i = p4) w w' := by
  refine callsD_of_wpS Tryd.func17 rfl fun c₀ cs hu => ?_
  rw [Tryd.ntmps17, fr_init _ _ (Nat.le_of_ble_eq_true rfl)]
  refine rec_region (cs' := { c₀ with mode := .panicking [{ v := .iface 66 (.agg #[.int .i64 a, .int .i64 b]), recovered := true }] } :: cs) (v := .iface 66 (.agg #[.int .i64 a, .int .i64 b])) (.inl (by simp [recoverD, hu, thrown])) (fun cs' ⟨a, w, hq⟩ => ?_) ?_
  · obtain ⟨u, ⟨v, hv⟩, _⟩ := hq
    cases hv
  refine s_v (r_ta rfl rfl rfl) ?_
  (repeat (first | refine k_nil ?_ | refine k_n ?_ | refine k_r ?_ | refine k_x ?_ | refine b_n ?_ | refine b_r ?_ | refine b_y rfl ?_ | refine b_z rfl ?_ | refine l_r ?_ | refine l_x ?_ | refine k_seq ?_ | refine k_blk ?_ | refine k_reg ?_ | refine k_ret ?_ | refine k_exit ?_ | refine k_skip ?_ | refine Zs ?_))
  refine s_al rfl (fun b3 w1 n1 => ?_)
  refine s_st (vs := [.int .i64 a, .int .i64 b]) rfl rfl rfl rfl rfl n1.blk (Nat.le_of_ble_eq_true rfl) (fun w2 s2 => ?_)
  have h2 := s2.kp.get (n1.kp.get0 h2) (fun e => by have := lt_of_get h2; have := n1.ge; omega)
  have h3 := s2.kp.get (n1.kp.get0 h3) (fun e => by have := lt_of_get h3; have := n1.ge; omega)
  have h4 := s2.kp.get (n1.kp.get0 h4) (fun e => by have := lt_of_get h4; have := n1.ge; omega)
  have k2 : Kp No w w2 := n1.kp.trans s2.kp fun i hi e => by have := n1.ge; omega
  have hb3 : w2.heap[b3]? = some (.cells [Value.int .i64 a, .int .i64 b].toArray 66 (0, 0)) := s2.blk
  have hb2 : b3 ≠ p2 := fun e => by subst e; rw [h2] at hb3; cases hb3
  have hb3' : b3 ≠ p3 := fun e => by subst e; rw [h3] at hb3; cases hb3
  have hb4 : b3 ≠ p4 := fun e => by subst e; rw [h4] at hb3; cases hb3
  repeat (first | refine k_nil ?_ | refine Zs ?_)
  refine rec_nil ?_
  (repeat (first | refine k_nil ?_ | refine k_n ?_ | refine k_r ?_ | refine k_x ?_ | refine b_n ?_ | refine b_r ?_ | refine b_y rfl ?_ | refine b_z rfl ?_ | refine l_r ?_ | refine l_x ?_ | refine k_seq ?_ | refine k_blk ?_ | refine k_reg ?_ | refine k_ret ?_ | refine k_exit ?_ | refine k_skip ?_ | refine Zs ?_))
  refine c_t rfl ?_
  refine k_h (fun w' => w'.heap[b3]? = some (.cells [Value.int .i64 a, Value.int .i64 b].toArray 66 (0, 0))) [(0, false), (1, false), (2, false), (3, false), (4, false), (5, true), (6, true), (7, true)] 7 (by kernel_rfl) (waits_of_last (by kernel_rfl)) (by kernel_rfl) (by kernel_rfl) (by kernel_rfl) rfl (fun w3 k3 q3 => ?_)
  have b3' := k3.get0 hb3
  have h2' := k3.get0 h2
  have h3' := k3.get0 h3
  have h4' := k3.get0 h4
  refine h_v b3' (fun w' hw => r_bd rfl) ?_
  refine h_v b3' (fun w' hw => r_fa rfl rfl) ?_
  refine h_v b3' (fun w' hw => r_ld rfl rfl (cell_of_blk hw rfl)) ?_
  refine h_v b3' (fun w' hw => r_fa rfl rfl) ?_
  refine h_v b3' (fun w' hw => r_ld rfl rfl (cell_of_blk hw rfl)) ?_
  refine h_st (vs := [nilS, nilS, nilS]) rfl rfl rfl rfl rfl h2' (Nat.le_of_ble_eq_true rfl) (fun w4 s4 => ⟨fun _ => s4.kp.get b3' hb2, ?_⟩)
  have h3d := s4.kp.get h3' (Ne.symm h23)
  have h4d := s4.kp.get h4' (Ne.symm h24)
  refine h_st (vs := [.int .i64 a]) rfl rfl rfl rfl rfl h3d (Nat.le_of_ble_eq_true rfl) (fun w5 s5 => ⟨fun _ => s5.kp.get (s4.kp.get b3' hb2) hb3', ?_⟩)
  have h4e := s5.kp.get h4d (Ne.symm h34)
  refine h_st (vs := [.int .i64 b]) rfl rfl rfl rfl rfl h4e (Nat.le_of_ble_eq_true rfl) (fun w6 s6 => ⟨fun h => (h rfl).elim, ?_⟩)
  refine h_nil ?_
  refine postS (results_none rfl _ _ _) ⟨⟨_, rfl⟩, rfl, ⟨s6.kp.get (s5.kp.get s4.blk h23) h24, s6.kp.get s5.blk h34, s6.blk⟩, ?_⟩
  exact (((k2.no k3).mono fun _ _ h => h.elim).trans (s4.kp.mono fun i _ e => .inl e) fun _ _ h => h).trans ((s5.kp.mono fun i _ e => (.inr (.inl e) : i = p2 ∨ i = p3 ∨ i = p4)).trans (s6.kp.mono fun i _ e => .inr (.inr e)) fun _ _ h => h) fun _ _ h => h
theorem idleF (p2 p3 p4 : Nat) (w : World) :
    CallsD Tryd.prog 17 [Value.pointer (some ⟨p2, 0, none⟩), .pointer (some ⟨p3, 0, none⟩), .pointer (some ⟨p4, 0, none⟩)].toArray .returning w fun e u w' => (∃ v, e = .returned v) ∧ settle u = .returning ∧ Kp No w w' := by
  refine callsD_of_wpS Tryd.func17 rfl fun c₀ cs hu => ?_
  rw [Tryd.ntmps17, fr_init _ _ (Nat.le_of_ble_eq_true rfl)]
  have hc : c₀ = { c₀ with mode := .returning } := by cases c₀; simp only at hu; subst hu; rfl
  refine rec_region (cs' := { c₀ with mode := .returning } :: cs) (v := .nilIface) (.inr ⟨by simp [recoverD, hu], by rw [← hc], rfl⟩) (fun cs' ⟨a, w, hq⟩ => ?_) ?_
  · obtain ⟨u, ⟨v, hv⟩, _⟩ := hq
    cases hv
  refine s_v (r_tn rfl rfl rfl rfl rfl) ?_
  (repeat (first | refine k_nil ?_ | refine k_n ?_ | refine k_r ?_ | refine k_x ?_ | refine b_n ?_ | refine b_r ?_ | refine b_y rfl ?_ | refine b_z rfl ?_ | refine l_r ?_ | refine l_x ?_ | refine k_seq ?_ | refine k_blk ?_ | refine k_reg ?_ | refine k_ret ?_ | refine k_exit ?_ | refine k_skip ?_ | refine Zs ?_))
  refine s_al rfl (fun b3 w1 n1 => ?_)
  refine s_st (vs := [.int .i64 0, .int .i64 0]) rfl rfl rfl rfl rfl n1.blk (Nat.le_of_ble_eq_true rfl) (fun w2 s2 => ?_)
  have k2 : Kp No w w2 := n1.kp.trans s2.kp fun i hi e => by have := n1.ge; omega
  repeat (first | refine k_nil ?_ | refine Zs ?_)
  refine rec_nil ?_
  (repeat (first | refine k_nil ?_ | refine k_n ?_ | refine k_r ?_ | refine k_x ?_ | refine b_n ?_ | refine b_r ?_ | refine b_y rfl ?_ | refine b_z rfl ?_ | refine l_r ?_ | refine l_x ?_ | refine k_seq ?_ | refine k_blk ?_ | refine k_reg ?_ | refine k_ret ?_ | refine k_exit ?_ | refine k_skip ?_ | refine Zs ?_))
  refine c_f rfl ?_
  (repeat (first | refine k_nil ?_ | refine k_n ?_ | refine k_r ?_ | refine k_x ?_ | refine b_n ?_ | refine b_r ?_ | refine b_y rfl ?_ | refine b_z rfl ?_ | refine l_r ?_ | refine l_x ?_ | refine k_seq ?_ | refine k_blk ?_ | refine k_reg ?_ | refine k_ret ?_ | refine k_exit ?_ | refine k_skip ?_ | refine Zs ?_))
  exact postS (results_none rfl _ _ _) ⟨⟨_, rfl⟩, rfl, k2⟩
end Go.Proofs.YtgnkdeapifbgeaaDoor.Sy
