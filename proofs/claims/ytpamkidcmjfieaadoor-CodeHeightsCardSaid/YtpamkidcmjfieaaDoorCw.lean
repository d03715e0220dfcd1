/- Code: within, arg, more, face: what may be. -/
import Derived.Test.YtpamkidcmjfieaaDoorCn
namespace Go.Proofs.YtpamkidcmjfieaaDoor
open Go Go.RowKit Fw Nu
set_option linter.unusedVariables false
set_option maxRecDepth 20000
namespace Cd
def pc (p : Prc) : List Value := [.string p.nm, .int .i64 p.fr, .int .i64 p.to, .int .i64 p.pa, .int .i64 p.sl, .int .i64 p.ty]
def ic (i : Ins) : List Value := [.int .i64 i.op, .int .i64 i.arg, .int .i64 i.more]
/-- The program's table of shapes. -/
structure Shp (w : World) : Prop where
  cells : ∀ (j : Nat) x, shL[j]? = some x → w.cell? ⟨0, 0 + j * 4, none⟩ = some (.string (Tk.strOf x.1)) ∧ w.cell? ⟨0, 0 + j * 4 + 1, none⟩ = some (.int .i64 x.2.1) ∧
    w.cell? ⟨0, 0 + j * 4 + 2, none⟩ = some (.int .i64 x.2.2.1) ∧ w.cell? ⟨0, 0 + j * 4 + 3, none⟩ = some (.int .i64 x.2.2.2)
theorem Shp.kp {w w' : World} (h : Shp w) (k : Kp No w w') : Shp w' := ⟨fun j x hj => by
  obtain ⟨a, b, c, d⟩ := h.cells j x hj
  exact ⟨k.cell0 a, k.cell0 b, k.cell0 c, k.cell0 d⟩⟩
theorem Shp.at {w : World} (h : Shp w) {op : Int} (h0 : 0 ≤ op) (h1 : op ≤ 29) : w.cell? ⟨0, 0 + op.toNat * 4 + 1, none⟩ = some (.int .i64 (sh op).2.1) ∧
    w.cell? ⟨0, 0 + op.toNat * 4, none⟩ = some (.string (Tk.strOf (sh op).1)) ∧ w.cell? ⟨0, 0 + op.toNat * 4 + 2, none⟩ = some (.int .i64 (sh op).2.2.1) ∧ w.cell? ⟨0, 0 + op.toNat * 4 + 3, none⟩ = some (.int .i64 (sh op).2.2.2) := by
  have hl : op.toNat < shL.length := by show op.toNat < 30; omega
  have := h.cells op.toNat _ (List.getElem?_eq_getElem hl)
  have e : sh op = shL[op.toNat] := by unfold sh; rw [List.getElem?_eq_getElem hl]; rfl
  rw [e]
  exact ⟨this.2.1, this.1, this.2.2.1, this.2.2.2⟩
theorem within (n a b : Int) (w : World) : Ret Tryd.prog 17 [.int .i64 n, .int .i64 a, .int .i64 b] w fun v w1 => v = .bool (decide (a ≤ n ∧ n ≤ b)) ∧ w1 = w := by
  refine ret_enter Tryd.func17 rfl Tryd.ntmps17 rfl ?_
  (repeat (first | refine k_nil ?_ | refine k_n ?_ | refine k_r ?_ | refine k_x ?_ | refine b_n ?_ | refine b_r ?_ | refine b_y rfl ?_ | refine b_z rfl ?_ | refine l_r ?_ | refine l_x ?_ | refine k_seq ?_ | refine k_blk ?_ | refine k_reg ?_ | refine k_ret ?_ | refine k_exit ?_ | refine k_skip ?_ | refine Zs ?_))
  by_cases h : a ≤ n
  · refine s_set 10 true rfl (decide_eq_true h) ?_
    (repeat (first | refine k_nil ?_ | refine k_n ?_ | refine k_r ?_ | refine k_x ?_ | refine b_n ?_ | refine b_r ?_ | refine b_y rfl ?_ | refine b_z rfl ?_ | refine l_r ?_ | refine l_x ?_ | refine k_seq ?_ | refine k_blk ?_ | refine k_reg ?_ | refine k_ret ?_ | refine k_exit ?_ | refine k_skip ?_ | refine Zs ?_ | refine Zn ?_ | refine Zu ?_ | refine Zg ?_))
    refine ret_1 rfl rfl ⟨congrArg Value.bool ?_, rfl⟩
    rw [Bool.eq_iff_iff, decide_eq_true_eq, decide_eq_true_eq]
    exact ⟨fun q => ⟨h, q⟩, fun q => q.2⟩
  · refine s_set 10 false rfl (decide_eq_false h) ?_
    (repeat (first | refine k_nil ?_ | refine k_n ?_ | refine k_r ?_ | refine k_x ?_ | refine b_n ?_ | refine b_r ?_ | refine b_y rfl ?_ | refine b_z rfl ?_ | refine l_r ?_ | refine l_x ?_ | refine k_seq ?_ | refine k_blk ?_ | refine k_reg ?_ | refine k_ret ?_ | refine k_exit ?_ | refine k_skip ?_ | refine Zs ?_ | refine Zn ?_ | refine Zu ?_ | refine Zg ?_))
    exact ret_1 rfl rfl ⟨by rw [decide_eq_false (fun q => h q.1)], rfl⟩
theorem more (i : Ins) (w : World) : Ret Tryd.prog 19 [.agg (ic i).toArray] w fun v w1 => v = .bool (decide (fitM i)) ∧ Kp No w w1 := by
  refine ret_enter Tryd.func19 rfl Tryd.ntmps19 rfl ?_
  (repeat (first | refine k_nil ?_ | refine k_n ?_ | refine k_r ?_ | refine k_x ?_ | refine b_n ?_ | refine b_r ?_ | refine b_y rfl ?_ | refine b_z rfl ?_ | refine l_r ?_ | refine l_x ?_ | refine k_seq ?_ | refine k_blk ?_ | refine k_reg ?_ | refine k_ret ?_ | refine k_exit ?_ | refine k_skip ?_ | refine Zs ?_))
  refine s_box (cs := ic i) rfl rfl (fun b1 w1 n1 => ?_)
  have e1 : w1.heap[b1]? = some (.cells [Value.int .i64 i.op, .int .i64 i.arg, .int .i64 i.more].toArray 34 (0, 0)) := n1.blk
  (repeat (first | refine k_nil ?_ | refine k_n ?_ | refine k_r ?_ | refine k_x ?_ | refine b_n ?_ | refine b_r ?_ | refine b_y rfl ?_ | refine b_z rfl ?_ | refine l_r ?_ | refine l_x ?_ | refine k_seq ?_ | refine k_blk ?_ | refine k_reg ?_ | refine k_ret ?_ | refine k_exit ?_ | refine k_skip ?_ | refine Zs ?_))
  refine c_eq rfl (fun h => ?_) (fun h => ?_)
  · (repeat (first | refine k_nil ?_ | refine k_n ?_ | refine k_r ?_ | refine k_x ?_ | refine b_n ?_ | refine b_r ?_ | refine b_y rfl ?_ | refine b_z rfl ?_ | refine l_r ?_ | refine l_x ?_ | refine k_seq ?_ | refine k_blk ?_ | refine k_reg ?_ | refine k_ret ?_ | refine k_exit ?_ | refine k_skip ?_ | refine Zs ?_))
    refine s_call (us := []) (zs := []) (by kernel_rfl) rfl rfl (within i.more 1 64 w1) ?_
    rintro _ w2 ⟨rfl, rfl⟩
    (repeat (first | refine k_nil ?_ | refine k_n ?_ | refine k_r ?_ | refine k_x ?_ | refine b_n ?_ | refine b_r ?_ | refine b_y rfl ?_ | refine b_z rfl ?_ | refine l_r ?_ | refine l_x ?_ | refine k_seq ?_ | refine k_blk ?_ | refine k_reg ?_ | refine k_ret ?_ | refine k_exit ?_ | refine k_skip ?_ | refine Zs ?_))
    refine ret_1 rfl rfl ⟨congrArg Value.bool ?_, n1.kp⟩
    rw [Bool.eq_iff_iff, decide_eq_true_eq, decide_eq_true_eq]
    unfold fitM
    rw [if_pos h]
  · (repeat (first | refine k_nil ?_ | refine k_n ?_ | refine k_r ?_ | refine k_x ?_ | refine b_n ?_ | refine b_r ?_ | refine b_y rfl ?_ | refine b_z rfl ?_ | refine l_r ?_ | refine l_x ?_ | refine k_seq ?_ | refine k_blk ?_ | refine k_reg ?_ | refine k_ret ?_ | refine k_exit ?_ | refine k_skip ?_ | refine Zs ?_))
    refine ret_1 rfl rfl ⟨congrArg Value.bool ?_, n1.kp⟩
    rw [Bool.eq_iff_iff, decide_eq_true_eq, beq_iff_eq]
    unfold fitM
    rw [if_neg h]
set_option maxHeartbeats 4000000 in
theorem argF (c : Cde) (ap al : Option Addr) (cp nl cl : Nat) (p : Prc) (i : Ins) (w : World) (hs : Shp w) (h0 : 0 ≤ i.op) (h1 : i.op ≤ 29) (hr : 0 ≤ p.sl ∧ p.sl ≤ 64) (ht : 0 ≤ p.to ∧ p.to ≤ 9223372036854775807) (hn : c.ps.length ≤ 1000000) :
    Ret Tryd.prog 18 [.agg #[.slice ap c.ps.length cp, .slice al nl cl], .agg (pc p).toArray, .agg (ic i).toArray] w fun v w1 => v = .bool (decide (fitA c p i)) ∧ Kp No w w1 := by
  refine ret_enter Tryd.func18 rfl Tryd.ntmps18 rfl ?_
  (repeat (first | refine k_nil ?_ | refine k_n ?_ | refine k_r ?_ | refine k_x ?_ | refine b_n ?_ | refine b_r ?_ | refine b_y rfl ?_ | refine b_z rfl ?_ | refine l_r ?_ | refine l_x ?_ | refine k_seq ?_ | refine k_blk ?_ | refine k_reg ?_ | refine k_ret ?_ | refine k_exit ?_ | refine k_skip ?_ | refine Zs ?_))
  refine s_box (cs := [.slice ap c.ps.length cp, .slice al nl cl]) rfl rfl (fun b3 w1 n1 => ?_)
  refine s_box (cs := pc p) rfl rfl (fun b4 w2 n2 => ?_)
  refine s_box (cs := ic i) rfl rfl (fun b5 w3 n3 => ?_)
  have e3 := n3.kp.get0 (n2.kp.get0 n1.blk)
  have e4 : w3.heap[b4]? = some (.cells [Value.string p.nm, .int .i64 p.fr, .int .i64 p.to, .int .i64 p.pa, .int .i64 p.sl, .int .i64 p.ty].toArray 32 (0, 0)) := n3.kp.get0 n2.blk
  have e5 : w3.heap[b5]? = some (.cells [Value.int .i64 i.op, .int .i64 i.arg, .int .i64 i.more].toArray 34 (0, 0)) := n3.blk
  have kw := (n1.kp.no n2.kp).no n3.kp
  have hc := ((hs.kp kw).at h0 h1).1
  (repeat (first | refine k_nil ?_ | refine k_n ?_ | refine k_r ?_ | refine k_x ?_ | refine b_n ?_ | refine b_r ?_ | refine b_y rfl ?_ | refine b_z rfl ?_ | refine l_r ?_ | refine l_x ?_ | refine k_seq ?_ | refine k_blk ?_ | refine k_reg ?_ | refine k_ret ?_ | refine k_exit ?_ | refine k_skip ?_ | refine Zs ?_))
  refine s_v (r_iaa rfl rfl rfl rfl h0 (by omega)) ?_
  obtain ⟨K, hK⟩ : ∃ K, (sh i.op).2.1 = K := ⟨_, rfl⟩
  rw [hK] at hc
  (repeat (first | refine k_nil ?_ | refine k_n ?_ | refine k_r ?_ | refine k_x ?_ | refine b_n ?_ | refine b_r ?_ | refine b_y rfl ?_ | refine b_z rfl ?_ | refine l_r ?_ | refine l_x ?_ | refine k_seq ?_ | refine k_blk ?_ | refine k_reg ?_ | refine k_ret ?_ | refine k_exit ?_ | refine k_skip ?_ | refine Zs ?_))
  refine c_eq rfl (fun h1 => ?_) (fun h1 => ?_)
  · (repeat (first | refine k_nil ?_ | refine k_n ?_ | refine k_r ?_ | refine k_x ?_ | refine b_n ?_ | refine b_r ?_ | refine b_y rfl ?_ | refine b_z rfl ?_ | refine l_r ?_ | refine l_x ?_ | refine k_seq ?_ | refine k_blk ?_ | refine k_reg ?_ | refine k_ret ?_ | refine k_exit ?_ | refine k_skip ?_ | refine Zs ?_))
    exact ret_1 rfl rfl ⟨congrArg Value.bool (decide_eq_true (by unfold fitA; rw [hK, if_pos h1]; trivial)).symm, kw⟩
  (repeat (first | refine k_nil ?_ | refine k_n ?_ | refine k_r ?_ | refine k_x ?_ | refine b_n ?_ | refine b_r ?_ | refine b_y rfl ?_ | refine b_z rfl ?_ | refine l_r ?_ | refine l_x ?_ | refine k_seq ?_ | refine k_blk ?_ | refine k_reg ?_ | refine k_ret ?_ | refine k_exit ?_ | refine k_skip ?_ | refine Zs ?_))
  refine c_eq rfl (fun h2 => ?_) (fun h2 => ?_)
  · (repeat (first | refine k_nil ?_ | refine k_n ?_ | refine k_r ?_ | refine k_x ?_ | refine b_n ?_ | refine b_r ?_ | refine b_y rfl ?_ | refine b_z rfl ?_ | refine l_r ?_ | refine l_x ?_ | refine k_seq ?_ | refine k_blk ?_ | refine k_reg ?_ | refine k_ret ?_ | refine k_exit ?_ | refine k_skip ?_ | refine Zs ?_))
    refine s_call (us := []) (zs := []) (by kernel_rfl) rfl rfl (within i.arg 0 999 w3) ?_
    rintro _ w4 ⟨rfl, rfl⟩
    (repeat (first | refine k_nil ?_ | refine k_n ?_ | refine k_r ?_ | refine k_x ?_ | refine b_n ?_ | refine b_r ?_ | refine b_y rfl ?_ | refine b_z rfl ?_ | refine l_r ?_ | refine l_x ?_ | refine k_seq ?_ | refine k_blk ?_ | refine k_reg ?_ | refine k_ret ?_ | refine k_exit ?_ | refine k_skip ?_ | refine Zs ?_))
    exact ret_1 rfl rfl ⟨congrArg Value.bool (decide_eq_decide.2 (Iff.symm (iff_of_eq (by unfold fitA; rw [hK, if_neg h1, if_pos h2])))), kw⟩
  (repeat (first | refine k_nil ?_ | refine k_n ?_ | refine k_r ?_ | refine k_x ?_ | refine b_n ?_ | refine b_r ?_ | refine b_y rfl ?_ | refine b_z rfl ?_ | refine l_r ?_ | refine l_x ?_ | refine k_seq ?_ | refine k_blk ?_ | refine k_reg ?_ | refine k_ret ?_ | refine k_exit ?_ | refine k_skip ?_ | refine Zs ?_))
  refine c_eq rfl (fun h3 => ?_) (fun h3 => ?_)
  · (repeat (first | refine k_nil ?_ | refine k_n ?_ | refine k_r ?_ | refine k_x ?_ | refine b_n ?_ | refine b_r ?_ | refine b_y rfl ?_ | refine b_z rfl ?_ | refine l_r ?_ | refine l_x ?_ | refine k_seq ?_ | refine k_blk ?_ | refine k_reg ?_ | refine k_ret ?_ | refine k_exit ?_ | refine k_skip ?_ | refine Zs ?_))
    refine s_call (us := []) (zs := []) (by kernel_rfl) rfl rfl (within i.arg 0 (p.sl - 1) w3) ?_
    rintro _ w4 ⟨rfl, rfl⟩
    (repeat (first | refine k_nil ?_ | refine k_n ?_ | refine k_r ?_ | refine k_x ?_ | refine b_n ?_ | refine b_r ?_ | refine b_y rfl ?_ | refine b_z rfl ?_ | refine l_r ?_ | refine l_x ?_ | refine k_seq ?_ | refine k_blk ?_ | refine k_reg ?_ | refine k_ret ?_ | refine k_exit ?_ | refine k_skip ?_ | refine Zs ?_))
    exact ret_1 rfl rfl ⟨congrArg Value.bool (decide_eq_decide.2 (Iff.symm (iff_of_eq (by unfold fitA; rw [hK, if_neg h1, if_neg h2, if_pos h3])))), kw⟩
  (repeat (first | refine k_nil ?_ | refine k_n ?_ | refine k_r ?_ | refine k_x ?_ | refine b_n ?_ | refine b_r ?_ | refine b_y rfl ?_ | refine b_z rfl ?_ | refine l_r ?_ | refine l_x ?_ | refine k_seq ?_ | refine k_blk ?_ | refine k_reg ?_ | refine k_ret ?_ | refine k_exit ?_ | refine k_skip ?_ | refine Zs ?_))
  refine c_eq rfl (fun h4 => ?_) (fun h4 => ?_)
  · (repeat (first | refine k_nil ?_ | refine k_n ?_ | refine k_r ?_ | refine k_x ?_ | refine b_n ?_ | refine b_r ?_ | refine b_y rfl ?_ | refine b_z rfl ?_ | refine l_r ?_ | refine l_x ?_ | refine k_seq ?_ | refine k_blk ?_ | refine k_reg ?_ | refine k_ret ?_ | refine k_exit ?_ | refine k_skip ?_ | refine Zs ?_))
    refine s_call (us := []) (zs := []) (by kernel_rfl) rfl rfl (within i.arg p.fr (p.to - 1) w3) ?_
    rintro _ w4 ⟨rfl, rfl⟩
    (repeat (first | refine k_nil ?_ | refine k_n ?_ | refine k_r ?_ | refine k_x ?_ | refine b_n ?_ | refine b_r ?_ | refine b_y rfl ?_ | refine b_z rfl ?_ | refine l_r ?_ | refine l_x ?_ | refine k_seq ?_ | refine k_blk ?_ | refine k_reg ?_ | refine k_ret ?_ | refine k_exit ?_ | refine k_skip ?_ | refine Zs ?_))
    exact ret_1 rfl rfl ⟨congrArg Value.bool (decide_eq_decide.2 (Iff.symm (iff_of_eq (by unfold fitA; rw [hK, if_neg h1, if_neg h2, if_neg h3, if_pos h4])))), kw⟩
  (repeat (first | refine k_nil ?_ | refine k_n ?_ | refine k_r ?_ | refine k_x ?_ | refine b_n ?_ | refine b_r ?_ | refine b_y rfl ?_ | refine b_z rfl ?_ | refine l_r ?_ | refine l_x ?_ | refine k_seq ?_ | refine k_blk ?_ | refine k_reg ?_ | refine k_ret ?_ | refine k_exit ?_ | refine k_skip ?_ | refine Zs ?_))
  refine c_eq rfl (fun h5 => ?_) (fun h5 => ?_)
  · (repeat (first | refine k_nil ?_ | refine k_n ?_ | refine k_r ?_ | refine k_x ?_ | refine b_n ?_ | refine b_r ?_ | refine b_y rfl ?_ | refine b_z rfl ?_ | refine l_r ?_ | refine l_x ?_ | refine k_seq ?_ | refine k_blk ?_ | refine k_reg ?_ | refine k_ret ?_ | refine k_exit ?_ | refine k_skip ?_ | refine Zs ?_))
    refine s_call (us := []) (zs := []) (by kernel_rfl) rfl rfl (within i.arg 0 ((c.ps.length : Int) - 1) w3) ?_
    rintro _ w4 ⟨rfl, rfl⟩
    (repeat (first | refine k_nil ?_ | refine k_n ?_ | refine k_r ?_ | refine k_x ?_ | refine b_n ?_ | refine b_r ?_ | refine b_y rfl ?_ | refine b_z rfl ?_ | refine l_r ?_ | refine l_x ?_ | refine k_seq ?_ | refine k_blk ?_ | refine k_reg ?_ | refine k_ret ?_ | refine k_exit ?_ | refine k_skip ?_ | refine Zs ?_))
    exact ret_1 rfl rfl ⟨congrArg Value.bool (decide_eq_decide.2 (Iff.symm (iff_of_eq (by unfold fitA; rw [hK, if_neg h1, if_neg h2, if_neg h3, if_neg h4, if_pos h5])))), kw⟩
  (repeat (first | refine k_nil ?_ | refine k_n ?_ | refine k_r ?_ | refine k_x ?_ | refine b_n ?_ | refine b_r ?_ | refine b_y rfl ?_ | refine b_z rfl ?_ | refine l_r ?_ | refine l_x ?_ | refine k_seq ?_ | refine k_blk ?_ | refine k_reg ?_ | refine k_ret ?_ | refine k_exit ?_ | refine k_skip ?_ | refine Zs ?_))
  refine c_eq rfl (fun h6 => ?_) (fun h6 => ?_)
  · have hf : fitA c p i ↔ ((i.arg = 1 ∧ p.ty = 1) ∨ (i.arg = 0 ∧ p.ty = 4)) := iff_of_eq (by unfold fitA; rw [hK, if_neg h1, if_neg h2, if_neg h3, if_neg h4, if_neg h5, if_pos h6])
    (repeat (first | refine k_nil ?_ | refine k_n ?_ | refine k_r ?_ | refine k_x ?_ | refine b_n ?_ | refine b_r ?_ | refine b_y rfl ?_ | refine b_z rfl ?_ | refine l_r ?_ | refine l_x ?_ | refine k_seq ?_ | refine k_blk ?_ | refine k_reg ?_ | refine k_ret ?_ | refine k_exit ?_ | refine k_skip ?_ | refine Zs ?_))
    by_cases q1 : i.arg = 1
    · refine s_set 51 true rfl (by simp [q1]) ?_
      (repeat (first | refine k_nil ?_ | refine k_n ?_ | refine k_r ?_ | refine k_x ?_ | refine b_n ?_ | refine b_r ?_ | refine b_y rfl ?_ | refine b_z rfl ?_ | refine l_r ?_ | refine l_x ?_ | refine k_seq ?_ | refine k_blk ?_ | refine k_reg ?_ | refine k_ret ?_ | refine k_exit ?_ | refine k_skip ?_ | refine Zs ?_ | refine Zn ?_ | refine Zu ?_ | refine Zg ?_))
      by_cases q2 : p.ty = 1
      · refine s_set 56 true rfl (by simp [q2]) ?_
        (repeat (first | refine k_nil ?_ | refine k_n ?_ | refine k_r ?_ | refine k_x ?_ | refine b_n ?_ | refine b_r ?_ | refine b_y rfl ?_ | refine b_z rfl ?_ | refine l_r ?_ | refine l_x ?_ | refine k_seq ?_ | refine k_blk ?_ | refine k_reg ?_ | refine k_ret ?_ | refine k_exit ?_ | refine k_skip ?_ | refine Zs ?_ | refine Zn ?_ | refine Zu ?_ | refine Zg ?_))
        exact ret_1 rfl rfl ⟨congrArg Value.bool (decide_eq_true (hf.2 (.inl ⟨q1, q2⟩))).symm, kw⟩
      · refine s_set 56 false rfl (by simp [q2]) ?_
        (repeat (first | refine k_nil ?_ | refine k_n ?_ | refine k_r ?_ | refine k_x ?_ | refine b_n ?_ | refine b_r ?_ | refine b_y rfl ?_ | refine b_z rfl ?_ | refine l_r ?_ | refine l_x ?_ | refine k_seq ?_ | refine k_blk ?_ | refine k_reg ?_ | refine k_ret ?_ | refine k_exit ?_ | refine k_skip ?_ | refine Zs ?_ | refine Zn ?_ | refine Zu ?_ | refine Zg ?_))
        refine s_set 60 false rfl (by simp [q1]) ?_
        (repeat (first | refine k_nil ?_ | refine k_n ?_ | refine k_r ?_ | refine k_x ?_ | refine b_n ?_ | refine b_r ?_ | refine b_y rfl ?_ | refine b_z rfl ?_ | refine l_r ?_ | refine l_x ?_ | refine k_seq ?_ | refine k_blk ?_ | refine k_reg ?_ | refine k_ret ?_ | refine k_exit ?_ | refine k_skip ?_ | refine Zs ?_ | refine Zn ?_ | refine Zu ?_ | refine Zg ?_))
        exact ret_1 rfl rfl ⟨congrArg Value.bool (decide_eq_false (fun h => by rcases hf.1 h with h | h <;> omega)).symm, kw⟩
    · refine s_set 51 false rfl (by simp [q1]) ?_
      (repeat (first | refine k_nil ?_ | refine k_n ?_ | refine k_r ?_ | refine k_x ?_ | refine b_n ?_ | refine b_r ?_ | refine b_y rfl ?_ | refine b_z rfl ?_ | refine l_r ?_ | refine l_x ?_ | refine k_seq ?_ | refine k_blk ?_ | refine k_reg ?_ | refine k_ret ?_ | refine k_exit ?_ | refine k_skip ?_ | refine Zs ?_ | refine Zn ?_ | refine Zu ?_ | refine Zg ?_))
      by_cases q3 : i.arg = 0
      · refine s_set 60 true rfl (by simp [q3]) ?_
        (repeat (first | refine k_nil ?_ | refine k_n ?_ | refine k_r ?_ | refine k_x ?_ | refine b_n ?_ | refine b_r ?_ | refine b_y rfl ?_ | refine b_z rfl ?_ | refine l_r ?_ | refine l_x ?_ | refine k_seq ?_ | refine k_blk ?_ | refine k_reg ?_ | refine k_ret ?_ | refine k_exit ?_ | refine k_skip ?_ | refine Zs ?_ | refine Zn ?_ | refine Zu ?_ | refine Zg ?_))
        refine ret_1 rfl rfl ⟨congrArg Value.bool ?_, kw⟩
        rw [Bool.eq_iff_iff, decide_eq_true_eq, hf, beq_iff_eq]
        constructor
        · intro h; exact .inr ⟨q3, h⟩
        · rintro (h | h)
          · omega
          · exact h.2
      · refine s_set 60 false rfl (by simp [q3]) ?_
        (repeat (first | refine k_nil ?_ | refine k_n ?_ | refine k_r ?_ | refine k_x ?_ | refine b_n ?_ | refine b_r ?_ | refine b_y rfl ?_ | refine b_z rfl ?_ | refine l_r ?_ | refine l_x ?_ | refine k_seq ?_ | refine k_blk ?_ | refine k_reg ?_ | refine k_ret ?_ | refine k_exit ?_ | refine k_skip ?_ | refine Zs ?_ | refine Zn ?_ | refine Zu ?_ | refine Zg ?_))
        exact ret_1 rfl rfl ⟨congrArg Value.bool (decide_eq_false (fun h => by rcases hf.1 h with h | h <;> omega)).symm, kw⟩
  (repeat (first | refine k_nil ?_ | refine k_n ?_ | refine k_r ?_ | refine k_x ?_ | refine b_n ?_ | refine b_r ?_ | refine b_y rfl ?_ | refine b_z rfl ?_ | refine l_r ?_ | refine l_x ?_ | refine k_seq ?_ | refine k_blk ?_ | refine k_reg ?_ | refine k_ret ?_ | refine k_exit ?_ | refine k_skip ?_ | refine Zs ?_))
  refine c_eq rfl (fun h7 => ?_) (fun h7 => ?_)
  · have hf : fitA c p i ↔ (i.arg = 1 ∨ i.arg = 2) := iff_of_eq (by unfold fitA; rw [hK, if_neg h1, if_neg h2, if_neg h3, if_neg h4, if_neg h5, if_neg h6, if_pos h7])
    (repeat (first | refine k_nil ?_ | refine k_n ?_ | refine k_r ?_ | refine k_x ?_ | refine b_n ?_ | refine b_r ?_ | refine b_y rfl ?_ | refine b_z rfl ?_ | refine l_r ?_ | refine l_x ?_ | refine k_seq ?_ | refine k_blk ?_ | refine k_reg ?_ | refine k_ret ?_ | refine k_exit ?_ | refine k_skip ?_ | refine Zs ?_))
    by_cases q1 : i.arg = 1
    · refine s_set 71 true rfl (by simp [q1]) ?_
      (repeat (first | refine k_nil ?_ | refine k_n ?_ | refine k_r ?_ | refine k_x ?_ | refine b_n ?_ | refine b_r ?_ | refine b_y rfl ?_ | refine b_z rfl ?_ | refine l_r ?_ | refine l_x ?_ | refine k_seq ?_ | refine k_blk ?_ | refine k_reg ?_ | refine k_ret ?_ | refine k_exit ?_ | refine k_skip ?_ | refine Zs ?_ | refine Zn ?_ | refine Zu ?_ | refine Zg ?_))
      exact ret_1 rfl rfl ⟨congrArg Value.bool (decide_eq_true (hf.2 (.inl q1))).symm, kw⟩
    · refine s_set 71 false rfl (by simp [q1]) ?_
      (repeat (first | refine k_nil ?_ | refine k_n ?_ | refine k_r ?_ | refine k_x ?_ | refine b_n ?_ | refine b_r ?_ | refine b_y rfl ?_ | refine b_z rfl ?_ | refine l_r ?_ | refine l_x ?_ | refine k_seq ?_ | refine k_blk ?_ | refine k_reg ?_ | refine k_ret ?_ | refine k_exit ?_ | refine k_skip ?_ | refine Zs ?_ | refine Zn ?_ | refine Zu ?_ | refine Zg ?_))
      refine ret_1 rfl rfl ⟨congrArg Value.bool ?_, kw⟩
      rw [Bool.eq_iff_iff, decide_eq_true_eq, hf, beq_iff_eq]
      exact ⟨fun h => .inr h, fun h => h.resolve_left q1⟩
  (repeat (first | refine k_nil ?_ | refine k_n ?_ | refine k_r ?_ | refine k_x ?_ | refine b_n ?_ | refine b_r ?_ | refine b_y rfl ?_ | refine b_z rfl ?_ | refine l_r ?_ | refine l_x ?_ | refine k_seq ?_ | refine k_blk ?_ | refine k_reg ?_ | refine k_ret ?_ | refine k_exit ?_ | refine k_skip ?_ | refine Zs ?_))
  refine ret_1 rfl rfl ⟨congrArg Value.bool ?_, kw⟩
  rw [Bool.eq_iff_iff, decide_eq_true_eq, beq_iff_eq]
  unfold fitA
  rw [hK, if_neg h1, if_neg h2, if_neg h3, if_neg h4, if_neg h5, if_neg h6, if_neg h7]
/-- May a procedure, that must begin at a place, be? -/
def fc (c : Cde) (p : Prc) (at' : Int) : Prop := p.fr = at' ∧ at' < p.to ∧ p.to ≤ c.is.length ∧ (0 ≤ p.pa ∧ p.pa ≤ p.sl) ∧ p.sl ≤ 64 ∧ (p.ty = 1 ∨ p.ty = 4) ∧ nm (B p.nm) = true
instance (c : Cde) (p : Prc) (at' : Int) : Decidable (fc c p at') := by unfold fc; infer_instance
set_option maxHeartbeats 4000000 in
theorem face (c : Cde) (ap al : Option Addr) (np cp cl : Nat) (p : Prc) (at' : Int) (w : World) (hg : Tk.Glob w) (hz : p.nm.size ≤ 1000000) :
    Ret Tryd.prog 14 [.agg #[.slice ap np cp, .slice al c.is.length cl], .agg (pc p).toArray, .int .i64 at'] w fun v w1 => v = .bool (decide (fc c p at')) ∧ Kp No w w1 := by
  refine ret_enter Tryd.func14 rfl Tryd.ntmps14 rfl ?_
  (repeat (first | refine k_nil ?_ | refine k_n ?_ | refine k_r ?_ | refine k_x ?_ | refine b_n ?_ | refine b_r ?_ | refine b_y rfl ?_ | refine b_z rfl ?_ | refine l_r ?_ | refine l_x ?_ | refine k_seq ?_ | refine k_blk ?_ | refine k_reg ?_ | refine k_ret ?_ | refine k_exit ?_ | refine k_skip ?_ | refine Zs ?_))
  refine s_box (cs := [.slice ap np cp, .slice al c.is.length cl]) rfl rfl (fun b3 w1 n1 => ?_)
  refine s_box (cs := pc p) rfl rfl (fun b4 w2 n2 => ?_)
  have e3 := n2.kp.get0 n1.blk
  have e4 : w2.heap[b4]? = some (.cells [Value.string p.nm, .int .i64 p.fr, .int .i64 p.to, .int .i64 p.pa, .int .i64 p.sl, .int .i64 p.ty].toArray 32 (0, 0)) := n2.blk
  have kw := n1.kp.no n2.kp
  have no : ∀ (P : Prop), ¬ P → (fc c p at' → P) → (false = decide (fc c p at')) := fun P h q => (decide_eq_false (fun r => h (q r))).symm
  (repeat (first | refine k_nil ?_ | refine k_n ?_ | refine k_r ?_ | refine k_x ?_ | refine b_n ?_ | refine b_r ?_ | refine b_y rfl ?_ | refine b_z rfl ?_ | refine l_r ?_ | refine l_x ?_ | refine k_seq ?_ | refine k_blk ?_ | refine k_reg ?_ | refine k_ret ?_ | refine k_exit ?_ | refine k_skip ?_ | refine Zs ?_))
  by_cases q1 : p.fr = at'
  case neg =>
    refine s_set 11 false rfl (by simp [q1]) ?_
    (repeat (first | refine k_nil ?_ | refine k_n ?_ | refine k_r ?_ | refine k_x ?_ | refine b_n ?_ | refine b_r ?_ | refine b_y rfl ?_ | refine b_z rfl ?_ | refine l_r ?_ | refine l_x ?_ | refine k_seq ?_ | refine k_blk ?_ | refine k_reg ?_ | refine k_ret ?_ | refine k_exit ?_ | refine k_skip ?_ | refine Zs ?_ | refine Zn ?_ | refine Zu ?_ | refine Zg ?_))
    exact ret_1 rfl rfl ⟨congrArg Value.bool (no _ q1 (fun h => h.1)), kw⟩
  refine s_set 11 true rfl (by simp [q1]) ?_
  (repeat (first | refine k_nil ?_ | refine k_n ?_ | refine k_r ?_ | refine k_x ?_ | refine b_n ?_ | refine b_r ?_ | refine b_y rfl ?_ | refine b_z rfl ?_ | refine l_r ?_ | refine l_x ?_ | refine k_seq ?_ | refine k_blk ?_ | refine k_reg ?_ | refine k_ret ?_ | refine k_exit ?_ | refine k_skip ?_ | refine Zs ?_ | refine Zn ?_ | refine Zu ?_ | refine Zg ?_))
  by_cases q2 : at' < p.to
  case neg =>
    refine s_set 17 false rfl (decide_eq_false q2) ?_
    (repeat (first | refine k_nil ?_ | refine k_n ?_ | refine k_r ?_ | refine k_x ?_ | refine b_n ?_ | refine b_r ?_ | refine b_y rfl ?_ | refine b_z rfl ?_ | refine l_r ?_ | refine l_x ?_ | refine k_seq ?_ | refine k_blk ?_ | refine k_reg ?_ | refine k_ret ?_ | refine k_exit ?_ | refine k_skip ?_ | refine Zs ?_ | refine Zn ?_ | refine Zu ?_ | refine Zg ?_))
    exact ret_1 rfl rfl ⟨congrArg Value.bool (no _ q2 (fun h => h.2.1)), kw⟩
  refine s_set 17 true rfl (decide_eq_true q2) ?_
  (repeat (first | refine k_nil ?_ | refine k_n ?_ | refine k_r ?_ | refine k_x ?_ | refine b_n ?_ | refine b_r ?_ | refine b_y rfl ?_ | refine b_z rfl ?_ | refine l_r ?_ | refine l_x ?_ | refine k_seq ?_ | refine k_blk ?_ | refine k_reg ?_ | refine k_ret ?_ | refine k_exit ?_ | refine k_skip ?_ | refine Zs ?_ | refine Zn ?_ | refine Zu ?_ | refine Zg ?_))
  by_cases q3 : p.to ≤ c.is.length
  case neg =>
    refine s_set 25 false rfl (decide_eq_false q3) ?_
    (repeat (first | refine k_nil ?_ | refine k_n ?_ | refine k_r ?_ | refine k_x ?_ | refine b_n ?_ | refine b_r ?_ | refine b_y rfl ?_ | refine b_z rfl ?_ | refine l_r ?_ | refine l_x ?_ | refine k_seq ?_ | refine k_blk ?_ | refine k_reg ?_ | refine k_ret ?_ | refine k_exit ?_ | refine k_skip ?_ | refine Zs ?_ | refine Zn ?_ | refine Zu ?_ | refine Zg ?_))
    exact ret_1 rfl rfl ⟨congrArg Value.bool (no _ q3 (fun h => h.2.2.1)), kw⟩
  refine s_set 25 true rfl (decide_eq_true q3) ?_
  (repeat (first | refine k_nil ?_ | refine k_n ?_ | refine k_r ?_ | refine k_x ?_ | refine b_n ?_ | refine b_r ?_ | refine b_y rfl ?_ | refine b_z rfl ?_ | refine l_r ?_ | refine l_x ?_ | refine k_seq ?_ | refine k_blk ?_ | refine k_reg ?_ | refine k_ret ?_ | refine k_exit ?_ | refine k_skip ?_ | refine Zs ?_ | refine Zn ?_ | refine Zu ?_ | refine Zg ?_))
  refine s_gcall (us := []) (zs := []) rfl (by kernel_rfl) rfl rfl (within p.pa 0 p.sl w2) ?_
  rintro _ w3 ⟨rfl, rfl⟩
  (repeat (first | refine k_nil ?_ | refine k_n ?_ | refine k_r ?_ | refine k_x ?_ | refine b_n ?_ | refine b_r ?_ | refine b_y rfl ?_ | refine b_z rfl ?_ | refine l_r ?_ | refine l_x ?_ | refine k_seq ?_ | refine k_blk ?_ | refine k_reg ?_ | refine k_ret ?_ | refine k_exit ?_ | refine k_skip ?_ | refine Zs ?_ | refine Zn ?_ | refine Zu ?_ | refine Zg ?_))
  by_cases q4 : 0 ≤ p.pa ∧ p.pa ≤ p.sl
  case neg =>
    refine s_set 32 false rfl (decide_eq_false q4) ?_
    (repeat (first | refine k_nil ?_ | refine k_n ?_ | refine k_r ?_ | refine k_x ?_ | refine b_n ?_ | refine b_r ?_ | refine b_y rfl ?_ | refine b_z rfl ?_ | refine l_r ?_ | refine l_x ?_ | refine k_seq ?_ | refine k_blk ?_ | refine k_reg ?_ | refine k_ret ?_ | refine k_exit ?_ | refine k_skip ?_ | refine Zs ?_ | refine Zn ?_ | refine Zu ?_ | refine Zg ?_))
    exact ret_1 rfl rfl ⟨congrArg Value.bool (no _ q4 (fun h => h.2.2.2.1)), kw⟩
  refine s_set 32 true rfl (decide_eq_true q4) ?_
  (repeat (first | refine k_nil ?_ | refine k_n ?_ | refine k_r ?_ | refine k_x ?_ | refine b_n ?_ | refine b_r ?_ | refine b_y rfl ?_ | refine b_z rfl ?_ | refine l_r ?_ | refine l_x ?_ | refine k_seq ?_ | refine k_blk ?_ | refine k_reg ?_ | refine k_ret ?_ | refine k_exit ?_ | refine k_skip ?_ | refine Zs ?_ | refine Zn ?_ | refine Zu ?_ | refine Zg ?_))
  by_cases q5 : p.sl ≤ 64
  case neg =>
    refine s_set 37 false rfl (decide_eq_false q5) ?_
    (repeat (first | refine k_nil ?_ | refine k_n ?_ | refine k_r ?_ | refine k_x ?_ | refine b_n ?_ | refine b_r ?_ | refine b_y rfl ?_ | refine b_z rfl ?_ | refine l_r ?_ | refine l_x ?_ | refine k_seq ?_ | refine k_blk ?_ | refine k_reg ?_ | refine k_ret ?_ | refine k_exit ?_ | refine k_skip ?_ | refine Zs ?_ | refine Zn ?_ | refine Zu ?_ | refine Zg ?_))
    exact ret_1 rfl rfl ⟨congrArg Value.bool (no _ q5 (fun h => h.2.2.2.2.1)), kw⟩
  refine s_set 37 true rfl (decide_eq_true q5) ?_
  (repeat (first | refine k_nil ?_ | refine k_n ?_ | refine k_r ?_ | refine k_x ?_ | refine b_n ?_ | refine b_r ?_ | refine b_y rfl ?_ | refine b_z rfl ?_ | refine l_r ?_ | refine l_x ?_ | refine k_seq ?_ | refine k_blk ?_ | refine k_reg ?_ | refine k_ret ?_ | refine k_exit ?_ | refine k_skip ?_ | refine Zs ?_ | refine Zn ?_ | refine Zu ?_ | refine Zg ?_))
  have fin : ∀ (b : Bool), nm (B p.nm) = b → (p.ty = 1 ∨ p.ty = 4) → b = decide (fc c p at') := fun b hb q6 => by
    subst hb
    rw [Bool.eq_iff_iff, decide_eq_true_eq]
    exact ⟨fun h => ⟨q1, q2, q3, q4, q5, q6, h⟩, fun h => h.2.2.2.2.2.2⟩
  by_cases q6 : p.ty = 1
  · refine s_set 41 true rfl (by simp [q6]) ?_
    (repeat (first | refine k_nil ?_ | refine k_n ?_ | refine k_r ?_ | refine k_x ?_ | refine b_n ?_ | refine b_r ?_ | refine b_y rfl ?_ | refine b_z rfl ?_ | refine l_r ?_ | refine l_x ?_ | refine k_seq ?_ | refine k_blk ?_ | refine k_reg ?_ | refine k_ret ?_ | refine k_exit ?_ | refine k_skip ?_ | refine Zs ?_ | refine Zn ?_ | refine Zu ?_ | refine Zg ?_))
    refine s_set 47 true rfl rfl ?_
    (repeat (first | refine k_nil ?_ | refine k_n ?_ | refine k_r ?_ | refine k_x ?_ | refine b_n ?_ | refine b_r ?_ | refine b_y rfl ?_ | refine b_z rfl ?_ | refine l_r ?_ | refine l_x ?_ | refine k_seq ?_ | refine k_blk ?_ | refine k_reg ?_ | refine k_ret ?_ | refine k_exit ?_ | refine k_skip ?_ | refine Zs ?_ | refine Zn ?_ | refine Zu ?_ | refine Zg ?_))
    refine s_gcall (us := []) (zs := []) rfl (by kernel_rfl) rfl rfl (name p.nm w3 (hg.kp kw) hz) ?_
    rintro _ w4 ⟨rfl, k4⟩
    (repeat (first | refine k_nil ?_ | refine k_n ?_ | refine k_r ?_ | refine k_x ?_ | refine b_n ?_ | refine b_r ?_ | refine b_y rfl ?_ | refine b_z rfl ?_ | refine l_r ?_ | refine l_x ?_ | refine k_seq ?_ | refine k_blk ?_ | refine k_reg ?_ | refine k_ret ?_ | refine k_exit ?_ | refine k_skip ?_ | refine Zs ?_ | refine Zn ?_ | refine Zu ?_ | refine Zg ?_))
    exact ret_1 rfl rfl ⟨congrArg Value.bool (fin _ rfl (.inl q6)), kw.no k4⟩
  · refine s_set 41 false rfl (by simp [q6]) ?_
    (repeat (first | refine k_nil ?_ | refine k_n ?_ | refine k_r ?_ | refine k_x ?_ | refine b_n ?_ | refine b_r ?_ | refine b_y rfl ?_ | refine b_z rfl ?_ | refine l_r ?_ | refine l_x ?_ | refine k_seq ?_ | refine k_blk ?_ | refine k_reg ?_ | refine k_ret ?_ | refine k_exit ?_ | refine k_skip ?_ | refine Zs ?_ | refine Zn ?_ | refine Zu ?_ | refine Zg ?_))
    by_cases q7 : p.ty = 4
    · refine s_set 47 true rfl (by simp [q7]) ?_
      (repeat (first | refine k_nil ?_ | refine k_n ?_ | refine k_r ?_ | refine k_x ?_ | refine b_n ?_ | refine b_r ?_ | refine b_y rfl ?_ | refine b_z rfl ?_ | refine l_r ?_ | refine l_x ?_ | refine k_seq ?_ | refine k_blk ?_ | refine k_reg ?_ | refine k_ret ?_ | refine k_exit ?_ | refine k_skip ?_ | refine Zs ?_ | refine Zn ?_ | refine Zu ?_ | refine Zg ?_))
      refine s_gcall (us := []) (zs := []) rfl (by kernel_rfl) rfl rfl (name p.nm w3 (hg.kp kw) hz) ?_
      rintro _ w4 ⟨rfl, k4⟩
      (repeat (first | refine k_nil ?_ | refine k_n ?_ | refine k_r ?_ | refine k_x ?_ | refine b_n ?_ | refine b_r ?_ | refine b_y rfl ?_ | refine b_z rfl ?_ | refine l_r ?_ | refine l_x ?_ | refine k_seq ?_ | refine k_blk ?_ | refine k_reg ?_ | refine k_ret ?_ | refine k_exit ?_ | refine k_skip ?_ | refine Zs ?_ | refine Zn ?_ | refine Zu ?_ | refine Zg ?_))
      exact ret_1 rfl rfl ⟨congrArg Value.bool (fin _ rfl (.inr q7)), kw.no k4⟩
    · refine s_set 47 false rfl (by simp [q7]) ?_
      (repeat (first | refine k_nil ?_ | refine k_n ?_ | refine k_r ?_ | refine k_x ?_ | refine b_n ?_ | refine b_r ?_ | refine b_y rfl ?_ | refine b_z rfl ?_ | refine l_r ?_ | refine l_x ?_ | refine k_seq ?_ | refine k_blk ?_ | refine k_reg ?_ | refine k_ret ?_ | refine k_exit ?_ | refine k_skip ?_ | refine Zs ?_ | refine Zn ?_ | refine Zu ?_ | refine Zg ?_))
      exact ret_1 rfl rfl ⟨congrArg Value.bool (no (p.ty = 1 ∨ p.ty = 4) (fun h => h.elim q6 q7) (fun h => h.2.2.2.2.2.1)), kw⟩
end Cd
end Go.Proofs.YtpamkidcmjfieaaDoor
