/- Code: the document's fits, after. -/
import Derived.Test.YtpamkidcmjfieaaGreatDoorCz
namespace Go.Proofs.YtpamkidcmjfieaaGreatDoor
open Go Go.RowKit Fw Nu
set_option linter.unusedVariables false
set_option maxRecDepth 20000
namespace Fw
theorem c_fb {P : Program} {q : Pst P} {w : World} {n : Nat} {l : Slots} {ds : List Deferred} {x y : Code} {c : Operand} {b : Bool} (hc : ev n l c = .bool b) (hb : b = false) (h : Wc P y q n l ds w) : Wc P (.cond c x y) q n l ds w := by
  subst hb; exact c_f hc h
end Fw
namespace Cd
theorem fA0 {c : Cde} {p : Prc} {i : Ins} (h : (sh i.op).2.1 = 0) : fitA c p i ↔ i.arg = 0 := by unfold fitA; rw [h]; simp
theorem fA1 {c : Cde} {p : Prc} {i : Ins} (h : (sh i.op).2.1 = 1) : fitA c p i := by unfold fitA; rw [h]; simp
theorem fA2 {c : Cde} {p : Prc} {i : Ins} (h : (sh i.op).2.1 = 2) : fitA c p i ↔ 0 ≤ i.arg ∧ i.arg ≤ 999 := by unfold fitA; rw [h]; simp
theorem fA3 {c : Cde} {p : Prc} {i : Ins} (h : (sh i.op).2.1 = 3) : fitA c p i ↔ 0 ≤ i.arg ∧ i.arg ≤ p.sl - 1 := by unfold fitA; rw [h]; simp
theorem fA4 {c : Cde} {p : Prc} {i : Ins} (h : (sh i.op).2.1 = 4) : fitA c p i ↔ p.fr ≤ i.arg ∧ i.arg ≤ p.to - 1 := by unfold fitA; rw [h]; simp
theorem fA5 {c : Cde} {p : Prc} {i : Ins} (h : (sh i.op).2.1 = 5) : fitA c p i ↔ 0 ≤ i.arg ∧ i.arg ≤ (c.ps.length : Int) - 1 := by unfold fitA; rw [h]; simp
theorem fA6 {c : Cde} {p : Prc} {i : Ins} (h : (sh i.op).2.1 = 6) : fitA c p i ↔ (i.arg = 1 ∧ p.ty = 1) ∨ (i.arg = 0 ∧ p.ty = 4) := by unfold fitA; rw [h]; simp
theorem fA7 {c : Cde} {p : Prc} {i : Ins} (h : (sh i.op).2.1 = 7) : fitA c p i ↔ i.arg = 1 ∨ i.arg = 2 := by unfold fitA; rw [h]; simp
theorem bb {b : Bool} {q : Prop} {_ : Decidable q} (h : b = true ↔ q) : b = decide q := by
  rw [Bool.eq_iff_iff, decide_eq_true_eq]; exact h
set_option maxHeartbeats 16000000 in
theorem rfits (c : Cde) (ap al : Option Addr) (cp nl cl : Nat) (p : Prc) (i : Ins) (w : World) :
    Ret Tryz.prog 31 [.agg #[.slice ap c.ps.length cp, .slice al nl cl], .agg (pc p).toArray, .agg (ic i).toArray] w fun v w1 => v = .bool (decide (fit c p i)) ∧ Kp No w w1 := by
  refine ret_enter Tryz.func31 rfl Tryz.ntmps31 rfl ?_
  (repeat (first | refine k_nil ?_ | refine k_n ?_ | refine k_r ?_ | refine k_x ?_ | refine b_n ?_ | refine b_r ?_ | refine b_y rfl ?_ | refine b_z rfl ?_ | refine l_r ?_ | refine l_x ?_ | refine k_seq ?_ | refine k_blk ?_ | refine k_reg ?_ | refine k_ret ?_ | refine k_exit ?_ | refine k_skip ?_ | refine Zs ?_))
  refine s_box (cs := [.slice ap c.ps.length cp, .slice al nl cl]) rfl rfl (fun b3 w1 n1 => ?_)
  refine s_box (cs := pc p) rfl rfl (fun b4 w2 n2 => ?_)
  refine s_box (cs := ic i) rfl rfl (fun b5 w3 n3 => ?_)
  have e3 := n3.kp.get0 (n2.kp.get0 n1.blk)
  have e4 : w3.heap[b4]? = some (.cells [Value.string p.nm, .int .i64 p.fr, .int .i64 p.to, .int .i64 p.pa, .int .i64 p.sl, .int .i64 p.ty].toArray 57 (0, 0)) := n3.kp.get0 n2.blk
  have e5 : w3.heap[b5]? = some (.cells [Value.int .i64 i.op, .int .i64 i.arg, .int .i64 i.more].toArray 58 (0, 0)) := n3.blk
  have kw := (n1.kp.no n2.kp).no n3.kp
  obtain ⟨k, hk⟩ : ∃ k, k = i.op := ⟨_, rfl⟩
  have no : ∀ Q : Prop, (fit c p i → Q) → ¬ Q → (Value.bool false = .bool (decide (fit c p i))) := fun Q h n => by rw [decide_eq_false (fun f => n (h f))]
  rw [← hk] at e5
  (repeat (first | refine k_nil ?_ | refine k_n ?_ | refine k_r ?_ | refine k_x ?_ | refine b_n ?_ | refine b_r ?_ | refine b_y rfl ?_ | refine b_z rfl ?_ | refine l_r ?_ | refine l_x ?_ | refine k_seq ?_ | refine k_blk ?_ | refine k_reg ?_ | refine k_ret ?_ | refine k_exit ?_ | refine k_skip ?_ | refine Zs ?_))
  by_cases q1 : k < 1
  · refine s_set 10 true rfl (decide_eq_true q1) ?_
    (repeat (first | refine k_nil ?_ | refine k_n ?_ | refine k_r ?_ | refine k_x ?_ | refine b_n ?_ | refine b_r ?_ | refine b_y rfl ?_ | refine b_z rfl ?_ | refine l_r ?_ | refine l_x ?_ | refine k_seq ?_ | refine k_blk ?_ | refine k_reg ?_ | refine k_ret ?_ | refine k_exit ?_ | refine k_skip ?_ | refine Zs ?_ | refine Zn ?_ | refine Zu ?_ | refine Zg ?_))
    refine c_t rfl ?_
    (repeat (first | refine k_nil ?_ | refine k_n ?_ | refine k_r ?_ | refine k_x ?_ | refine b_n ?_ | refine b_r ?_ | refine b_y rfl ?_ | refine b_z rfl ?_ | refine l_r ?_ | refine l_x ?_ | refine k_seq ?_ | refine k_blk ?_ | refine k_reg ?_ | refine k_ret ?_ | refine k_exit ?_ | refine k_skip ?_ | refine Zs ?_))
    exact ret_1 rfl rfl ⟨no _ (fun f => f.1.1) (by omega), kw⟩
  refine s_set 10 false rfl (decide_eq_false q1) ?_
  (repeat (first | refine k_nil ?_ | refine k_n ?_ | refine k_r ?_ | refine k_x ?_ | refine b_n ?_ | refine b_r ?_ | refine b_y rfl ?_ | refine b_z rfl ?_ | refine l_r ?_ | refine l_x ?_ | refine k_seq ?_ | refine k_blk ?_ | refine k_reg ?_ | refine k_ret ?_ | refine k_exit ?_ | refine k_skip ?_ | refine Zs ?_ | refine Zn ?_ | refine Zu ?_ | refine Zg ?_))
  by_cases q2 : 29 < k
  · refine s_set 15 true rfl (decide_eq_true q2) ?_
    (repeat (first | refine k_nil ?_ | refine k_n ?_ | refine k_r ?_ | refine k_x ?_ | refine b_n ?_ | refine b_r ?_ | refine b_y rfl ?_ | refine b_z rfl ?_ | refine l_r ?_ | refine l_x ?_ | refine k_seq ?_ | refine k_blk ?_ | refine k_reg ?_ | refine k_ret ?_ | refine k_exit ?_ | refine k_skip ?_ | refine Zs ?_ | refine Zn ?_ | refine Zu ?_ | refine Zg ?_))
    refine c_t rfl ?_
    (repeat (first | refine k_nil ?_ | refine k_n ?_ | refine k_r ?_ | refine k_x ?_ | refine b_n ?_ | refine b_r ?_ | refine b_y rfl ?_ | refine b_z rfl ?_ | refine l_r ?_ | refine l_x ?_ | refine k_seq ?_ | refine k_blk ?_ | refine k_reg ?_ | refine k_ret ?_ | refine k_exit ?_ | refine k_skip ?_ | refine Zs ?_))
    exact ret_1 rfl rfl ⟨no _ (fun f => f.1.2) (by omega), kw⟩
  refine s_set 15 false rfl (decide_eq_false q2) ?_
  (repeat (first | refine k_nil ?_ | refine k_n ?_ | refine k_r ?_ | refine k_x ?_ | refine b_n ?_ | refine b_r ?_ | refine b_y rfl ?_ | refine b_z rfl ?_ | refine l_r ?_ | refine l_x ?_ | refine k_seq ?_ | refine k_blk ?_ | refine k_reg ?_ | refine k_ret ?_ | refine k_exit ?_ | refine k_skip ?_ | refine Zs ?_ | refine Zn ?_ | refine Zu ?_ | refine Zg ?_))
  have hr : 1 ≤ k ∧ k ≤ 29 := by omega
  have yes : ∀ b : Bool, fitM i → (b = true ↔ fitA c p i) → (Value.bool b = .bool (decide (fit c p i))) := fun b hm h => by
    congr 1
    refine bb ?_
    rw [h]
    exact ⟨fun a => ⟨by omega, a, hm⟩, fun f => f.2.1⟩
  by_cases q7 : k = 7
  · subst q7
    refine s_set 19 false rfl rfl ?_
    (repeat (first | refine k_nil ?_ | refine k_n ?_ | refine k_r ?_ | refine k_x ?_ | refine b_n ?_ | refine b_r ?_ | refine b_y rfl ?_ | refine b_z rfl ?_ | refine l_r ?_ | refine l_x ?_ | refine k_seq ?_ | refine k_blk ?_ | refine k_reg ?_ | refine k_ret ?_ | refine k_exit ?_ | refine k_skip ?_ | refine Zs ?_ | refine Zn ?_ | refine Zu ?_ | refine Zg ?_))
    by_cases m1 : i.more < 1
    · refine s_set 33 true rfl (decide_eq_true m1) ?_
      (repeat (first | refine k_nil ?_ | refine k_n ?_ | refine k_r ?_ | refine k_x ?_ | refine b_n ?_ | refine b_r ?_ | refine b_y rfl ?_ | refine b_z rfl ?_ | refine l_r ?_ | refine l_x ?_ | refine k_seq ?_ | refine k_blk ?_ | refine k_reg ?_ | refine k_ret ?_ | refine k_exit ?_ | refine k_skip ?_ | refine Zs ?_ | refine Zn ?_ | refine Zu ?_ | refine Zg ?_))
      refine c_t rfl ?_
      (repeat (first | refine k_nil ?_ | refine k_n ?_ | refine k_r ?_ | refine k_x ?_ | refine b_n ?_ | refine b_r ?_ | refine b_y rfl ?_ | refine b_z rfl ?_ | refine l_r ?_ | refine l_x ?_ | refine k_seq ?_ | refine k_blk ?_ | refine k_reg ?_ | refine k_ret ?_ | refine k_exit ?_ | refine k_skip ?_ | refine Zs ?_))
      exact ret_1 rfl rfl ⟨no (1 ≤ i.more) (fun f => by have := f.2.2; unfold fitM at this; rw [if_pos hk.symm] at this; exact this.1) (by omega), kw⟩
    refine s_set 33 false rfl (decide_eq_false m1) ?_
    (repeat (first | refine k_nil ?_ | refine k_n ?_ | refine k_r ?_ | refine k_x ?_ | refine b_n ?_ | refine b_r ?_ | refine b_y rfl ?_ | refine b_z rfl ?_ | refine l_r ?_ | refine l_x ?_ | refine k_seq ?_ | refine k_blk ?_ | refine k_reg ?_ | refine k_ret ?_ | refine k_exit ?_ | refine k_skip ?_ | refine Zs ?_ | refine Zn ?_ | refine Zu ?_ | refine Zg ?_))
    refine c_dec rfl (fun m2 => ?_) (fun m2 => ?_)
    · (repeat (first | refine k_nil ?_ | refine k_n ?_ | refine k_r ?_ | refine k_x ?_ | refine b_n ?_ | refine b_r ?_ | refine b_y rfl ?_ | refine b_z rfl ?_ | refine l_r ?_ | refine l_x ?_ | refine k_seq ?_ | refine k_blk ?_ | refine k_reg ?_ | refine k_ret ?_ | refine k_exit ?_ | refine k_skip ?_ | refine Zs ?_))
      exact ret_1 rfl rfl ⟨no (i.more ≤ 64) (fun f => by have := f.2.2; unfold fitM at this; rw [if_pos hk.symm] at this; exact this.2) (by omega), kw⟩
    have hm : fitM i := by unfold fitM; rw [if_pos hk.symm]; omega
    have hf := fA3 (c := c) (p := p) (i := i) (by rw [← hk]; rfl)
    (repeat (first | refine k_nil ?_ | refine k_n ?_ | refine k_r ?_ | refine k_x ?_ | refine b_n ?_ | refine b_r ?_ | refine b_y rfl ?_ | refine b_z rfl ?_ | refine l_r ?_ | refine l_x ?_ | refine k_seq ?_ | refine k_blk ?_ | refine k_reg ?_ | refine k_ret ?_ | refine k_exit ?_ | refine k_skip ?_ | refine Zs ?_ | refine c_t rfl ?_ | refine c_f rfl ?_))
    by_cases g1 : 0 ≤ i.arg
    · refine s_set 63 true rfl (decide_eq_true g1) ?_
      (repeat (first | refine k_nil ?_ | refine k_n ?_ | refine k_r ?_ | refine k_x ?_ | refine b_n ?_ | refine b_r ?_ | refine b_y rfl ?_ | refine b_z rfl ?_ | refine l_r ?_ | refine l_x ?_ | refine k_seq ?_ | refine k_blk ?_ | refine k_reg ?_ | refine k_ret ?_ | refine k_exit ?_ | refine k_skip ?_ | refine Zs ?_ | refine Zn ?_ | refine Zu ?_ | refine Zg ?_))
      refine ret_1 rfl rfl ⟨yes _ hm ?_, kw⟩
      rw [decide_eq_true_eq, hf]; omega
    · refine s_set 63 false rfl (decide_eq_false g1) ?_
      (repeat (first | refine k_nil ?_ | refine k_n ?_ | refine k_r ?_ | refine k_x ?_ | refine b_n ?_ | refine b_r ?_ | refine b_y rfl ?_ | refine b_z rfl ?_ | refine l_r ?_ | refine l_x ?_ | refine k_seq ?_ | refine k_blk ?_ | refine k_reg ?_ | refine k_ret ?_ | refine k_exit ?_ | refine k_skip ?_ | refine Zs ?_ | refine Zn ?_ | refine Zu ?_ | refine Zg ?_))
      refine ret_1 rfl rfl ⟨yes _ hm ?_, kw⟩
      rw [hf]; exact ⟨fun h => (by cases h), fun h => (by omega)⟩
  refine s_set 19 true rfl (by simpa using q7) ?_
  (repeat (first | refine k_nil ?_ | refine k_n ?_ | refine k_r ?_ | refine k_x ?_ | refine b_n ?_ | refine b_r ?_ | refine b_y rfl ?_ | refine b_z rfl ?_ | refine l_r ?_ | refine l_x ?_ | refine k_seq ?_ | refine k_blk ?_ | refine k_reg ?_ | refine k_ret ?_ | refine k_exit ?_ | refine k_skip ?_ | refine Zs ?_ | refine Zn ?_ | refine Zu ?_ | refine Zg ?_))
  by_cases m0 : i.more = 0
  case neg =>
    refine s_set 25 true rfl (by simpa using m0) ?_
    (repeat (first | refine k_nil ?_ | refine k_n ?_ | refine k_r ?_ | refine k_x ?_ | refine b_n ?_ | refine b_r ?_ | refine b_y rfl ?_ | refine b_z rfl ?_ | refine l_r ?_ | refine l_x ?_ | refine k_seq ?_ | refine k_blk ?_ | refine k_reg ?_ | refine k_ret ?_ | refine k_exit ?_ | refine k_skip ?_ | refine Zs ?_ | refine Zn ?_ | refine Zu ?_ | refine Zg ?_))
    refine c_t rfl ?_
    (repeat (first | refine k_nil ?_ | refine k_n ?_ | refine k_r ?_ | refine k_x ?_ | refine b_n ?_ | refine b_r ?_ | refine b_y rfl ?_ | refine b_z rfl ?_ | refine l_r ?_ | refine l_x ?_ | refine k_seq ?_ | refine k_blk ?_ | refine k_reg ?_ | refine k_ret ?_ | refine k_exit ?_ | refine k_skip ?_ | refine Zs ?_))
    exact ret_1 rfl rfl ⟨no (i.more = 0) (fun f => by have := f.2.2; unfold fitM at this; rw [if_neg (fun e => q7 (hk.trans e))] at this; exact this) m0, kw⟩
  refine s_set 25 false rfl (by rw [m0]; rfl) ?_
  (repeat (first | refine k_nil ?_ | refine k_n ?_ | refine k_r ?_ | refine k_x ?_ | refine b_n ?_ | refine b_r ?_ | refine b_y rfl ?_ | refine b_z rfl ?_ | refine l_r ?_ | refine l_x ?_ | refine k_seq ?_ | refine k_blk ?_ | refine k_reg ?_ | refine k_ret ?_ | refine k_exit ?_ | refine k_skip ?_ | refine Zs ?_ | refine Zn ?_ | refine Zu ?_ | refine Zg ?_))
  refine s_set 29 false rfl (by simpa using q7) ?_
  (repeat (first | refine k_nil ?_ | refine k_n ?_ | refine k_r ?_ | refine k_x ?_ | refine b_n ?_ | refine b_r ?_ | refine b_y rfl ?_ | refine b_z rfl ?_ | refine l_r ?_ | refine l_x ?_ | refine k_seq ?_ | refine k_blk ?_ | refine k_reg ?_ | refine k_ret ?_ | refine k_exit ?_ | refine k_skip ?_ | refine Zs ?_ | refine Zn ?_ | refine Zu ?_ | refine Zg ?_))
  refine c_f rfl ?_
  have hm : fitM i := by unfold fitM; rw [if_neg (fun e => q7 (hk.trans e))]; exact m0
  (repeat (first | refine k_nil ?_ | refine k_n ?_ | refine k_r ?_ | refine k_x ?_ | refine b_n ?_ | refine b_r ?_ | refine b_y rfl ?_ | refine b_z rfl ?_ | refine l_r ?_ | refine l_x ?_ | refine k_seq ?_ | refine k_blk ?_ | refine k_reg ?_ | refine k_ret ?_ | refine k_exit ?_ | refine k_skip ?_ | refine Zs ?_))
  by_cases o1 : k = 1
  · subst o1
    have hf := fA2 (c := c) (p := p) (i := i) (by rw [← hk]; rfl)
    (repeat (first | refine k_nil ?_ | refine k_n ?_ | refine k_r ?_ | refine k_x ?_ | refine b_n ?_ | refine b_r ?_ | refine b_y rfl ?_ | refine b_z rfl ?_ | refine l_r ?_ | refine l_x ?_ | refine k_seq ?_ | refine k_blk ?_ | refine k_reg ?_ | refine k_ret ?_ | refine k_exit ?_ | refine k_skip ?_ | refine Zs ?_ | refine c_t rfl ?_ | refine c_f rfl ?_))
    by_cases g1 : 0 ≤ i.arg
    · refine s_set 47 true rfl (decide_eq_true g1) ?_
      (repeat (first | refine k_nil ?_ | refine k_n ?_ | refine k_r ?_ | refine k_x ?_ | refine b_n ?_ | refine b_r ?_ | refine b_y rfl ?_ | refine b_z rfl ?_ | refine l_r ?_ | refine l_x ?_ | refine k_seq ?_ | refine k_blk ?_ | refine k_reg ?_ | refine k_ret ?_ | refine k_exit ?_ | refine k_skip ?_ | refine Zs ?_ | refine Zn ?_ | refine Zu ?_ | refine Zg ?_))
      refine ret_1 rfl rfl ⟨yes _ hm ?_, kw⟩
      rw [decide_eq_true_eq, hf]; omega
    · refine s_set 47 false rfl (decide_eq_false g1) ?_
      (repeat (first | refine k_nil ?_ | refine k_n ?_ | refine k_r ?_ | refine k_x ?_ | refine b_n ?_ | refine b_r ?_ | refine b_y rfl ?_ | refine b_z rfl ?_ | refine l_r ?_ | refine l_x ?_ | refine k_seq ?_ | refine k_blk ?_ | refine k_reg ?_ | refine k_ret ?_ | refine k_exit ?_ | refine k_skip ?_ | refine Zs ?_ | refine Zn ?_ | refine Zu ?_ | refine Zg ?_))
      refine ret_1 rfl rfl ⟨yes _ hm ?_, kw⟩
      rw [hf]; exact ⟨fun h => (by cases h), fun h => (by omega)⟩
  by_cases o2 : k = 2
  · subst o2
    have hf := fA1 (c := c) (p := p) (i := i) (by rw [← hk]; rfl)
    (repeat (first | refine k_nil ?_ | refine k_n ?_ | refine k_r ?_ | refine k_x ?_ | refine b_n ?_ | refine b_r ?_ | refine b_y rfl ?_ | refine b_z rfl ?_ | refine l_r ?_ | refine l_x ?_ | refine k_seq ?_ | refine k_blk ?_ | refine k_reg ?_ | refine k_ret ?_ | refine k_exit ?_ | refine k_skip ?_ | refine Zs ?_ | refine c_t rfl ?_ | refine c_f rfl ?_))
    exact ret_1 rfl rfl ⟨yes _ hm ⟨fun _ => hf, fun _ => rfl⟩, kw⟩
  by_cases o3 : k = 3 ∨ k = 4 ∨ k = 5 ∨ k = 6
  · have hf := fA3 (c := c) (p := p) (i := i) (by rw [← hk]; rcases o3 with e | e | e | e <;> rw [e] <;> rfl)
    rcases o3 with e | e | e | e
    all_goals
      subst e
      (repeat (first | refine k_nil ?_ | refine k_n ?_ | refine k_r ?_ | refine k_x ?_ | refine b_n ?_ | refine b_r ?_ | refine b_y rfl ?_ | refine b_z rfl ?_ | refine l_r ?_ | refine l_x ?_ | refine k_seq ?_ | refine k_blk ?_ | refine k_reg ?_ | refine k_ret ?_ | refine k_exit ?_ | refine k_skip ?_ | refine Zs ?_ | refine c_t rfl ?_ | refine c_f rfl ?_))
      by_cases g1 : 0 ≤ i.arg
      · refine s_set 63 true rfl (decide_eq_true g1) ?_
        (repeat (first | refine k_nil ?_ | refine k_n ?_ | refine k_r ?_ | refine k_x ?_ | refine b_n ?_ | refine b_r ?_ | refine b_y rfl ?_ | refine b_z rfl ?_ | refine l_r ?_ | refine l_x ?_ | refine k_seq ?_ | refine k_blk ?_ | refine k_reg ?_ | refine k_ret ?_ | refine k_exit ?_ | refine k_skip ?_ | refine Zs ?_ | refine Zn ?_ | refine Zu ?_ | refine Zg ?_))
        refine ret_1 rfl rfl ⟨yes _ hm ?_, kw⟩
        rw [decide_eq_true_eq, hf]; omega
      · refine s_set 63 false rfl (decide_eq_false g1) ?_
        (repeat (first | refine k_nil ?_ | refine k_n ?_ | refine k_r ?_ | refine k_x ?_ | refine b_n ?_ | refine b_r ?_ | refine b_y rfl ?_ | refine b_z rfl ?_ | refine l_r ?_ | refine l_x ?_ | refine k_seq ?_ | refine k_blk ?_ | refine k_reg ?_ | refine k_ret ?_ | refine k_exit ?_ | refine k_skip ?_ | refine Zs ?_ | refine Zn ?_ | refine Zu ?_ | refine Zg ?_))
        refine ret_1 rfl rfl ⟨yes _ hm ?_, kw⟩
        rw [hf]; exact ⟨fun h => (by cases h), fun h => (by omega)⟩
  by_cases o4 : k = 22 ∨ k = 23 ∨ k = 24 ∨ k = 25
  · have hf := fA4 (c := c) (p := p) (i := i) (by rw [← hk]; rcases o4 with e | e | e | e <;> rw [e] <;> rfl)
    rcases o4 with e | e | e | e
    all_goals
      subst e
      (repeat (first | refine k_nil ?_ | refine k_n ?_ | refine k_r ?_ | refine k_x ?_ | refine b_n ?_ | refine b_r ?_ | refine b_y rfl ?_ | refine b_z rfl ?_ | refine l_r ?_ | refine l_x ?_ | refine k_seq ?_ | refine k_blk ?_ | refine k_reg ?_ | refine k_ret ?_ | refine k_exit ?_ | refine k_skip ?_ | refine Zs ?_ | refine c_t rfl ?_ | refine c_f rfl ?_))
      by_cases g1 : p.fr ≤ i.arg
      · refine s_set 80 true rfl (decide_eq_true g1) ?_
        (repeat (first | refine k_nil ?_ | refine k_n ?_ | refine k_r ?_ | refine k_x ?_ | refine b_n ?_ | refine b_r ?_ | refine b_y rfl ?_ | refine b_z rfl ?_ | refine l_r ?_ | refine l_x ?_ | refine k_seq ?_ | refine k_blk ?_ | refine k_reg ?_ | refine k_ret ?_ | refine k_exit ?_ | refine k_skip ?_ | refine Zs ?_ | refine Zn ?_ | refine Zu ?_ | refine Zg ?_))
        refine ret_1 rfl rfl ⟨yes _ hm ?_, kw⟩
        rw [decide_eq_true_eq, hf]; omega
      · refine s_set 80 false rfl (decide_eq_false g1) ?_
        (repeat (first | refine k_nil ?_ | refine k_n ?_ | refine k_r ?_ | refine k_x ?_ | refine b_n ?_ | refine b_r ?_ | refine b_y rfl ?_ | refine b_z rfl ?_ | refine l_r ?_ | refine l_x ?_ | refine k_seq ?_ | refine k_blk ?_ | refine k_reg ?_ | refine k_ret ?_ | refine k_exit ?_ | refine k_skip ?_ | refine Zs ?_ | refine Zn ?_ | refine Zu ?_ | refine Zg ?_))
        refine ret_1 rfl rfl ⟨yes _ hm ?_, kw⟩
        rw [hf]; exact ⟨fun h => (by cases h), fun h => (by omega)⟩
  by_cases o5 : k = 26
  · subst o5
    have hf := fA5 (c := c) (p := p) (i := i) (by rw [← hk]; rfl)
    (repeat (first | refine k_nil ?_ | refine k_n ?_ | refine k_r ?_ | refine k_x ?_ | refine b_n ?_ | refine b_r ?_ | refine b_y rfl ?_ | refine b_z rfl ?_ | refine l_r ?_ | refine l_x ?_ | refine k_seq ?_ | refine k_blk ?_ | refine k_reg ?_ | refine k_ret ?_ | refine k_exit ?_ | refine k_skip ?_ | refine Zs ?_ | refine c_t rfl ?_ | refine c_f rfl ?_))
    by_cases g1 : 0 ≤ i.arg
    · refine s_set 92 true rfl (decide_eq_true g1) ?_
      (repeat (first | refine k_nil ?_ | refine k_n ?_ | refine k_r ?_ | refine k_x ?_ | refine b_n ?_ | refine b_r ?_ | refine b_y rfl ?_ | refine b_z rfl ?_ | refine l_r ?_ | refine l_x ?_ | refine k_seq ?_ | refine k_blk ?_ | refine k_reg ?_ | refine k_ret ?_ | refine k_exit ?_ | refine k_skip ?_ | refine Zs ?_ | refine Zn ?_ | refine Zu ?_ | refine Zg ?_))
      refine ret_1 rfl rfl ⟨yes _ hm ?_, kw⟩
      rw [decide_eq_true_eq, hf]; omega
    · refine s_set 92 false rfl (decide_eq_false g1) ?_
      (repeat (first | refine k_nil ?_ | refine k_n ?_ | refine k_r ?_ | refine k_x ?_ | refine b_n ?_ | refine b_r ?_ | refine b_y rfl ?_ | refine b_z rfl ?_ | refine l_r ?_ | refine l_x ?_ | refine k_seq ?_ | refine k_blk ?_ | refine k_reg ?_ | refine k_ret ?_ | refine k_exit ?_ | refine k_skip ?_ | refine Zs ?_ | refine Zn ?_ | refine Zu ?_ | refine Zg ?_))
      refine ret_1 rfl rfl ⟨yes _ hm ?_, kw⟩
      rw [hf]; exact ⟨fun h => (by cases h), fun h => (by omega)⟩
  by_cases o6 : k = 27
  · subst o6
    have hf := fA6 (c := c) (p := p) (i := i) (by rw [← hk]; rfl)
    (repeat (first | refine k_nil ?_ | refine k_n ?_ | refine k_r ?_ | refine k_x ?_ | refine b_n ?_ | refine b_r ?_ | refine b_y rfl ?_ | refine b_z rfl ?_ | refine l_r ?_ | refine l_x ?_ | refine k_seq ?_ | refine k_blk ?_ | refine k_reg ?_ | refine k_ret ?_ | refine k_exit ?_ | refine k_skip ?_ | refine Zs ?_ | refine c_t rfl ?_ | refine c_f rfl ?_))
    by_cases g1 : i.arg = 1
    · refine s_set 105 true rfl (by simp [g1]) ?_
      (repeat (first | refine k_nil ?_ | refine k_n ?_ | refine k_r ?_ | refine k_x ?_ | refine b_n ?_ | refine b_r ?_ | refine b_y rfl ?_ | refine b_z rfl ?_ | refine l_r ?_ | refine l_x ?_ | refine k_seq ?_ | refine k_blk ?_ | refine k_reg ?_ | refine k_ret ?_ | refine k_exit ?_ | refine k_skip ?_ | refine Zs ?_ | refine Zn ?_ | refine Zu ?_ | refine Zg ?_))
      by_cases g2 : p.ty = 1
      · refine s_set 110 true rfl (by simp [g2]) ?_
        (repeat (first | refine k_nil ?_ | refine k_n ?_ | refine k_r ?_ | refine k_x ?_ | refine b_n ?_ | refine b_r ?_ | refine b_y rfl ?_ | refine b_z rfl ?_ | refine l_r ?_ | refine l_x ?_ | refine k_seq ?_ | refine k_blk ?_ | refine k_reg ?_ | refine k_ret ?_ | refine k_exit ?_ | refine k_skip ?_ | refine Zs ?_ | refine Zn ?_ | refine Zu ?_ | refine Zg ?_))
        exact ret_1 rfl rfl ⟨yes _ hm ⟨fun _ => hf.2 (.inl ⟨g1, g2⟩), fun _ => rfl⟩, kw⟩
      · refine s_set 110 false rfl (by simp [g2]) ?_
        (repeat (first | refine k_nil ?_ | refine k_n ?_ | refine k_r ?_ | refine k_x ?_ | refine b_n ?_ | refine b_r ?_ | refine b_y rfl ?_ | refine b_z rfl ?_ | refine l_r ?_ | refine l_x ?_ | refine k_seq ?_ | refine k_blk ?_ | refine k_reg ?_ | refine k_ret ?_ | refine k_exit ?_ | refine k_skip ?_ | refine Zs ?_ | refine Zn ?_ | refine Zu ?_ | refine Zg ?_))
        refine s_set 114 false rfl (by simp [g1]) ?_
        (repeat (first | refine k_nil ?_ | refine k_n ?_ | refine k_r ?_ | refine k_x ?_ | refine b_n ?_ | refine b_r ?_ | refine b_y rfl ?_ | refine b_z rfl ?_ | refine l_r ?_ | refine l_x ?_ | refine k_seq ?_ | refine k_blk ?_ | refine k_reg ?_ | refine k_ret ?_ | refine k_exit ?_ | refine k_skip ?_ | refine Zs ?_ | refine Zn ?_ | refine Zu ?_ | refine Zg ?_))
        exact ret_1 rfl rfl ⟨yes _ hm ⟨fun h => (by cases h), fun h => (by rcases hf.1 h with h | h <;> omega)⟩, kw⟩
    · refine s_set 105 false rfl (by simp [g1]) ?_
      (repeat (first | refine k_nil ?_ | refine k_n ?_ | refine k_r ?_ | refine k_x ?_ | refine b_n ?_ | refine b_r ?_ | refine b_y rfl ?_ | refine b_z rfl ?_ | refine l_r ?_ | refine l_x ?_ | refine k_seq ?_ | refine k_blk ?_ | refine k_reg ?_ | refine k_ret ?_ | refine k_exit ?_ | refine k_skip ?_ | refine Zs ?_ | refine Zn ?_ | refine Zu ?_ | refine Zg ?_))
      by_cases g3 : i.arg = 0
      · refine s_set 114 true rfl (by simp [g3]) ?_
        (repeat (first | refine k_nil ?_ | refine k_n ?_ | refine k_r ?_ | refine k_x ?_ | refine b_n ?_ | refine b_r ?_ | refine b_y rfl ?_ | refine b_z rfl ?_ | refine l_r ?_ | refine l_x ?_ | refine k_seq ?_ | refine k_blk ?_ | refine k_reg ?_ | refine k_ret ?_ | refine k_exit ?_ | refine k_skip ?_ | refine Zs ?_ | refine Zn ?_ | refine Zu ?_ | refine Zg ?_))
        refine ret_1 rfl rfl ⟨yes _ hm ?_, kw⟩
        rw [beq_iff_eq, hf]
        constructor
        · intro h; exact .inr ⟨g3, h⟩
        · rintro (h | h)
          · omega
          · exact h.2
      · refine s_set 114 false rfl (by simp [g3]) ?_
        (repeat (first | refine k_nil ?_ | refine k_n ?_ | refine k_r ?_ | refine k_x ?_ | refine b_n ?_ | refine b_r ?_ | refine b_y rfl ?_ | refine b_z rfl ?_ | refine l_r ?_ | refine l_x ?_ | refine k_seq ?_ | refine k_blk ?_ | refine k_reg ?_ | refine k_ret ?_ | refine k_exit ?_ | refine k_skip ?_ | refine Zs ?_ | refine Zn ?_ | refine Zu ?_ | refine Zg ?_))
        exact ret_1 rfl rfl ⟨yes _ hm ⟨fun h => (by cases h), fun h => (by rcases hf.1 h with h | h <;> omega)⟩, kw⟩
  by_cases o7 : k = 28
  · subst o7
    have hf := fA7 (c := c) (p := p) (i := i) (by rw [← hk]; rfl)
    (repeat (first | refine k_nil ?_ | refine k_n ?_ | refine k_r ?_ | refine k_x ?_ | refine b_n ?_ | refine b_r ?_ | refine b_y rfl ?_ | refine b_z rfl ?_ | refine l_r ?_ | refine l_x ?_ | refine k_seq ?_ | refine k_blk ?_ | refine k_reg ?_ | refine k_ret ?_ | refine k_exit ?_ | refine k_skip ?_ | refine Zs ?_ | refine c_t rfl ?_ | refine c_f rfl ?_))
    by_cases g1 : i.arg = 1
    · refine s_set 125 true rfl (by simp [g1]) ?_
      (repeat (first | refine k_nil ?_ | refine k_n ?_ | refine k_r ?_ | refine k_x ?_ | refine b_n ?_ | refine b_r ?_ | refine b_y rfl ?_ | refine b_z rfl ?_ | refine l_r ?_ | refine l_x ?_ | refine k_seq ?_ | refine k_blk ?_ | refine k_reg ?_ | refine k_ret ?_ | refine k_exit ?_ | refine k_skip ?_ | refine Zs ?_ | refine Zn ?_ | refine Zu ?_ | refine Zg ?_))
      exact ret_1 rfl rfl ⟨yes _ hm ⟨fun _ => hf.2 (.inl g1), fun _ => rfl⟩, kw⟩
    · refine s_set 125 false rfl (by simp [g1]) ?_
      (repeat (first | refine k_nil ?_ | refine k_n ?_ | refine k_r ?_ | refine k_x ?_ | refine b_n ?_ | refine b_r ?_ | refine b_y rfl ?_ | refine b_z rfl ?_ | refine l_r ?_ | refine l_x ?_ | refine k_seq ?_ | refine k_blk ?_ | refine k_reg ?_ | refine k_ret ?_ | refine k_exit ?_ | refine k_skip ?_ | refine Zs ?_ | refine Zn ?_ | refine Zu ?_ | refine Zg ?_))
      refine ret_1 rfl rfl ⟨yes _ hm ?_, kw⟩
      rw [beq_iff_eq, hf]
      exact ⟨fun h => .inr h, fun h => h.resolve_left g1⟩
  have hk0 : (sh k).2.1 = 0 := by
    rcases ops hr with e | e | e | e | e | e | e | e | e | e | e | e | e | e | e | e | e | e | e | e | e | e | e | e | e | e | e | e | e
    all_goals first | (exfalso; omega) | (subst e; rfl)
  have hf := fA0 (c := c) (p := p) (i := i) (by rw [← hk]; exact hk0)
  have f1 : (k == 1) = false := by simpa using o1
  have f2 : (k == 2) = false := by simpa using o2
  have f3 : (k == 3) = false := by simp; omega
  have f4 : (k == 4) = false := by simp; omega
  have f5 : (k == 5) = false := by simp; omega
  have f6 : (k == 6) = false := by simp; omega
  have f7 : (k == 7) = false := by simp; omega
  have g2 : (k == 22) = false := by simp; omega
  have g3 : (k == 23) = false := by simp; omega
  have g4 : (k == 24) = false := by simp; omega
  have g5 : (k == 25) = false := by simp; omega
  have g6 : (k == 26) = false := by simp; omega
  have g7 : (k == 27) = false := by simp; omega
  have g8 : (k == 28) = false := by simp; omega
  (repeat (first | refine k_nil ?_ | refine k_n ?_ | refine k_r ?_ | refine k_x ?_ | refine b_n ?_ | refine b_r ?_ | refine b_y rfl ?_ | refine b_z rfl ?_ | refine l_r ?_ | refine l_x ?_ | refine k_seq ?_ | refine k_blk ?_ | refine k_reg ?_ | refine k_ret ?_ | refine k_exit ?_ | refine k_skip ?_ | refine Zs ?_ | refine c_fb rfl (by assumption) ?_ | refine c_f rfl ?_))
  refine ret_1 rfl rfl ⟨yes _ hm ?_, kw⟩
  rw [beq_iff_eq, hf]
end Cd
end Go.Proofs.YtpamkidcmjfieaaGreatDoor
