/- Code: the document's takes, leaves, fits, after. -/
import Derived.Test.YtpamkidcmjfieaaGreatDoorFz
import Derived.Test.YtpamkidcmjfieaaGreatDoorCe
namespace Go.Proofs.YtpamkidcmjfieaaGreatDoor
open Go Go.RowKit Fw Nu
set_option linter.unusedVariables false
set_option maxRecDepth 20000
namespace Cd
theorem ops {n : Int} (h : 1 ≤ n ∧ n ≤ 29) : n = 1 ∨ n = 2 ∨ n = 3 ∨ n = 4 ∨ n = 5 ∨ n = 6 ∨ n = 7 ∨ n = 8 ∨ n = 9 ∨ n = 10 ∨ n = 11 ∨ n = 12 ∨ n = 13 ∨ n = 14 ∨ n = 15 ∨ n = 16 ∨ n = 17 ∨ n = 18 ∨ n = 19 ∨ n = 20 ∨ n = 21 ∨ n = 22 ∨ n = 23 ∨ n = 24 ∨ n = 25 ∨ n = 26 ∨ n = 27 ∨ n = 28 ∨ n = 29 := by omega
theorem eff_of {c : Cde} {i : Ins} {k : Int} (e : i.op = k) (h : k ≠ 26) (h' : k ≠ 27) : eff c i = ((sh k).2.2.1, (sh k).2.2.2) := by
  unfold eff; rw [e, if_neg h, if_neg h']
set_option maxHeartbeats 8000000 in
theorem rtakes (c : Cde) (ap al : Option Addr) (cp nl cl : Nat) (i : Ins) (w : World) (hp : RP w ap c.ps) (h1 : 1 ≤ i.op ∧ i.op ≤ 29) (h26 : i.op = 26 → 0 ≤ i.arg ∧ i.arg < c.ps.length) :
    Ret Tryz.prog 32 [.agg #[.slice ap c.ps.length cp, .slice al nl cl], .agg (ic i).toArray] w fun v w1 => v = .int .i64 (eff c i).1 ∧ Kp No w w1 := by
  refine ret_enter Tryz.func32 rfl Tryz.ntmps32 rfl ?_
  (repeat (first | refine k_nil ?_ | refine k_n ?_ | refine k_r ?_ | refine k_x ?_ | refine b_n ?_ | refine b_r ?_ | refine b_y rfl ?_ | refine b_z rfl ?_ | refine l_r ?_ | refine l_x ?_ | refine k_seq ?_ | refine k_blk ?_ | refine k_reg ?_ | refine k_ret ?_ | refine k_exit ?_ | refine k_skip ?_ | refine Zs ?_))
  refine s_box (cs := [.slice ap c.ps.length cp, .slice al nl cl]) rfl rfl (fun b3 w1 n1 => ?_)
  refine s_box (cs := ic i) rfl rfl (fun b4 w2 n2 => ?_)
  have e3 := n2.kp.get0 n1.blk
  have e4 : w2.heap[b4]? = some (.cells [Value.int .i64 i.op, .int .i64 i.arg, .int .i64 i.more].toArray 58 (0, 0)) := n2.blk
  have kw := n1.kp.no n2.kp
  by_cases c26 : i.op = 26
  · obtain ⟨a0, a1⟩ := h26 c26
    obtain ⟨p, hx⟩ : ∃ p, c.ps[i.arg.toNat]? = some p := ⟨_, List.getElem?_eq_getElem (by omega)⟩
    obtain ⟨b, o, rfl, _, hc⟩ := (hp.kp0 kw).at hx
    have hc3 : w2.cell? ⟨b, o + i.arg.toNat * 6 + 3, none⟩ = some (.int .i64 p.pa) := by
      have := hc 3 (by omega)
      rw [Int.toNat_natCast] at this
      exact this
    have he : (eff c i).1 = p.pa := by unfold eff; rw [if_pos c26, hx]
    rw [he]
    rw [c26] at e4
    (repeat (first | refine k_nil ?_ | refine k_n ?_ | refine k_r ?_ | refine k_x ?_ | refine b_n ?_ | refine b_r ?_ | refine b_y rfl ?_ | refine b_z rfl ?_ | refine l_r ?_ | refine l_x ?_ | refine k_seq ?_ | refine k_blk ?_ | refine k_reg ?_ | refine k_ret ?_ | refine k_exit ?_ | refine k_skip ?_ | refine Zs ?_ | refine c_t rfl ?_ | refine c_f rfl ?_))
    refine s_v (r_ia rfl rfl rfl rfl a0 a1) ?_
    (repeat (first | refine k_nil ?_ | refine k_n ?_ | refine k_r ?_ | refine k_x ?_ | refine b_n ?_ | refine b_r ?_ | refine b_y rfl ?_ | refine b_z rfl ?_ | refine l_r ?_ | refine l_x ?_ | refine k_seq ?_ | refine k_blk ?_ | refine k_reg ?_ | refine k_ret ?_ | refine k_exit ?_ | refine k_skip ?_ | refine Zs ?_ | refine c_t rfl ?_ | refine c_f rfl ?_))
    exact ret_1 rfl rfl ⟨rfl, kw⟩
  by_cases c27 : i.op = 27
  · have he : (eff c i).1 = i.arg := by unfold eff; rw [if_neg c26, if_pos c27]
    rw [he]
    rw [c27] at e4
    (repeat (first | refine k_nil ?_ | refine k_n ?_ | refine k_r ?_ | refine k_x ?_ | refine b_n ?_ | refine b_r ?_ | refine b_y rfl ?_ | refine b_z rfl ?_ | refine l_r ?_ | refine l_x ?_ | refine k_seq ?_ | refine k_blk ?_ | refine k_reg ?_ | refine k_ret ?_ | refine k_exit ?_ | refine k_skip ?_ | refine Zs ?_ | refine c_t rfl ?_ | refine c_f rfl ?_))
    exact ret_1 rfl rfl ⟨rfl, kw⟩
  obtain ⟨k, hk⟩ : ∃ k, k = i.op := ⟨_, rfl⟩
  rw [eff_of hk.symm (by omega) (by omega)]
  rw [← hk] at e4 h1 c26 c27
  rcases ops h1 with e | e | e | e | e | e | e | e | e | e | e | e | e | e | e | e | e | e | e | e | e | e | e | e | e | e | e | e | e
  all_goals first | (exact absurd e c26) | (exact absurd e c27) | (subst e; (repeat (first | refine k_nil ?_ | refine k_n ?_ | refine k_r ?_ | refine k_x ?_ | refine b_n ?_ | refine b_r ?_ | refine b_y rfl ?_ | refine b_z rfl ?_ | refine l_r ?_ | refine l_x ?_ | refine k_seq ?_ | refine k_blk ?_ | refine k_reg ?_ | refine k_ret ?_ | refine k_exit ?_ | refine k_skip ?_ | refine Zs ?_ | refine c_t rfl ?_ | refine c_f rfl ?_)); exact ret_1 rfl rfl ⟨rfl, kw⟩)
set_option maxHeartbeats 8000000 in
theorem rleaves (c : Cde) (ap al : Option Addr) (cp nl cl : Nat) (i : Ins) (w : World) (hp : RP w ap c.ps) (h1 : 1 ≤ i.op ∧ i.op ≤ 29) (h26 : i.op = 26 → 0 ≤ i.arg ∧ i.arg < c.ps.length) :
    Ret Tryz.prog 59 [.agg #[.slice ap c.ps.length cp, .slice al nl cl], .agg (ic i).toArray] w fun v w1 => v = .int .i64 (eff c i).2 ∧ Kp No w w1 := by
  refine ret_enter Tryz.func59 rfl Tryz.ntmps59 rfl ?_
  (repeat (first | refine k_nil ?_ | refine k_n ?_ | refine k_r ?_ | refine k_x ?_ | refine b_n ?_ | refine b_r ?_ | refine b_y rfl ?_ | refine b_z rfl ?_ | refine l_r ?_ | refine l_x ?_ | refine k_seq ?_ | refine k_blk ?_ | refine k_reg ?_ | refine k_ret ?_ | refine k_exit ?_ | refine k_skip ?_ | refine Zs ?_))
  refine s_box (cs := [.slice ap c.ps.length cp, .slice al nl cl]) rfl rfl (fun b3 w1 n1 => ?_)
  refine s_box (cs := ic i) rfl rfl (fun b4 w2 n2 => ?_)
  have e3 := n2.kp.get0 n1.blk
  have e4 : w2.heap[b4]? = some (.cells [Value.int .i64 i.op, .int .i64 i.arg, .int .i64 i.more].toArray 58 (0, 0)) := n2.blk
  have kw := n1.kp.no n2.kp
  by_cases c26 : i.op = 26
  · obtain ⟨a0, a1⟩ := h26 c26
    obtain ⟨p, hx⟩ : ∃ p, c.ps[i.arg.toNat]? = some p := ⟨_, List.getElem?_eq_getElem (by omega)⟩
    obtain ⟨b, o, rfl, _, hc⟩ := (hp.kp0 kw).at hx
    have hc3 : w2.cell? ⟨b, o + i.arg.toNat * 6 + 5, none⟩ = some (.int .i64 p.ty) := by
      have := hc 5 (by omega)
      rw [Int.toNat_natCast] at this
      exact this
    have he : (eff c i).2 = if p.ty = 1 then 1 else 0 := by unfold eff; rw [if_pos c26, hx]
    rw [he]
    rw [c26] at e4
    (repeat (first | refine k_nil ?_ | refine k_n ?_ | refine k_r ?_ | refine k_x ?_ | refine b_n ?_ | refine b_r ?_ | refine b_y rfl ?_ | refine b_z rfl ?_ | refine l_r ?_ | refine l_x ?_ | refine k_seq ?_ | refine k_blk ?_ | refine k_reg ?_ | refine k_ret ?_ | refine k_exit ?_ | refine k_skip ?_ | refine Zs ?_ | refine c_t rfl ?_ | refine c_f rfl ?_))
    refine s_v (r_ia rfl rfl rfl rfl a0 a1) ?_
    (repeat (first | refine k_nil ?_ | refine k_n ?_ | refine k_r ?_ | refine k_x ?_ | refine b_n ?_ | refine b_r ?_ | refine b_y rfl ?_ | refine b_z rfl ?_ | refine l_r ?_ | refine l_x ?_ | refine k_seq ?_ | refine k_blk ?_ | refine k_reg ?_ | refine k_ret ?_ | refine k_exit ?_ | refine k_skip ?_ | refine Zs ?_))
    refine c_eq rfl (fun h => ?_) (fun h => ?_)
    · rw [if_pos h]
      (repeat (first | refine k_nil ?_ | refine k_n ?_ | refine k_r ?_ | refine k_x ?_ | refine b_n ?_ | refine b_r ?_ | refine b_y rfl ?_ | refine b_z rfl ?_ | refine l_r ?_ | refine l_x ?_ | refine k_seq ?_ | refine k_blk ?_ | refine k_reg ?_ | refine k_ret ?_ | refine k_exit ?_ | refine k_skip ?_ | refine Zs ?_ | refine c_t rfl ?_ | refine c_f rfl ?_))
      exact ret_1 rfl rfl ⟨rfl, kw⟩
    · rw [if_neg h]
      (repeat (first | refine k_nil ?_ | refine k_n ?_ | refine k_r ?_ | refine k_x ?_ | refine b_n ?_ | refine b_r ?_ | refine b_y rfl ?_ | refine b_z rfl ?_ | refine l_r ?_ | refine l_x ?_ | refine k_seq ?_ | refine k_blk ?_ | refine k_reg ?_ | refine k_ret ?_ | refine k_exit ?_ | refine k_skip ?_ | refine Zs ?_ | refine c_t rfl ?_ | refine c_f rfl ?_))
      exact ret_1 rfl rfl ⟨rfl, kw⟩
  by_cases c27 : i.op = 27
  · have he : (eff c i).2 = 0 := by unfold eff; rw [if_neg c26, if_pos c27]
    rw [he]
    rw [c27] at e4
    (repeat (first | refine k_nil ?_ | refine k_n ?_ | refine k_r ?_ | refine k_x ?_ | refine b_n ?_ | refine b_r ?_ | refine b_y rfl ?_ | refine b_z rfl ?_ | refine l_r ?_ | refine l_x ?_ | refine k_seq ?_ | refine k_blk ?_ | refine k_reg ?_ | refine k_ret ?_ | refine k_exit ?_ | refine k_skip ?_ | refine Zs ?_ | refine c_t rfl ?_ | refine c_f rfl ?_))
    exact ret_1 rfl rfl ⟨rfl, kw⟩
  obtain ⟨k, hk⟩ : ∃ k, k = i.op := ⟨_, rfl⟩
  rw [eff_of hk.symm (by omega) (by omega)]
  rw [← hk] at e4 h1 c26 c27
  rcases ops h1 with e | e | e | e | e | e | e | e | e | e | e | e | e | e | e | e | e | e | e | e | e | e | e | e | e | e | e | e | e
  all_goals first | (exact absurd e c26) | (exact absurd e c27) | (subst e; (repeat (first | refine k_nil ?_ | refine k_n ?_ | refine k_r ?_ | refine k_x ?_ | refine b_n ?_ | refine b_r ?_ | refine b_y rfl ?_ | refine b_z rfl ?_ | refine l_r ?_ | refine l_x ?_ | refine k_seq ?_ | refine k_blk ?_ | refine k_reg ?_ | refine k_ret ?_ | refine k_exit ?_ | refine k_skip ?_ | refine Zs ?_ | refine c_t rfl ?_ | refine c_f rfl ?_)); exact ret_1 rfl rfl ⟨rfl, kw⟩)
end Cd
end Go.Proofs.YtpamkidcmjfieaaGreatDoor
