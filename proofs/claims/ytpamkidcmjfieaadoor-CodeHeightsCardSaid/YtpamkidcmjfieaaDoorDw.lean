/- Code: is a code short? -/
import Derived.Test.YtpamkidcmjfieaaDoorCq
namespace Go.Proofs.YtpamkidcmjfieaaDoor
open Go Go.RowKit Fw Nu
set_option linter.unusedVariables false
set_option maxRecDepth 20000
namespace Cd
def Few (c : Cde) : Prop := (∀ p ∈ c.ps, p.nm.size ≤ 60) ∧ c.ps.length ≤ 20 ∧ c.is.length ≤ 120
theorem fewF (c : Cde) (ap al : Option Addr) (cp cl : Nat) (w : World) (hp : RP w ap c.ps) (hn : c.ps.length ≤ 9223372036854775807) :
    Ret Tryd.prog 5 [.agg #[.slice ap c.ps.length cp, .slice al c.is.length cl]] w fun v w1 => (∃ b, v = .bool b ∧ (b = true ↔ Few c)) ∧ Kp No w w1 := by
  refine ret_enter Tryd.func5 rfl Tryd.ntmps5 rfl ?_
  (repeat (first | refine k_nil ?_ | refine k_n ?_ | refine k_r ?_ | refine k_x ?_ | refine b_n ?_ | refine b_r ?_ | refine b_y rfl ?_ | refine b_z rfl ?_ | refine l_r ?_ | refine l_x ?_ | refine k_seq ?_ | refine k_blk ?_ | refine k_reg ?_ | refine k_ret ?_ | refine k_exit ?_ | refine k_skip ?_ | refine Zs ?_))
  refine s_box (cs := [.slice ap c.ps.length cp, .slice al c.is.length cl]) rfl rfl (fun b1 w1 n1 => ?_)
  have e1 := n1.blk
  have kw1 := n1.kp
  (repeat (first | refine k_nil ?_ | refine k_n ?_ | refine k_r ?_ | refine k_x ?_ | refine b_n ?_ | refine b_r ?_ | refine b_y rfl ?_ | refine b_z rfl ?_ | refine l_r ?_ | refine l_x ?_ | refine k_seq ?_ | refine k_blk ?_ | refine k_reg ?_ | refine k_ret ?_ | refine k_exit ?_ | refine k_skip ?_ | refine Zs ?_))
  refine k_loop (σ := Nat) (fun j => [(1, .pointer (some ⟨b1, 0, none⟩)), (6, .slice ap c.ps.length cp), (7, .int .i64 c.ps.length), (8, .int .i64 j)]) (fun j m => j ≤ c.ps.length ∧ Kp No w1 m ∧ ∀ (q : Nat) p, q < j → c.ps[q]? = some p → p.nm.size ≤ 60) (fun j => c.ps.length - j) 0 ⟨rfl, rfl, rfl, rfl, trivial⟩ ⟨Nat.zero_le _, Kp.refl _ _, fun q p hq => by omega⟩ ?_
  rintro j l m ⟨hj, km, hall⟩
  have e1m := km.get0 e1
  (repeat (first | refine k_nil ?_ | refine k_n ?_ | refine k_r ?_ | refine k_x ?_ | refine b_n ?_ | refine b_r ?_ | refine b_y rfl ?_ | refine b_z rfl ?_ | refine l_r ?_ | refine l_x ?_ | refine k_seq ?_ | refine k_blk ?_ | refine k_reg ?_ | refine k_ret ?_ | refine k_exit ?_ | refine k_skip ?_ | refine Zs ?_))
  refine c_dec rfl (fun hlt => ?_) (fun hge => ?_)
  · obtain ⟨p, hx⟩ : ∃ p, c.ps[j]? = some p := ⟨_, List.getElem?_eq_getElem (by omega)⟩
    obtain ⟨pb, po, rfl, _, hc⟩ := (hp.kp0 (kw1.no km)).at hx
    (repeat (first | refine k_nil ?_ | refine k_n ?_ | refine k_r ?_ | refine k_x ?_ | refine b_n ?_ | refine b_r ?_ | refine b_y rfl ?_ | refine b_z rfl ?_ | refine l_r ?_ | refine l_x ?_ | refine k_seq ?_ | refine k_blk ?_ | refine k_reg ?_ | refine k_ret ?_ | refine k_exit ?_ | refine k_skip ?_ | refine Zs ?_))
    refine s_v (r_ia (i := j) rfl rfl rfl rfl (by omega) (by omega)) ?_
    refine s_v (r_lda (vs := pc p) rfl rfl rfl rfl hc) ?_
    refine s_al rfl (fun b5 m1 n5 => ?_)
    have g5 := n5.ge
    refine s_st (vs := pc p) rfl rfl rfl rfl rfl n5.blk (Nat.le_of_ble_eq_true rfl) (fun m2 s2 => ?_)
    have k2m : Kp No m m2 := n5.kp.trans s2.kp (fun _ _ e => by omega)
    have e5 : m2.heap[b5]? = some (.cells [Value.string p.nm, .int .i64 p.fr, .int .i64 p.to, .int .i64 p.pa, .int .i64 p.sl, .int .i64 p.ty].toArray 32 (0, 0)) := s2.blk
    (repeat (first | refine k_nil ?_ | refine k_n ?_ | refine k_r ?_ | refine k_x ?_ | refine b_n ?_ | refine b_r ?_ | refine b_y rfl ?_ | refine b_z rfl ?_ | refine l_r ?_ | refine l_x ?_ | refine k_seq ?_ | refine k_blk ?_ | refine k_reg ?_ | refine k_ret ?_ | refine k_exit ?_ | refine k_skip ?_ | refine Zs ?_))
    refine c_dec rfl (fun hbig => ?_) (fun hsm => ?_)
    · (repeat (first | refine k_nil ?_ | refine k_n ?_ | refine k_r ?_ | refine k_x ?_ | refine b_n ?_ | refine b_r ?_ | refine b_y rfl ?_ | refine b_z rfl ?_ | refine l_r ?_ | refine l_x ?_ | refine k_seq ?_ | refine k_blk ?_ | refine k_reg ?_ | refine k_ret ?_ | refine k_exit ?_ | refine k_skip ?_ | refine Zs ?_))
      exact ret_1 rfl rfl ⟨⟨false, rfl, fun h => (by cases h), fun h => (by have := h.1 p (List.mem_of_getElem? hx); omega)⟩, (kw1.no km).no k2m⟩
    · (repeat (first | refine k_nil ?_ | refine k_n ?_ | refine k_r ?_ | refine k_x ?_ | refine b_n ?_ | refine b_r ?_ | refine b_y rfl ?_ | refine b_z rfl ?_ | refine l_r ?_ | refine l_x ?_ | refine k_seq ?_ | refine k_blk ?_ | refine k_reg ?_ | refine k_ret ?_ | refine k_exit ?_ | refine k_skip ?_ | refine Zs ?_))
      refine l_next (j + 1) ⟨rfl, rfl, rfl, rfl, trivial⟩ ⟨by omega, km.no k2m, fun q p' hq hp' => ?_⟩ (by omega)
      by_cases e : q = j
      · subst e; rw [hx] at hp'; cases hp'; omega
      · exact hall q p' (by omega) hp'
  · have hnm : ∀ p ∈ c.ps, p.nm.size ≤ 60 := fun p hp => by
      obtain ⟨q, hq⟩ := List.mem_iff_getElem?.1 hp
      exact hall q p (by have := (List.getElem?_eq_some_iff.1 hq).1; omega) hq
    (repeat (first | refine k_nil ?_ | refine k_n ?_ | refine k_r ?_ | refine k_x ?_ | refine b_n ?_ | refine b_r ?_ | refine b_y rfl ?_ | refine b_z rfl ?_ | refine l_r ?_ | refine l_x ?_ | refine k_seq ?_ | refine k_blk ?_ | refine k_reg ?_ | refine k_ret ?_ | refine k_exit ?_ | refine k_skip ?_ | refine Zs ?_))
    by_cases h20 : c.ps.length ≤ 20
    · refine s_set 21 true rfl (decide_eq_true (by omega)) ?_
      (repeat (first | refine k_nil ?_ | refine k_n ?_ | refine k_r ?_ | refine k_x ?_ | refine b_n ?_ | refine b_r ?_ | refine b_y rfl ?_ | refine b_z rfl ?_ | refine l_r ?_ | refine l_x ?_ | refine k_seq ?_ | refine k_blk ?_ | refine k_reg ?_ | refine k_ret ?_ | refine k_exit ?_ | refine k_skip ?_ | refine Zs ?_ | refine Zn ?_ | refine Zu ?_ | refine Zg ?_))
      refine ret_1 rfl rfl ⟨⟨_, rfl, ?_⟩, kw1.no km⟩
      rw [decide_eq_true_eq]
      exact ⟨fun h => ⟨hnm, h20, by omega⟩, fun h => by have := h.2.2; omega⟩
    · refine s_set 21 false rfl (decide_eq_false (by omega)) ?_
      (repeat (first | refine k_nil ?_ | refine k_n ?_ | refine k_r ?_ | refine k_x ?_ | refine b_n ?_ | refine b_r ?_ | refine b_y rfl ?_ | refine b_z rfl ?_ | refine l_r ?_ | refine l_x ?_ | refine k_seq ?_ | refine k_blk ?_ | refine k_reg ?_ | refine k_ret ?_ | refine k_exit ?_ | refine k_skip ?_ | refine Zs ?_ | refine Zn ?_ | refine Zu ?_ | refine Zg ?_))
      exact ret_1 rfl rfl ⟨⟨false, rfl, fun h => (by cases h), fun h => (h20 h.2.1).elim⟩, kw1.no km⟩
end Cd
end Go.Proofs.YtpamkidcmjfieaaDoor
