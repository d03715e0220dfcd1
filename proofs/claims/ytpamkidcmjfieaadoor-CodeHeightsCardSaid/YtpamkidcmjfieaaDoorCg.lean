/- Code: form; effect. -/
import Derived.Test.YtpamkidcmjfieaaDoorCf
namespace Go.Proofs.YtpamkidcmjfieaaDoor
open Go Go.RowKit Fw Nu
set_option linter.unusedVariables false
set_option maxRecDepth 20000
namespace Cd
/-- Where the procedure of a number must begin. -/
def cum (ps : List Prc) : Nat → Int
  | 0 => 0
  | j + 1 => match ps[j]? with | some p => p.to | none => 0
/-- The instructions of a procedure. -/
def part (c : Cde) (p : Prc) : List Ins := (c.is.take p.to.toNat).drop p.fr.toNat
/-- All but the heights may be. -/
def form (c : Cde) : Prop := (∀ (j : Nat) p, c.ps[j]? = some p → fc c p (cum c.ps j)) ∧ (∀ p ∈ c.ps, ∀ i ∈ part c p, fit c p i) ∧ 0 < c.ps.length ∧ cum c.ps c.ps.length = c.is.length
theorem cum_nn {c : Cde} {n : Nat} (h : ∀ (j : Nat) p, j < n → c.ps[j]? = some p → fc c p (cum c.ps j)) : ∀ j, j ≤ n → 0 ≤ cum c.ps j := by
  intro j
  induction j with
  | zero => intro _; exact Int.le_refl _
  | succ j ih =>
    intro hj
    have h1 := ih (by omega)
    have e : cum c.ps (j + 1) = match c.ps[j]? with | some p => p.to | none => 0 := rfl
    rw [e]
    cases hp : c.ps[j]? with
    | none => exact Int.le_refl 0
    | some p =>
      have h2 := (h j p (by omega) hp).2.1
      show 0 ≤ p.to
      omega
theorem RI.sub {w : World} {a : Option Addr} {is : List Ins} (h : RI w a is) {f t cl : Nat} (h1 : f < t) (h2 : t ≤ is.length) (h3 : is.length ≤ cl) : RI w (subA a f cl 3) ((is.take t).drop f) := by
  rcases h with rfl | ⟨b, o, rfl, hb, h⟩
  · simp at h2; omega
  · refine .inr ⟨b, o + f * 3, subA_at (by omega), hb, fun j i hj k hk => ?_⟩
    rw [List.getElem?_drop, List.getElem?_take] at hj
    split at hj
    · have := h (f + j) i hj k hk
      rw [← this]
      congr 2
      omega
    · cases hj
set_option maxHeartbeats 4000000 in
theorem formF (c : Cde) (ap al : Option Addr) (cp cl : Nat) (w : World) (hg : Tk.Glob w) (hs : Shp w) (hp : RP w ap c.ps) (hi : RI w al c.is) (hn : c.ps.length ≤ 1000000) (hm : c.is.length ≤ 1000000) (hcl : c.is.length ≤ cl) (hz : ∀ p ∈ c.ps, p.nm.size ≤ 1000000) :
    Ret Tryd.prog 9 [.agg #[.slice ap c.ps.length cp, .slice al c.is.length cl]] w fun v w1 => (∃ b, v = .bool b ∧ (b = true ↔ form c)) ∧ Kp No w w1 := by
  refine ret_enter Tryd.func9 rfl Tryd.ntmps9 rfl ?_
  (repeat (first | refine k_nil ?_ | refine k_n ?_ | refine k_r ?_ | refine k_x ?_ | refine b_n ?_ | refine b_r ?_ | refine b_y rfl ?_ | refine b_z rfl ?_ | refine l_r ?_ | refine l_x ?_ | refine k_seq ?_ | refine k_blk ?_ | refine k_reg ?_ | refine k_ret ?_ | refine k_exit ?_ | refine k_skip ?_ | refine Zs ?_))
  refine s_box (cs := [.slice ap c.ps.length cp, .slice al c.is.length cl]) rfl rfl (fun b1 w1 n1 => ?_)
  have e1 := n1.blk
  have kw1 := n1.kp
  (repeat (first | refine k_nil ?_ | refine k_n ?_ | refine k_r ?_ | refine k_x ?_ | refine b_n ?_ | refine b_r ?_ | refine b_y rfl ?_ | refine b_z rfl ?_ | refine l_r ?_ | refine l_x ?_ | refine k_seq ?_ | refine k_blk ?_ | refine k_reg ?_ | refine k_ret ?_ | refine k_exit ?_ | refine k_skip ?_ | refine Zs ?_))
  refine k_loop (σ := Nat) (fun j => [(1, .pointer (some ⟨b1, 0, none⟩)), (3, .int .i64 (cum c.ps j)), (9, .slice ap c.ps.length cp), (10, .int .i64 c.ps.length), (11, .int .i64 j)])
    (fun j m => j ≤ c.ps.length ∧ Kp No w1 m ∧ ∀ (q : Nat) p, q < j → c.ps[q]? = some p → fc c p (cum c.ps q)) (fun j => c.ps.length - j) 0 ⟨rfl, rfl, rfl, rfl, rfl, trivial⟩ ⟨Nat.zero_le _, Kp.refl _ _, fun q p hq => by omega⟩ ?_
  rintro j l m ⟨hj, km, hf⟩
  have e1m := km.get0 e1
  have kwm := kw1.no km
  (repeat (first | refine k_nil ?_ | refine k_n ?_ | refine k_r ?_ | refine k_x ?_ | refine b_n ?_ | refine b_r ?_ | refine b_y rfl ?_ | refine b_z rfl ?_ | refine l_r ?_ | refine l_x ?_ | refine k_seq ?_ | refine k_blk ?_ | refine k_reg ?_ | refine k_ret ?_ | refine k_exit ?_ | refine k_skip ?_ | refine Zs ?_))
  refine c_dec rfl (fun hlt => ?_) (fun hge => ?_)
  · obtain ⟨p, hx⟩ : ∃ p, c.ps[j]? = some p := ⟨_, List.getElem?_eq_getElem (by omega)⟩
    obtain ⟨b, o, rfl, _, hc⟩ := (hp.kp0 kwm).at hx
    (repeat (first | refine k_nil ?_ | refine k_n ?_ | refine k_r ?_ | refine k_x ?_ | refine b_n ?_ | refine b_r ?_ | refine b_y rfl ?_ | refine b_z rfl ?_ | refine l_r ?_ | refine l_x ?_ | refine k_seq ?_ | refine k_blk ?_ | refine k_reg ?_ | refine k_ret ?_ | refine k_exit ?_ | refine k_skip ?_ | refine Zs ?_))
    refine s_v (r_ia rfl rfl rfl rfl (by omega) (by omega)) ?_
    refine s_v (r_lda (vs := pc p) rfl rfl rfl rfl hc) ?_
    refine s_al rfl (fun b5 m1 n5 => ?_)
    have g5 := n5.ge
    refine s_st (vs := pc p) rfl rfl rfl rfl rfl n5.blk (Nat.le_of_ble_eq_true rfl) (fun m2 s2 => ?_)
    have k2 : Kp No m m2 := n5.kp.trans s2.kp (fun _ _ e => by omega)
    have e5 : m2.heap[b5]? = some (.cells [Value.string p.nm, .int .i64 p.fr, .int .i64 p.to, .int .i64 p.pa, .int .i64 p.sl, .int .i64 p.ty].toArray 32 (0, 0)) := s2.blk
    (repeat (first | refine k_nil ?_ | refine k_n ?_ | refine k_r ?_ | refine k_x ?_ | refine b_n ?_ | refine b_r ?_ | refine b_y rfl ?_ | refine b_z rfl ?_ | refine l_r ?_ | refine l_x ?_ | refine k_seq ?_ | refine k_blk ?_ | refine k_reg ?_ | refine k_ret ?_ | refine k_exit ?_ | refine k_skip ?_ | refine Zs ?_))
    refine s_v (r_ldb (vs := [.slice (some ⟨b, o, none⟩) c.ps.length cp, .slice al c.is.length cl]) rfl rfl rfl (k2.get0 e1m) rfl rfl) ?_
    refine s_v (r_ldb (vs := pc p) rfl rfl rfl e5 rfl rfl) ?_
    (repeat (first | refine k_nil ?_ | refine k_n ?_ | refine k_r ?_ | refine k_x ?_ | refine b_n ?_ | refine b_r ?_ | refine b_y rfl ?_ | refine b_z rfl ?_ | refine l_r ?_ | refine l_x ?_ | refine k_seq ?_ | refine k_blk ?_ | refine k_reg ?_ | refine k_ret ?_ | refine k_exit ?_ | refine k_skip ?_ | refine Zs ?_))
    refine s_call (us := []) (zs := []) (by kernel_rfl) rfl rfl (face c (some ⟨b, o, none⟩) al c.ps.length cp cl p (cum c.ps j) m2 ((hg.kp kwm).kp k2) (hz p (List.mem_of_getElem? hx))) ?_
    rintro _ m3 ⟨rfl, k3⟩
    have e53 := k3.get0 e5
    have km3 := (km.no k2).no k3
    (repeat (first | refine k_nil ?_ | refine k_n ?_ | refine k_r ?_ | refine k_x ?_ | refine b_n ?_ | refine b_r ?_ | refine b_y rfl ?_ | refine b_z rfl ?_ | refine l_r ?_ | refine l_x ?_ | refine k_seq ?_ | refine k_blk ?_ | refine k_reg ?_ | refine k_ret ?_ | refine k_exit ?_ | refine k_skip ?_ | refine Zs ?_))
    by_cases hfc : fc c p (cum c.ps j)
    · rw [decide_eq_true hfc]
      refine c_f rfl ?_
      (repeat (first | refine k_nil ?_ | refine k_n ?_ | refine k_r ?_ | refine k_x ?_ | refine b_n ?_ | refine b_r ?_ | refine b_y rfl ?_ | refine b_z rfl ?_ | refine l_r ?_ | refine l_x ?_ | refine k_seq ?_ | refine k_blk ?_ | refine k_reg ?_ | refine k_ret ?_ | refine k_exit ?_ | refine k_skip ?_ | refine Zs ?_))
      refine l_next (j + 1) ⟨rfl, by rw [cum, hx]; rfl, rfl, rfl, rfl, trivial⟩ ⟨by omega, km3, fun q x hq hx2 => ?_⟩ (by omega)
      by_cases e : q = j
      · subst e; rw [hx] at hx2; cases hx2; exact hfc
      · exact hf q x (by omega) hx2
    · rw [decide_eq_false hfc]
      refine c_t rfl ?_
      (repeat (first | refine k_nil ?_ | refine k_n ?_ | refine k_r ?_ | refine k_x ?_ | refine b_n ?_ | refine b_r ?_ | refine b_y rfl ?_ | refine b_z rfl ?_ | refine l_r ?_ | refine l_x ?_ | refine k_seq ?_ | refine k_blk ?_ | refine k_reg ?_ | refine k_ret ?_ | refine k_exit ?_ | refine k_skip ?_ | refine Zs ?_))
      exact ret_1 rfl rfl ⟨⟨false, rfl, ⟨(fun h => by cases h), fun h => (hfc (h.1 j p hx)).elim⟩⟩, kw1.no km3⟩
  obtain rfl : j = c.ps.length := by omega
  have hnn := cum_nn hf
  have hfa : ∀ (q : Nat) p, c.ps[q]? = some p → fc c p (cum c.ps q) ∧ 0 ≤ p.fr := fun q p hq => by
    have hl := (List.getElem?_eq_some_iff.1 hq).1
    have h1 := hf q p hl hq
    exact ⟨h1, by have := hnn q (by omega); rw [h1.1]; exact this⟩
  (repeat (first | refine k_nil ?_ | refine k_n ?_ | refine k_r ?_ | refine k_x ?_ | refine b_n ?_ | refine b_r ?_ | refine b_y rfl ?_ | refine b_z rfl ?_ | refine l_r ?_ | refine l_x ?_ | refine k_seq ?_ | refine k_blk ?_ | refine k_reg ?_ | refine k_ret ?_ | refine k_exit ?_ | refine k_skip ?_ | refine Zs ?_))
  refine k_loop (σ := Nat) (fun j => [(1, .pointer (some ⟨b1, 0, none⟩)), (3, .int .i64 (cum c.ps c.ps.length)), (24, .slice ap c.ps.length cp), (25, .int .i64 c.ps.length), (26, .int .i64 j)])
    (fun j m' => j ≤ c.ps.length ∧ Kp No m m' ∧ ∀ (q : Nat) p, q < j → c.ps[q]? = some p → ∀ i ∈ part c p, fit c p i) (fun j => c.ps.length - j) 0 ⟨rfl, rfl, rfl, rfl, rfl, trivial⟩ ⟨Nat.zero_le _, Kp.refl _ _, fun q p hq => by omega⟩ ?_
  rintro j l m' ⟨hj2, km', hfit⟩
  have e1m' := km'.get0 e1m
  have kwm' := kwm.no km'
  (repeat (first | refine k_nil ?_ | refine k_n ?_ | refine k_r ?_ | refine k_x ?_ | refine b_n ?_ | refine b_r ?_ | refine b_y rfl ?_ | refine b_z rfl ?_ | refine l_r ?_ | refine l_x ?_ | refine k_seq ?_ | refine k_blk ?_ | refine k_reg ?_ | refine k_ret ?_ | refine k_exit ?_ | refine k_skip ?_ | refine Zs ?_))
  refine c_dec rfl (fun hlt => ?_) (fun hge => ?_)
  · obtain ⟨p, hx⟩ : ∃ p, c.ps[j]? = some p := ⟨_, List.getElem?_eq_getElem (by omega)⟩
    obtain ⟨⟨f1, f2, f3, f4, f5, _⟩, f0⟩ := hfa j p hx
    obtain ⟨b, o, rfl, _, hc⟩ := (hp.kp0 kwm').at hx
    (repeat (first | refine k_nil ?_ | refine k_n ?_ | refine k_r ?_ | refine k_x ?_ | refine b_n ?_ | refine b_r ?_ | refine b_y rfl ?_ | refine b_z rfl ?_ | refine l_r ?_ | refine l_x ?_ | refine k_seq ?_ | refine k_blk ?_ | refine k_reg ?_ | refine k_ret ?_ | refine k_exit ?_ | refine k_skip ?_ | refine Zs ?_))
    refine s_v (r_ia rfl rfl rfl rfl (by omega) (by omega)) ?_
    refine s_v (r_lda (vs := pc p) rfl rfl rfl rfl hc) ?_
    refine s_al rfl (fun b7 m1 n7 => ?_)
    have g7 := n7.ge
    refine s_st (vs := pc p) rfl rfl rfl rfl rfl n7.blk (Nat.le_of_ble_eq_true rfl) (fun m2 s2 => ?_)
    have k2 : Kp No m' m2 := n7.kp.trans s2.kp (fun _ _ e => by omega)
    have e7 : m2.heap[b7]? = some (.cells [Value.string p.nm, .int .i64 p.fr, .int .i64 p.to, .int .i64 p.pa, .int .i64 p.sl, .int .i64 p.ty].toArray 32 (0, 0)) := s2.blk
    have e12 := k2.get0 e1m'
    have hpl : (part c p).length = p.to.toNat - p.fr.toNat := by unfold part; rw [List.length_drop, List.length_take]; omega
    have hri : RI m2 (subA al p.fr.toNat cl 3) (part c p) := ((hi.kp0 kwm').kp0 k2).sub (by omega) (by omega) hcl
    (repeat (first | refine k_nil ?_ | refine k_n ?_ | refine k_r ?_ | refine k_x ?_ | refine b_n ?_ | refine b_r ?_ | refine b_y rfl ?_ | refine b_z rfl ?_ | refine l_r ?_ | refine l_x ?_ | refine k_seq ?_ | refine k_blk ?_ | refine k_reg ?_ | refine k_ret ?_ | refine k_exit ?_ | refine k_skip ?_ | refine Zs ?_))
    refine s_v (r_slx (a' := subA al p.fr.toNat cl 3) (n' := (part c p).length) (c' := cl - p.fr.toNat) rfl rfl rfl rfl rfl (by omega) (by omega) (by omega) (by omega) rfl (by rw [hpl]) rfl) ?_
    (repeat (first | refine k_nil ?_ | refine k_n ?_ | refine k_r ?_ | refine k_x ?_ | refine b_n ?_ | refine b_r ?_ | refine b_y rfl ?_ | refine b_z rfl ?_ | refine l_r ?_ | refine l_x ?_ | refine k_seq ?_ | refine k_blk ?_ | refine k_reg ?_ | refine k_ret ?_ | refine k_exit ?_ | refine k_skip ?_ | refine Zs ?_))
    refine s_call (us := []) (zs := []) (by kernel_rfl) rfl rfl (conI c (some ⟨b, o, none⟩) al cp c.is.length cl p b1 b7 (part c p) _ _ m2 hri (by omega) ((hs.kp kwm').kp k2) e12 e7 ⟨by omega, f5⟩ ⟨by omega, by omega⟩ hn) ?_
    rintro _ m3 ⟨⟨rfl, hbad⟩ | ⟨rfl, hok⟩, k3⟩
    · (repeat (first | refine k_nil ?_ | refine k_n ?_ | refine k_r ?_ | refine k_x ?_ | refine b_n ?_ | refine b_r ?_ | refine b_y rfl ?_ | refine b_z rfl ?_ | refine l_r ?_ | refine l_x ?_ | refine k_seq ?_ | refine k_blk ?_ | refine k_reg ?_ | refine k_ret ?_ | refine k_exit ?_ | refine k_skip ?_ | refine Zs ?_))
      refine c_t rfl ?_
      (repeat (first | refine k_nil ?_ | refine k_n ?_ | refine k_r ?_ | refine k_x ?_ | refine b_n ?_ | refine b_r ?_ | refine b_y rfl ?_ | refine b_z rfl ?_ | refine l_r ?_ | refine l_x ?_ | refine k_seq ?_ | refine k_blk ?_ | refine k_reg ?_ | refine k_ret ?_ | refine k_exit ?_ | refine k_skip ?_ | refine Zs ?_))
      exact ret_1 rfl rfl ⟨⟨false, rfl, ⟨(fun h => by cases h), fun h => (hbad (h.2.1 p (List.mem_of_getElem? hx))).elim⟩⟩, (kwm'.no k2).no k3⟩
    · (repeat (first | refine k_nil ?_ | refine k_n ?_ | refine k_r ?_ | refine k_x ?_ | refine b_n ?_ | refine b_r ?_ | refine b_y rfl ?_ | refine b_z rfl ?_ | refine l_r ?_ | refine l_x ?_ | refine k_seq ?_ | refine k_blk ?_ | refine k_reg ?_ | refine k_ret ?_ | refine k_exit ?_ | refine k_skip ?_ | refine Zs ?_))
      refine c_f rfl ?_
      (repeat (first | refine k_nil ?_ | refine k_n ?_ | refine k_r ?_ | refine k_x ?_ | refine b_n ?_ | refine b_r ?_ | refine b_y rfl ?_ | refine b_z rfl ?_ | refine l_r ?_ | refine l_x ?_ | refine k_seq ?_ | refine k_blk ?_ | refine k_reg ?_ | refine k_ret ?_ | refine k_exit ?_ | refine k_skip ?_ | refine Zs ?_))
      refine l_next (j + 1) ⟨rfl, rfl, rfl, rfl, rfl, trivial⟩ ⟨by omega, (km'.no k2).no k3, fun q x hq hx2 => ?_⟩ (by omega)
      by_cases e : q = j
      · subst e; rw [hx] at hx2; cases hx2; exact hok
      · exact hfit q x (by omega) hx2
  obtain rfl : j = c.ps.length := by omega
  have hall : ∀ p ∈ c.ps, ∀ i ∈ part c p, fit c p i := fun p hp => by
    obtain ⟨q, hq⟩ := List.mem_iff_getElem?.1 hp
    exact hfit q p (List.getElem?_eq_some_iff.1 hq).1 hq
  (repeat (first | refine k_nil ?_ | refine k_n ?_ | refine k_r ?_ | refine k_x ?_ | refine b_n ?_ | refine b_r ?_ | refine b_y rfl ?_ | refine b_z rfl ?_ | refine l_r ?_ | refine l_x ?_ | refine k_seq ?_ | refine k_blk ?_ | refine k_reg ?_ | refine k_ret ?_ | refine k_exit ?_ | refine k_skip ?_ | refine Zs ?_))
  by_cases h0 : (0 : Int) < c.ps.length
  · refine s_set 44 true rfl (decide_eq_true h0) ?_
    (repeat (first | refine k_nil ?_ | refine k_n ?_ | refine k_r ?_ | refine k_x ?_ | refine b_n ?_ | refine b_r ?_ | refine b_y rfl ?_ | refine b_z rfl ?_ | refine l_r ?_ | refine l_x ?_ | refine k_seq ?_ | refine k_blk ?_ | refine k_reg ?_ | refine k_ret ?_ | refine k_exit ?_ | refine k_skip ?_ | refine Zs ?_ | refine Zn ?_ | refine Zu ?_ | refine Zg ?_))
    refine ret_1 rfl rfl ⟨⟨_, rfl, ?_⟩, kwm'⟩
    rw [beq_iff_eq]
    exact ⟨fun h => ⟨fun q p hq => (hfa q p hq).1, hall, by omega, h⟩, fun h => h.2.2.2⟩
  · refine s_set 44 false rfl (decide_eq_false h0) ?_
    (repeat (first | refine k_nil ?_ | refine k_n ?_ | refine k_r ?_ | refine k_x ?_ | refine b_n ?_ | refine b_r ?_ | refine b_y rfl ?_ | refine b_z rfl ?_ | refine l_r ?_ | refine l_x ?_ | refine k_seq ?_ | refine k_blk ?_ | refine k_reg ?_ | refine k_ret ?_ | refine k_exit ?_ | refine k_skip ?_ | refine Zs ?_ | refine Zn ?_ | refine Zu ?_ | refine Zg ?_))
    exact ret_1 rfl rfl ⟨⟨false, rfl, ⟨(fun h => by cases h), fun h => by have := h.2.2.1; omega⟩⟩, kwm'⟩
end Cd
end Go.Proofs.YtpamkidcmjfieaaDoor
