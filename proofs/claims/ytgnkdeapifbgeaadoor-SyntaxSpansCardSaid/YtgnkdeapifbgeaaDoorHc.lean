/- All of the parser's arenas: cloned. -/
import Derived.Test.YtgnkdeapifbgeaaDoorHa
namespace Go.Proofs.YtgnkdeapifbgeaaDoor.Sy
open Go Go.RowKit Fw
set_option linter.unusedVariables false
set_option maxRecDepth 20000
theorem clX (v0 : Value) (k : Nat) (xs : List Value) (w : World) (own : w.ownsRow 0 35 9 v0 k xs) (h1 : xs.all Value.oneCell' = true) (hk : k ≤ 30000) :
    Ret Tryd.prog 35 [v0] w fun u w1 => w1.ownsRow 0 35 9 u k xs ∧ Kp No w w1 := by
  obtain ⟨a, c, e, hc, h0, hr⟩ := own_read own
  subst e
  refine ret_enter Tryd.func35 rfl Tryd.ntmps35 rfl ?_
  (repeat (first | refine k_nil ?_ | refine k_n ?_ | refine k_r ?_ | refine k_x ?_ | refine b_n ?_ | refine b_r ?_ | refine b_y rfl ?_ | refine b_z rfl ?_ | refine l_r ?_ | refine l_x ?_ | refine k_seq ?_ | refine k_blk ?_ | refine k_reg ?_ | refine k_ret ?_ | refine k_exit ?_ | refine k_skip ?_ | refine Zs ?_))
  refine s_v (r_seq rfl rfl rfl) ?_
  (repeat (first | refine k_nil ?_ | refine k_n ?_ | refine k_r ?_ | refine k_x ?_ | refine b_n ?_ | refine b_r ?_ | refine b_y rfl ?_ | refine b_z rfl ?_ | refine l_r ?_ | refine l_x ?_ | refine k_seq ?_ | refine k_blk ?_ | refine k_reg ?_ | refine k_ret ?_ | refine k_exit ?_ | refine k_skip ?_ | refine Zs ?_))
  cases a with
  | none =>
    refine c_t rfl ?_
    have := h0 rfl
    subst this
    have hx : xs = [] := List.eq_nil_of_length_eq_zero (by have := own.1; omega)
    subst hx
    (repeat (first | refine k_nil ?_ | refine k_n ?_ | refine k_r ?_ | refine k_x ?_ | refine b_n ?_ | refine b_r ?_ | refine b_y rfl ?_ | refine b_z rfl ?_ | refine l_r ?_ | refine l_x ?_ | refine k_seq ?_ | refine k_blk ?_ | refine k_reg ?_ | refine k_ret ?_ | refine k_exit ?_ | refine k_skip ?_ | refine Zs ?_))
    exact ret_1 rfl rfl ⟨⟨rfl, .inl ⟨rfl, rfl⟩⟩, Kp.refl _ _⟩
  | some ad =>
    obtain ⟨g, rfl, _, _, hcell⟩ := hr _ rfl
    refine c_f rfl ?_
    (repeat (first | refine k_nil ?_ | refine k_n ?_ | refine k_r ?_ | refine k_x ?_ | refine b_n ?_ | refine b_r ?_ | refine b_y rfl ?_ | refine b_z rfl ?_ | refine l_r ?_ | refine l_x ?_ | refine k_seq ?_ | refine k_blk ?_ | refine k_reg ?_ | refine k_ret ?_ | refine k_exit ?_ | refine k_skip ?_ | refine Zs ?_))
    refine s_bs0 rfl rfl (fun b1 w1 n1 => ?_)
    have y1 := n1.ge
    (repeat (first | refine k_nil ?_ | refine k_n ?_ | refine k_r ?_ | refine k_x ?_ | refine b_n ?_ | refine b_r ?_ | refine b_y rfl ?_ | refine b_z rfl ?_ | refine l_r ?_ | refine l_x ?_ | refine k_seq ?_ | refine k_blk ?_ | refine k_reg ?_ | refine k_ret ?_ | refine k_exit ?_ | refine k_skip ?_ | refine Zs ?_))
    refine s_app (size := 9) (bytes := 104) (base := 0) (news := xs) rfl rfl rfl rfl rfl rfl rfl rfl (own_empty n1 (Nat.zero_le _)) rfl (fun j u hj => n1.kp.cell0 (hcell j u hj)) own.1 h1 (by omega) (by omega) (Nat.zero_le _) ?_
    intro v2 w2 a2
    have k2 : Kp No w w2 := n1.kp.trans a2.kp (fun i hi e => by have : i = b1 := Option.some.inj e; omega)
    obtain ⟨a', c', rfl, hc', ha', hr'⟩ := own_read a2.own
    (repeat (first | refine k_nil ?_ | refine k_n ?_ | refine k_r ?_ | refine k_x ?_ | refine b_n ?_ | refine b_r ?_ | refine b_y rfl ?_ | refine b_z rfl ?_ | refine l_r ?_ | refine l_x ?_ | refine k_seq ?_ | refine k_blk ?_ | refine k_reg ?_ | refine k_ret ?_ | refine k_exit ?_ | refine k_skip ?_ | refine Zs ?_))
    refine ret_1 rfl rfl ⟨?_, k2⟩
    have := a2.own
    rw [List.nil_append] at this
    rw [Nat.zero_add] at this ⊢
    exact this
theorem alX {p o : Nat} {cs : List Value} {T : TypeId} (v0 : Value) (k : Nat) (xs : List Value) (w : World) (hb : w.heap[p]? = some (.cells cs.toArray T (0, 0))) (ho : cs[o]? = some v0) (own : w.ownsRow 0 35 9 v0 k xs) (h1 : xs.all Value.oneCell' = true) (hk : k ≤ 30000) :
    Ret Tryd.prog 20 [.pointer (some ⟨p, o, none⟩)] w fun u w1 => w1.ownsRow 0 35 9 u k xs ∧ Kp No w w1 := by
  obtain ⟨a, c, e, hc, h0, hr⟩ := own_read own
  subst e
  have hc : w.cell? ⟨p, o + 0, none⟩ = some (.slice a k c) := cell_of_blk hb (by simpa using ho)
  refine ret_enter Tryd.func20 rfl Tryd.ntmps20 rfl ?_
  (repeat (first | refine k_nil ?_ | refine k_n ?_ | refine k_r ?_ | refine k_x ?_ | refine b_n ?_ | refine b_r ?_ | refine b_y rfl ?_ | refine b_z rfl ?_ | refine l_r ?_ | refine l_x ?_ | refine k_seq ?_ | refine k_blk ?_ | refine k_reg ?_ | refine k_ret ?_ | refine k_exit ?_ | refine k_skip ?_ | refine Zs ?_))
  refine s_call (us := []) (zs := []) (by kernel_rfl) rfl rfl (clX _ k xs w own h1 hk) ?_
  rintro u w1 ⟨own1, k1⟩
  obtain ⟨a', c', rfl, _⟩ := own_read own1
  (repeat (first | refine k_nil ?_ | refine k_n ?_ | refine k_r ?_ | refine k_x ?_ | refine b_n ?_ | refine b_r ?_ | refine b_y rfl ?_ | refine b_z rfl ?_ | refine l_r ?_ | refine l_x ?_ | refine k_seq ?_ | refine k_blk ?_ | refine k_reg ?_ | refine k_ret ?_ | refine k_exit ?_ | refine k_skip ?_ | refine Zs ?_))
  exact ret_1 rfl rfl ⟨own1, k1⟩
theorem clS (v0 : Value) (k : Nat) (xs : List Value) (w : World) (own : w.ownsRow 0 39 9 v0 k xs) (h1 : xs.all Value.oneCell' = true) (hk : k ≤ 30000) :
    Ret Tryd.prog 36 [v0] w fun u w1 => w1.ownsRow 0 39 9 u k xs ∧ Kp No w w1 := by
  obtain ⟨a, c, e, hc, h0, hr⟩ := own_read own
  subst e
  refine ret_enter Tryd.func36 rfl Tryd.ntmps36 rfl ?_
  (repeat (first | refine k_nil ?_ | refine k_n ?_ | refine k_r ?_ | refine k_x ?_ | refine b_n ?_ | refine b_r ?_ | refine b_y rfl ?_ | refine b_z rfl ?_ | refine l_r ?_ | refine l_x ?_ | refine k_seq ?_ | refine k_blk ?_ | refine k_reg ?_ | refine k_ret ?_ | refine k_exit ?_ | refine k_skip ?_ | refine Zs ?_))
  refine s_v (r_seq rfl rfl rfl) ?_
  (repeat (first | refine k_nil ?_ | refine k_n ?_ | refine k_r ?_ | refine k_x ?_ | refine b_n ?_ | refine b_r ?_ | refine b_y rfl ?_ | refine b_z rfl ?_ | refine l_r ?_ | refine l_x ?_ | refine k_seq ?_ | refine k_blk ?_ | refine k_reg ?_ | refine k_ret ?_ | refine k_exit ?_ | refine k_skip ?_ | refine Zs ?_))
  cases a with
  | none =>
    refine c_t rfl ?_
    have := h0 rfl
    subst this
    have hx : xs = [] := List.eq_nil_of_length_eq_zero (by have := own.1; omega)
    subst hx
    (repeat (first | refine k_nil ?_ | refine k_n ?_ | refine k_r ?_ | refine k_x ?_ | refine b_n ?_ | refine b_r ?_ | refine b_y rfl ?_ | refine b_z rfl ?_ | refine l_r ?_ | refine l_x ?_ | refine k_seq ?_ | refine k_blk ?_ | refine k_reg ?_ | refine k_ret ?_ | refine k_exit ?_ | refine k_skip ?_ | refine Zs ?_))
    exact ret_1 rfl rfl ⟨⟨rfl, .inl ⟨rfl, rfl⟩⟩, Kp.refl _ _⟩
  | some ad =>
    obtain ⟨g, rfl, _, _, hcell⟩ := hr _ rfl
    refine c_f rfl ?_
    (repeat (first | refine k_nil ?_ | refine k_n ?_ | refine k_r ?_ | refine k_x ?_ | refine b_n ?_ | refine b_r ?_ | refine b_y rfl ?_ | refine b_z rfl ?_ | refine l_r ?_ | refine l_x ?_ | refine k_seq ?_ | refine k_blk ?_ | refine k_reg ?_ | refine k_ret ?_ | refine k_exit ?_ | refine k_skip ?_ | refine Zs ?_))
    refine s_bs0 rfl rfl (fun b1 w1 n1 => ?_)
    have y1 := n1.ge
    (repeat (first | refine k_nil ?_ | refine k_n ?_ | refine k_r ?_ | refine k_x ?_ | refine b_n ?_ | refine b_r ?_ | refine b_y rfl ?_ | refine b_z rfl ?_ | refine l_r ?_ | refine l_x ?_ | refine k_seq ?_ | refine k_blk ?_ | refine k_reg ?_ | refine k_ret ?_ | refine k_exit ?_ | refine k_skip ?_ | refine Zs ?_))
    refine s_app (size := 9) (bytes := 112) (base := 0) (news := xs) rfl rfl rfl rfl rfl rfl rfl rfl (own_empty n1 (Nat.zero_le _)) rfl (fun j u hj => n1.kp.cell0 (hcell j u hj)) own.1 h1 (by omega) (by omega) (Nat.zero_le _) ?_
    intro v2 w2 a2
    have k2 : Kp No w w2 := n1.kp.trans a2.kp (fun i hi e => by have : i = b1 := Option.some.inj e; omega)
    obtain ⟨a', c', rfl, hc', ha', hr'⟩ := own_read a2.own
    (repeat (first | refine k_nil ?_ | refine k_n ?_ | refine k_r ?_ | refine k_x ?_ | refine b_n ?_ | refine b_r ?_ | refine b_y rfl ?_ | refine b_z rfl ?_ | refine l_r ?_ | refine l_x ?_ | refine k_seq ?_ | refine k_blk ?_ | refine k_reg ?_ | refine k_ret ?_ | refine k_exit ?_ | refine k_skip ?_ | refine Zs ?_))
    refine ret_1 rfl rfl ⟨?_, k2⟩
    have := a2.own
    rw [List.nil_append] at this
    rw [Nat.zero_add] at this ⊢
    exact this
theorem alS {p o : Nat} {cs : List Value} {T : TypeId} (v0 : Value) (k : Nat) (xs : List Value) (w : World) (hb : w.heap[p]? = some (.cells cs.toArray T (0, 0))) (ho : cs[o]? = some v0) (own : w.ownsRow 0 39 9 v0 k xs) (h1 : xs.all Value.oneCell' = true) (hk : k ≤ 30000) :
    Ret Tryd.prog 21 [.pointer (some ⟨p, o, none⟩)] w fun u w1 => w1.ownsRow 0 39 9 u k xs ∧ Kp No w w1 := by
  obtain ⟨a, c, e, hc, h0, hr⟩ := own_read own
  subst e
  have hc : w.cell? ⟨p, o + 0, none⟩ = some (.slice a k c) := cell_of_blk hb (by simpa using ho)
  refine ret_enter Tryd.func21 rfl Tryd.ntmps21 rfl ?_
  (repeat (first | refine k_nil ?_ | refine k_n ?_ | refine k_r ?_ | refine k_x ?_ | refine b_n ?_ | refine b_r ?_ | refine b_y rfl ?_ | refine b_z rfl ?_ | refine l_r ?_ | refine l_x ?_ | refine k_seq ?_ | refine k_blk ?_ | refine k_reg ?_ | refine k_ret ?_ | refine k_exit ?_ | refine k_skip ?_ | refine Zs ?_))
  refine s_call (us := []) (zs := []) (by kernel_rfl) rfl rfl (clS _ k xs w own h1 hk) ?_
  rintro u w1 ⟨own1, k1⟩
  obtain ⟨a', c', rfl, _⟩ := own_read own1
  (repeat (first | refine k_nil ?_ | refine k_n ?_ | refine k_r ?_ | refine k_x ?_ | refine b_n ?_ | refine b_r ?_ | refine b_y rfl ?_ | refine b_z rfl ?_ | refine l_r ?_ | refine l_x ?_ | refine k_seq ?_ | refine k_blk ?_ | refine k_reg ?_ | refine k_ret ?_ | refine k_exit ?_ | refine k_skip ?_ | refine Zs ?_))
  exact ret_1 rfl rfl ⟨own1, k1⟩
theorem clF (v0 : Value) (k : Nat) (xs : List Value) (w : World) (own : w.ownsRow 0 43 6 v0 k xs) (h1 : xs.all Value.oneCell' = true) (hk : k ≤ 30000) :
    Ret Tryd.prog 37 [v0] w fun u w1 => w1.ownsRow 0 43 6 u k xs ∧ Kp No w w1 := by
  obtain ⟨a, c, e, hc, h0, hr⟩ := own_read own
  subst e
  refine ret_enter Tryd.func37 rfl Tryd.ntmps37 rfl ?_
  (repeat (first | refine k_nil ?_ | refine k_n ?_ | refine k_r ?_ | refine k_x ?_ | refine b_n ?_ | refine b_r ?_ | refine b_y rfl ?_ | refine b_z rfl ?_ | refine l_r ?_ | refine l_x ?_ | refine k_seq ?_ | refine k_blk ?_ | refine k_reg ?_ | refine k_ret ?_ | refine k_exit ?_ | refine k_skip ?_ | refine Zs ?_))
  refine s_v (r_seq rfl rfl rfl) ?_
  (repeat (first | refine k_nil ?_ | refine k_n ?_ | refine k_r ?_ | refine k_x ?_ | refine b_n ?_ | refine b_r ?_ | refine b_y rfl ?_ | refine b_z rfl ?_ | refine l_r ?_ | refine l_x ?_ | refine k_seq ?_ | refine k_blk ?_ | refine k_reg ?_ | refine k_ret ?_ | refine k_exit ?_ | refine k_skip ?_ | refine Zs ?_))
  cases a with
  | none =>
    refine c_t rfl ?_
    have := h0 rfl
    subst this
    have hx : xs = [] := List.eq_nil_of_length_eq_zero (by have := own.1; omega)
    subst hx
    (repeat (first | refine k_nil ?_ | refine k_n ?_ | refine k_r ?_ | refine k_x ?_ | refine b_n ?_ | refine b_r ?_ | refine b_y rfl ?_ | refine b_z rfl ?_ | refine l_r ?_ | refine l_x ?_ | refine k_seq ?_ | refine k_blk ?_ | refine k_reg ?_ | refine k_ret ?_ | refine k_exit ?_ | refine k_skip ?_ | refine Zs ?_))
    exact ret_1 rfl rfl ⟨⟨rfl, .inl ⟨rfl, rfl⟩⟩, Kp.refl _ _⟩
  | some ad =>
    obtain ⟨g, rfl, _, _, hcell⟩ := hr _ rfl
    refine c_f rfl ?_
    (repeat (first | refine k_nil ?_ | refine k_n ?_ | refine k_r ?_ | refine k_x ?_ | refine b_n ?_ | refine b_r ?_ | refine b_y rfl ?_ | refine b_z rfl ?_ | refine l_r ?_ | refine l_x ?_ | refine k_seq ?_ | refine k_blk ?_ | refine k_reg ?_ | refine k_ret ?_ | refine k_exit ?_ | refine k_skip ?_ | refine Zs ?_))
    refine s_bs0 rfl rfl (fun b1 w1 n1 => ?_)
    have y1 := n1.ge
    (repeat (first | refine k_nil ?_ | refine k_n ?_ | refine k_r ?_ | refine k_x ?_ | refine b_n ?_ | refine b_r ?_ | refine b_y rfl ?_ | refine b_z rfl ?_ | refine l_r ?_ | refine l_x ?_ | refine k_seq ?_ | refine k_blk ?_ | refine k_reg ?_ | refine k_ret ?_ | refine k_exit ?_ | refine k_skip ?_ | refine Zs ?_))
    refine s_app (size := 6) (bytes := 88) (base := 0) (news := xs) rfl rfl rfl rfl rfl rfl rfl rfl (own_empty n1 (Nat.zero_le _)) rfl (fun j u hj => n1.kp.cell0 (hcell j u hj)) own.1 h1 (by omega) (by omega) (Nat.zero_le _) ?_
    intro v2 w2 a2
    have k2 : Kp No w w2 := n1.kp.trans a2.kp (fun i hi e => by have : i = b1 := Option.some.inj e; omega)
    obtain ⟨a', c', rfl, hc', ha', hr'⟩ := own_read a2.own
    (repeat (first | refine k_nil ?_ | refine k_n ?_ | refine k_r ?_ | refine k_x ?_ | refine b_n ?_ | refine b_r ?_ | refine b_y rfl ?_ | refine b_z rfl ?_ | refine l_r ?_ | refine l_x ?_ | refine k_seq ?_ | refine k_blk ?_ | refine k_reg ?_ | refine k_ret ?_ | refine k_exit ?_ | refine k_skip ?_ | refine Zs ?_))
    refine ret_1 rfl rfl ⟨?_, k2⟩
    have := a2.own
    rw [List.nil_append] at this
    rw [Nat.zero_add] at this ⊢
    exact this
theorem alF {p o : Nat} {cs : List Value} {T : TypeId} (v0 : Value) (k : Nat) (xs : List Value) (w : World) (hb : w.heap[p]? = some (.cells cs.toArray T (0, 0))) (ho : cs[o]? = some v0) (own : w.ownsRow 0 43 6 v0 k xs) (h1 : xs.all Value.oneCell' = true) (hk : k ≤ 30000) :
    Ret Tryd.prog 22 [.pointer (some ⟨p, o, none⟩)] w fun u w1 => w1.ownsRow 0 43 6 u k xs ∧ Kp No w w1 := by
  obtain ⟨a, c, e, hc, h0, hr⟩ := own_read own
  subst e
  have hc : w.cell? ⟨p, o + 0, none⟩ = some (.slice a k c) := cell_of_blk hb (by simpa using ho)
  refine ret_enter Tryd.func22 rfl Tryd.ntmps22 rfl ?_
  (repeat (first | refine k_nil ?_ | refine k_n ?_ | refine k_r ?_ | refine k_x ?_ | refine b_n ?_ | refine b_r ?_ | refine b_y rfl ?_ | refine b_z rfl ?_ | refine l_r ?_ | refine l_x ?_ | refine k_seq ?_ | refine k_blk ?_ | refine k_reg ?_ | refine k_ret ?_ | refine k_exit ?_ | refine k_skip ?_ | refine Zs ?_))
  refine s_call (us := []) (zs := []) (by kernel_rfl) rfl rfl (clF _ k xs w own h1 hk) ?_
  rintro u w1 ⟨own1, k1⟩
  obtain ⟨a', c', rfl, _⟩ := own_read own1
  (repeat (first | refine k_nil ?_ | refine k_n ?_ | refine k_r ?_ | refine k_x ?_ | refine b_n ?_ | refine b_r ?_ | refine b_y rfl ?_ | refine b_z rfl ?_ | refine l_r ?_ | refine l_x ?_ | refine k_seq ?_ | refine k_blk ?_ | refine k_reg ?_ | refine k_ret ?_ | refine k_exit ?_ | refine k_skip ?_ | refine Zs ?_))
  exact ret_1 rfl rfl ⟨own1, k1⟩
theorem ex_one {w : World} {rx : List (Ex × Value)} (h : ∀ r ∈ rx, ∃ l, LI w r.2 l) : (rx.flatMap exC).all Value.oneCell' = true := by
  rw [List.all_eq_true]
  intro v hv
  obtain ⟨r, hr, hv⟩ := List.mem_flatMap.1 hv
  obtain ⟨l, hl⟩ := h r hr
  obtain ⟨a, c, e⟩ := hl.val
  simp only [exC, List.mem_cons, List.not_mem_nil, or_false] at hv
  rcases hv with rfl | rfl | rfl | rfl | rfl | rfl | rfl | rfl | rfl
  all_goals first | rfl | (rw [e]; rfl)
theorem st_one {w : World} {rx : List (St × Value × Value)} (h : ∀ r ∈ rx, (∃ l, LI w r.2.1 l) ∧ ∃ l, LI w r.2.2 l) : (rx.flatMap stC).all Value.oneCell' = true := by
  rw [List.all_eq_true]
  intro v hv
  obtain ⟨r, hr, hv⟩ := List.mem_flatMap.1 hv
  obtain ⟨⟨l, hl⟩, l', hl'⟩ := h r hr
  obtain ⟨a, c, e⟩ := hl.val
  obtain ⟨a', c', e'⟩ := hl'.val
  simp only [stC, List.mem_cons, List.not_mem_nil, or_false] at hv
  rcases hv with rfl | rfl | rfl | rfl | rfl | rfl | rfl | rfl | rfl
  all_goals first | rfl | (rw [e]; rfl) | (rw [e']; rfl)
theorem fn_one {w : World} {rx : List (Fn × Value × Value)} (h : ∀ r ∈ rx, (∃ l, LS w r.2.1 l) ∧ ∃ l, LI w r.2.2 l) : (rx.flatMap fnC).all Value.oneCell' = true := by
  rw [List.all_eq_true]
  intro v hv
  obtain ⟨r, hr, hv⟩ := List.mem_flatMap.1 hv
  obtain ⟨⟨l, hl⟩, l', hl'⟩ := h r hr
  obtain ⟨a, c, e⟩ := hl.val
  obtain ⟨a', c', e'⟩ := hl'.val
  simp only [fnC, List.mem_cons, List.not_mem_nil, or_false] at hv
  rcases hv with rfl | rfl | rfl | rfl | rfl | rfl
  all_goals first | rfl | (rw [e]; rfl) | (rw [e']; rfl)
end Go.Proofs.YtgnkdeapifbgeaaDoor.Sy
