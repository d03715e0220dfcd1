/- The parser's arenas. -/
import Derived.Test.YtgnkdeapifbgeaaDoorGd
namespace Go.Proofs.YtgnkdeapifbgeaaDoor.Sy
open Go Go.RowKit Fw
set_option linter.unusedVariables false
set_option maxRecDepth 20000
set_option maxHeartbeats 1000000 in
theorem arX (b o : Nat) (cs : List Value) (T : TypeId) (v0 : Value) (k : Nat) (xs : List Value) (x : Ex) (la : Option Addr) (ln lc : Nat) (w : World) (hb : w.heap[b]? = some (.cells cs.toArray T (0, 0))) (ho : cs[o]? = some v0) (own : w.ownsRow 0 35 9 v0 k xs)
    (hk : k ≤ 1000000) (hne : Nat.beq 35 T = false) :
    Ret Tryd.prog 72 [.pointer (some ⟨b, o, none⟩), .agg (exC (x, .slice la ln lc)).toArray] w fun v w1 => v = .int .i64 (k : Int) ∧ ∃ v1, w1.heap[b]? = some (.cells (setAt cs o [v1]).toArray T (0, 0)) ∧ w1.ownsRow 0 35 9 v1 (k + 1) (xs ++ exC (x, .slice la ln lc)) ∧
      Kp (fun i => i = b ∨ v0.ownBlock = some i) w w1 ∧ ∀ g, v1.ownBlock = some g → v0.ownBlock = some g ∨ w.heap.size ≤ g := by
  have hol : o < cs.length := (List.getElem?_eq_some_iff.1 ho).1
  have hn0 : ∀ g, v0.ownBlock = some g → g ≠ b := fun g hg => by
    obtain ⟨c, hc⟩ := own_ty own hg
    exact ty_ne hc hb hne
  refine ret_enter Tryd.func72 rfl Tryd.ntmps72 rfl ?_
  (repeat (first | refine k_nil ?_ | refine k_n ?_ | refine k_r ?_ | refine k_x ?_ | refine b_n ?_ | refine b_r ?_ | refine b_y rfl ?_ | refine b_z rfl ?_ | refine l_r ?_ | refine l_x ?_ | refine k_seq ?_ | refine k_blk ?_ | refine k_reg ?_ | refine k_ret ?_ | refine k_exit ?_ | refine k_skip ?_ | refine Zs ?_))
  refine s_box (cs := exC (x, .slice la ln lc)) rfl rfl (fun b3 w1 n1 => ?_)
  have hb1 := n1.kp.get0 hb
  have own1 : w1.ownsRow 0 35 9 v0 k xs := own_kp own n1.kp fun _ _ h => h
  have hbb : b < w.heap.size := lt_of_get hb
  have h3n : ¬ some b3 = v0.ownBlock := fun e => by
    obtain ⟨c, hc⟩ := own_ty own e.symm
    have := lt_of_get hc
    have := n1.ge
    omega
  have hbn : ¬ some b = v0.ownBlock := fun e => hn0 b e.symm rfl
  (repeat (first | refine k_nil ?_ | refine k_n ?_ | refine k_r ?_ | refine k_x ?_ | refine b_n ?_ | refine b_r ?_ | refine b_y rfl ?_ | refine b_z rfl ?_ | refine l_r ?_ | refine l_x ?_ | refine k_seq ?_ | refine k_blk ?_ | refine k_reg ?_ | refine k_ret ?_ | refine k_exit ?_ | refine k_skip ?_ | refine Zs ?_))
  refine k_h (fun w' => Kp (fun i => some i = v0.ownBlock) w1 w') [(0, false), (1, false), (2, false), (3, false), (4, false), (5, false), (6, true), (7, true), (8, false), (9, false), (10, true)] 10 (by kernel_rfl) (waits_of_last (by kernel_rfl)) (by kernel_rfl) (by kernel_rfl) (by kernel_rfl) rfl (fun w2 k2 q2 => ?_)
  have k2' : Kp (fun i => some i = v0.ownBlock) w1 w2 := k2.mono fun _ _ h => h.elim
  refine h_v k2' (fun w' hw => r_mv rfl) ?_
  refine h_v k2' (fun w' hw => r_mv rfl) ?_
  refine h_v k2' (fun w' hw => r_nc rfl) ?_
  refine h_v k2' (fun w' hw => r_fa rfl rfl) ?_
  refine h_v k2' (fun w' hw => r_ld rfl rfl (cell_of_blk (hw.get hb1 hbn) (by simpa using ho))) ?_
  refine h_v k2' (fun w' hw => r_ldb (vs := exC (x, .slice la ln lc)) rfl rfl rfl (hw.get n1.blk h3n) rfl rfl) ?_
  refine h_bs (cs := exC (x, .slice la ln lc)) (e := 35) rfl (fun b6 w3 n3 => ⟨fun _ => k2'.no n3.kp, ?_⟩)
  have own3 : w3.ownsRow 0 35 9 v0 k xs := own_kp own1 (k2.no n3.kp) fun _ _ h => h
  refine h_app (size := 9) (bytes := 104) (base := 0) (news := exC (x, .slice la ln lc)) rfl rfl rfl rfl rfl rfl rfl rfl own3 rfl (blk_cells n3.blk) rfl rfl (by omega) (by omega) (Nat.zero_le _) ?_
  intro v1 w4 ap
  have k4 : Kp (fun i => some i = v0.ownBlock) w1 w4 := (k2'.no n3.kp).trans ap.kp (fun _ _ h => h)
  refine ⟨fun _ => k4, ?_⟩
  have hb4 := k4.get hb1 hbn
  refine h_v k4 (fun w' hw => r_nc rfl) ?_
  refine h_v k4 (fun w' hw => r_fa rfl rfl) ?_
  have hv1 : ∃ a c, v1 = .slice a (k + 1) c := by
    obtain ⟨a, c, e, _⟩ := own_read ap.own
    exact ⟨a, c, e⟩
  obtain ⟨a1, c1, rfl⟩ := hv1
  refine h_st (vs := [.slice a1 (k + 1) c1]) rfl rfl rfl rfl rfl hb4 (by simp; omega) (fun w5 s5 => ⟨fun h => (h rfl).elim, ?_⟩)
  refine h_nil ?_
  have hs : w5.heap[b]? = some (.cells (setAt cs o [.slice a1 (k + 1) c1]).toArray T (0, 0)) := by simpa using s5.blk
  have hbw : ∀ g, (Value.slice a1 (k + 1) c1).ownBlock = some g → g ≠ b := fun g hg => by
    obtain ⟨c, hc⟩ := own_ty ap.own hg
    exact ty_ne hc hb4 hne
  have own5 : w5.ownsRow 0 35 9 (.slice a1 (k + 1) c1) (k + 1) (xs ++ exC (x, .slice la ln lc)) := own_kp ap.own s5.kp fun g hg e => hbw g hg e
  have hc5 : w5.cell? ⟨b, o + 0, none⟩ = some (.slice a1 (k + 1) c1) := by
    refine cell_of_blk hs ?_
    rw [setAt_eq _ _ _ (by simp; omega)]
    rw [List.getElem?_append_left (by simp; omega), List.getElem?_append_right (by simp; omega)]
    simp [Nat.min_eq_left (Nat.le_of_lt hol)]
  (repeat (first | refine k_nil ?_ | refine k_n ?_ | refine k_r ?_ | refine k_x ?_ | refine b_n ?_ | refine b_r ?_ | refine b_y rfl ?_ | refine b_z rfl ?_ | refine l_r ?_ | refine l_x ?_ | refine k_seq ?_ | refine k_blk ?_ | refine k_reg ?_ | refine k_ret ?_ | refine k_exit ?_ | refine k_skip ?_ | refine Zs ?_))
  refine ret_1 rfl rfl ⟨by congr 1; omega, _, hs, own5, ?_, ?_⟩
  · refine ((n1.kp.mono fun _ _ h => h.elim).trans k4 (fun i _ h => .inr h.symm)).trans s5.kp (fun i _ h => .inl h)
  · intro g hg
    rcases ap.row g hg with h | h
    · exact .inl h
    · have := n1.kp.size; have := k2.size; have := n3.kp.size; exact .inr (by omega)
set_option maxHeartbeats 1000000 in
theorem arS (b o : Nat) (cs : List Value) (T : TypeId) (v0 : Value) (k : Nat) (xs : List Value) (x : St) (la ma : Option Addr) (ln lc mn mc : Nat) (w : World) (hb : w.heap[b]? = some (.cells cs.toArray T (0, 0))) (ho : cs[o]? = some v0) (own : w.ownsRow 0 39 9 v0 k xs)
    (hk : k ≤ 1000000) (hne : Nat.beq 39 T = false) :
    Ret Tryd.prog 66 [.pointer (some ⟨b, o, none⟩), .agg (stC (x, .slice la ln lc, .slice ma mn mc)).toArray] w fun v w1 => v = .int .i64 (k : Int) ∧ ∃ v1, w1.heap[b]? = some (.cells (setAt cs o [v1]).toArray T (0, 0)) ∧ w1.ownsRow 0 39 9 v1 (k + 1) (xs ++ stC (x, .slice la ln lc, .slice ma mn mc)) ∧
      Kp (fun i => i = b ∨ v0.ownBlock = some i) w w1 ∧ ∀ g, v1.ownBlock = some g → v0.ownBlock = some g ∨ w.heap.size ≤ g := by
  have hol : o < cs.length := (List.getElem?_eq_some_iff.1 ho).1
  have hn0 : ∀ g, v0.ownBlock = some g → g ≠ b := fun g hg => by
    obtain ⟨c, hc⟩ := own_ty own hg
    exact ty_ne hc hb hne
  refine ret_enter Tryd.func66 rfl Tryd.ntmps66 rfl ?_
  (repeat (first | refine k_nil ?_ | refine k_n ?_ | refine k_r ?_ | refine k_x ?_ | refine b_n ?_ | refine b_r ?_ | refine b_y rfl ?_ | refine b_z rfl ?_ | refine l_r ?_ | refine l_x ?_ | refine k_seq ?_ | refine k_blk ?_ | refine k_reg ?_ | refine k_ret ?_ | refine k_exit ?_ | refine k_skip ?_ | refine Zs ?_))
  refine s_box (cs := stC (x, .slice la ln lc, .slice ma mn mc)) rfl rfl (fun b3 w1 n1 => ?_)
  have hb1 := n1.kp.get0 hb
  have own1 : w1.ownsRow 0 39 9 v0 k xs := own_kp own n1.kp fun _ _ h => h
  have hbb : b < w.heap.size := lt_of_get hb
  have h3n : ¬ some b3 = v0.ownBlock := fun e => by
    obtain ⟨c, hc⟩ := own_ty own e.symm
    have := lt_of_get hc
    have := n1.ge
    omega
  have hbn : ¬ some b = v0.ownBlock := fun e => hn0 b e.symm rfl
  (repeat (first | refine k_nil ?_ | refine k_n ?_ | refine k_r ?_ | refine k_x ?_ | refine b_n ?_ | refine b_r ?_ | refine b_y rfl ?_ | refine b_z rfl ?_ | refine l_r ?_ | refine l_x ?_ | refine k_seq ?_ | refine k_blk ?_ | refine k_reg ?_ | refine k_ret ?_ | refine k_exit ?_ | refine k_skip ?_ | refine Zs ?_))
  refine k_h (fun w' => Kp (fun i => some i = v0.ownBlock) w1 w') [(0, false), (1, false), (2, false), (3, false), (4, false), (5, false), (6, true), (7, true), (8, false), (9, false), (10, true)] 10 (by kernel_rfl) (waits_of_last (by kernel_rfl)) (by kernel_rfl) (by kernel_rfl) (by kernel_rfl) rfl (fun w2 k2 q2 => ?_)
  have k2' : Kp (fun i => some i = v0.ownBlock) w1 w2 := k2.mono fun _ _ h => h.elim
  refine h_v k2' (fun w' hw => r_mv rfl) ?_
  refine h_v k2' (fun w' hw => r_mv rfl) ?_
  refine h_v k2' (fun w' hw => r_nc rfl) ?_
  refine h_v k2' (fun w' hw => r_fa rfl rfl) ?_
  refine h_v k2' (fun w' hw => r_ld rfl rfl (cell_of_blk (hw.get hb1 hbn) (by simpa using ho))) ?_
  refine h_v k2' (fun w' hw => r_ldb (vs := stC (x, .slice la ln lc, .slice ma mn mc)) rfl rfl rfl (hw.get n1.blk h3n) rfl rfl) ?_
  refine h_bs (cs := stC (x, .slice la ln lc, .slice ma mn mc)) (e := 39) rfl (fun b6 w3 n3 => ⟨fun _ => k2'.no n3.kp, ?_⟩)
  have own3 : w3.ownsRow 0 39 9 v0 k xs := own_kp own1 (k2.no n3.kp) fun _ _ h => h
  refine h_app (size := 9) (bytes := 112) (base := 0) (news := stC (x, .slice la ln lc, .slice ma mn mc)) rfl rfl rfl rfl rfl rfl rfl rfl own3 rfl (blk_cells n3.blk) rfl rfl (by omega) (by omega) (Nat.zero_le _) ?_
  intro v1 w4 ap
  have k4 : Kp (fun i => some i = v0.ownBlock) w1 w4 := (k2'.no n3.kp).trans ap.kp (fun _ _ h => h)
  refine ⟨fun _ => k4, ?_⟩
  have hb4 := k4.get hb1 hbn
  refine h_v k4 (fun w' hw => r_nc rfl) ?_
  refine h_v k4 (fun w' hw => r_fa rfl rfl) ?_
  have hv1 : ∃ a c, v1 = .slice a (k + 1) c := by
    obtain ⟨a, c, e, _⟩ := own_read ap.own
    exact ⟨a, c, e⟩
  obtain ⟨a1, c1, rfl⟩ := hv1
  refine h_st (vs := [.slice a1 (k + 1) c1]) rfl rfl rfl rfl rfl hb4 (by simp; omega) (fun w5 s5 => ⟨fun h => (h rfl).elim, ?_⟩)
  refine h_nil ?_
  have hs : w5.heap[b]? = some (.cells (setAt cs o [.slice a1 (k + 1) c1]).toArray T (0, 0)) := by simpa using s5.blk
  have hbw : ∀ g, (Value.slice a1 (k + 1) c1).ownBlock = some g → g ≠ b := fun g hg => by
    obtain ⟨c, hc⟩ := own_ty ap.own hg
    exact ty_ne hc hb4 hne
  have own5 : w5.ownsRow 0 39 9 (.slice a1 (k + 1) c1) (k + 1) (xs ++ stC (x, .slice la ln lc, .slice ma mn mc)) := own_kp ap.own s5.kp fun g hg e => hbw g hg e
  have hc5 : w5.cell? ⟨b, o + 0, none⟩ = some (.slice a1 (k + 1) c1) := by
    refine cell_of_blk hs ?_
    rw [setAt_eq _ _ _ (by simp; omega)]
    rw [List.getElem?_append_left (by simp; omega), List.getElem?_append_right (by simp; omega)]
    simp [Nat.min_eq_left (Nat.le_of_lt hol)]
  (repeat (first | refine k_nil ?_ | refine k_n ?_ | refine k_r ?_ | refine k_x ?_ | refine b_n ?_ | refine b_r ?_ | refine b_y rfl ?_ | refine b_z rfl ?_ | refine l_r ?_ | refine l_x ?_ | refine k_seq ?_ | refine k_blk ?_ | refine k_reg ?_ | refine k_ret ?_ | refine k_exit ?_ | refine k_skip ?_ | refine Zs ?_))
  refine ret_1 rfl rfl ⟨by congr 1; omega, _, hs, own5, ?_, ?_⟩
  · refine ((n1.kp.mono fun _ _ h => h.elim).trans k4 (fun i _ h => .inr h.symm)).trans s5.kp (fun i _ h => .inl h)
  · intro g hg
    rcases ap.row g hg with h | h
    · exact .inl h
    · have := n1.kp.size; have := k2.size; have := n3.kp.size; exact .inr (by omega)
set_option maxHeartbeats 1000000 in
theorem arF (b o : Nat) (cs : List Value) (T : TypeId) (v0 : Value) (k : Nat) (xs : List Value) (x : Fn) (la ma : Option Addr) (ln lc mn mc : Nat) (w : World) (hb : w.heap[b]? = some (.cells cs.toArray T (0, 0))) (ho : cs[o]? = some v0) (own : w.ownsRow 0 43 6 v0 k xs)
    (hk : k ≤ 1000000) (hne : Nat.beq 43 T = false) :
    Ret Tryd.prog 34 [.pointer (some ⟨b, o, none⟩), .agg (fnC (x, .slice la ln lc, .slice ma mn mc)).toArray] w fun v w1 => v = .int .i64 (k : Int) ∧ ∃ v1, w1.heap[b]? = some (.cells (setAt cs o [v1]).toArray T (0, 0)) ∧ w1.ownsRow 0 43 6 v1 (k + 1) (xs ++ fnC (x, .slice la ln lc, .slice ma mn mc)) ∧
      Kp (fun i => i = b ∨ v0.ownBlock = some i) w w1 ∧ ∀ g, v1.ownBlock = some g → v0.ownBlock = some g ∨ w.heap.size ≤ g := by
  have hol : o < cs.length := (List.getElem?_eq_some_iff.1 ho).1
  have hn0 : ∀ g, v0.ownBlock = some g → g ≠ b := fun g hg => by
    obtain ⟨c, hc⟩ := own_ty own hg
    exact ty_ne hc hb hne
  refine ret_enter Tryd.func34 rfl Tryd.ntmps34 rfl ?_
  (repeat (first | refine k_nil ?_ | refine k_n ?_ | refine k_r ?_ | refine k_x ?_ | refine b_n ?_ | refine b_r ?_ | refine b_y rfl ?_ | refine b_z rfl ?_ | refine l_r ?_ | refine l_x ?_ | refine k_seq ?_ | refine k_blk ?_ | refine k_reg ?_ | refine k_ret ?_ | refine k_exit ?_ | refine k_skip ?_ | refine Zs ?_))
  refine s_box (cs := fnC (x, .slice la ln lc, .slice ma mn mc)) rfl rfl (fun b3 w1 n1 => ?_)
  have hb1 := n1.kp.get0 hb
  have own1 : w1.ownsRow 0 43 6 v0 k xs := own_kp own n1.kp fun _ _ h => h
  have hbb : b < w.heap.size := lt_of_get hb
  have h3n : ¬ some b3 = v0.ownBlock := fun e => by
    obtain ⟨c, hc⟩ := own_ty own e.symm
    have := lt_of_get hc
    have := n1.ge
    omega
  have hbn : ¬ some b = v0.ownBlock := fun e => hn0 b e.symm rfl
  (repeat (first | refine k_nil ?_ | refine k_n ?_ | refine k_r ?_ | refine k_x ?_ | refine b_n ?_ | refine b_r ?_ | refine b_y rfl ?_ | refine b_z rfl ?_ | refine l_r ?_ | refine l_x ?_ | refine k_seq ?_ | refine k_blk ?_ | refine k_reg ?_ | refine k_ret ?_ | refine k_exit ?_ | refine k_skip ?_ | refine Zs ?_))
  refine k_h (fun w' => Kp (fun i => some i = v0.ownBlock) w1 w') [(0, false), (1, false), (2, false), (3, false), (4, false), (5, false), (6, true), (7, true), (8, false), (9, false), (10, true)] 10 (by kernel_rfl) (waits_of_last (by kernel_rfl)) (by kernel_rfl) (by kernel_rfl) (by kernel_rfl) rfl (fun w2 k2 q2 => ?_)
  have k2' : Kp (fun i => some i = v0.ownBlock) w1 w2 := k2.mono fun _ _ h => h.elim
  refine h_v k2' (fun w' hw => r_mv rfl) ?_
  refine h_v k2' (fun w' hw => r_mv rfl) ?_
  refine h_v k2' (fun w' hw => r_nc rfl) ?_
  refine h_v k2' (fun w' hw => r_fa rfl rfl) ?_
  refine h_v k2' (fun w' hw => r_ld rfl rfl (cell_of_blk (hw.get hb1 hbn) (by simpa using ho))) ?_
  refine h_v k2' (fun w' hw => r_ldb (vs := fnC (x, .slice la ln lc, .slice ma mn mc)) rfl rfl rfl (hw.get n1.blk h3n) rfl rfl) ?_
  refine h_bs (cs := fnC (x, .slice la ln lc, .slice ma mn mc)) (e := 43) rfl (fun b6 w3 n3 => ⟨fun _ => k2'.no n3.kp, ?_⟩)
  have own3 : w3.ownsRow 0 43 6 v0 k xs := own_kp own1 (k2.no n3.kp) fun _ _ h => h
  refine h_app (size := 6) (bytes := 88) (base := 0) (news := fnC (x, .slice la ln lc, .slice ma mn mc)) rfl rfl rfl rfl rfl rfl rfl rfl own3 rfl (blk_cells n3.blk) rfl rfl (by omega) (by omega) (Nat.zero_le _) ?_
  intro v1 w4 ap
  have k4 : Kp (fun i => some i = v0.ownBlock) w1 w4 := (k2'.no n3.kp).trans ap.kp (fun _ _ h => h)
  refine ⟨fun _ => k4, ?_⟩
  have hb4 := k4.get hb1 hbn
  refine h_v k4 (fun w' hw => r_nc rfl) ?_
  refine h_v k4 (fun w' hw => r_fa rfl rfl) ?_
  have hv1 : ∃ a c, v1 = .slice a (k + 1) c := by
    obtain ⟨a, c, e, _⟩ := own_read ap.own
    exact ⟨a, c, e⟩
  obtain ⟨a1, c1, rfl⟩ := hv1
  refine h_st (vs := [.slice a1 (k + 1) c1]) rfl rfl rfl rfl rfl hb4 (by simp; omega) (fun w5 s5 => ⟨fun h => (h rfl).elim, ?_⟩)
  refine h_nil ?_
  have hs : w5.heap[b]? = some (.cells (setAt cs o [.slice a1 (k + 1) c1]).toArray T (0, 0)) := by simpa using s5.blk
  have hbw : ∀ g, (Value.slice a1 (k + 1) c1).ownBlock = some g → g ≠ b := fun g hg => by
    obtain ⟨c, hc⟩ := own_ty ap.own hg
    exact ty_ne hc hb4 hne
  have own5 : w5.ownsRow 0 43 6 (.slice a1 (k + 1) c1) (k + 1) (xs ++ fnC (x, .slice la ln lc, .slice ma mn mc)) := own_kp ap.own s5.kp fun g hg e => hbw g hg e
  have hc5 : w5.cell? ⟨b, o + 0, none⟩ = some (.slice a1 (k + 1) c1) := by
    refine cell_of_blk hs ?_
    rw [setAt_eq _ _ _ (by simp; omega)]
    rw [List.getElem?_append_left (by simp; omega), List.getElem?_append_right (by simp; omega)]
    simp [Nat.min_eq_left (Nat.le_of_lt hol)]
  (repeat (first | refine k_nil ?_ | refine k_n ?_ | refine k_r ?_ | refine k_x ?_ | refine b_n ?_ | refine b_r ?_ | refine b_y rfl ?_ | refine b_z rfl ?_ | refine l_r ?_ | refine l_x ?_ | refine k_seq ?_ | refine k_blk ?_ | refine k_reg ?_ | refine k_ret ?_ | refine k_exit ?_ | refine k_skip ?_ | refine Zs ?_))
  refine ret_1 rfl rfl ⟨by congr 1; omega, _, hs, own5, ?_, ?_⟩
  · refine ((n1.kp.mono fun _ _ h => h.elim).trans k4 (fun i _ h => .inr h.symm)).trans s5.kp (fun i _ h => .inl h)
  · intro g hg
    rcases ap.row g hg with h | h
    · exact .inl h
    · have := n1.kp.size; have := k2.size; have := n3.kp.size; exact .inr (by omega)
end Go.Proofs.YtgnkdeapifbgeaaDoor.Sy
