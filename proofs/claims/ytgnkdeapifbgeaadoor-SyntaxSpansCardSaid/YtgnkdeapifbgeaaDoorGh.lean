/- The parser's levels. -/
import Derived.Test.YtgnkdeapifbgeaaDoorGg
namespace Go.Proofs.YtgnkdeapifbgeaaDoor.Sy
open Go Go.RowKit Fw
set_option linter.unusedVariables false
set_option maxRecDepth 20000
def sgB (v : Nat) : List ByteArray := (sgs v).map Tk.strOf
theorem sgB_B : ∀ v, v < 5 → (sgB v).map B = sgs v := by
  intro v hv
  match v, hv with
  | 0, _ => exact (by kernel_rfl : (sgB 0).map B = sgs 0)
  | 1, _ => exact (by kernel_rfl : (sgB 1).map B = sgs 1)
  | 2, _ => exact (by kernel_rfl : (sgB 2).map B = sgs 2)
  | 3, _ => exact (by kernel_rfl : (sgB 3).map B = sgs 3)
  | 4, _ => exact (by kernel_rfl : (sgB 4).map B = sgs 4)
def sl1 (h : Nat) (n : Nat) : Value := .slice (some ⟨h, 0, none⟩) n n
/-- The table of levels, where it lies. -/
def LvAt (w : World) (g : Nat) : Prop := ∃ h0 h1 h2 h3 h4 : Nat, w.heap[g]? = some (.cells [sl1 h0 1, .bool false, sl1 h1 1, .bool false, sl1 h2 6, .bool true, sl1 h3 2, .bool false, sl1 h4 3, .bool false].toArray 113 (0, 0)) ∧
  w.heap[h0]? = some (.cells ((sgB 0).map Value.string).toArray 9 (0, 0)) ∧ w.heap[h1]? = some (.cells ((sgB 1).map Value.string).toArray 9 (0, 0)) ∧ w.heap[h2]? = some (.cells ((sgB 2).map Value.string).toArray 9 (0, 0)) ∧
  w.heap[h3]? = some (.cells ((sgB 3).map Value.string).toArray 9 (0, 0)) ∧ w.heap[h4]? = some (.cells ((sgB 4).map Value.string).toArray 9 (0, 0))
theorem LvAt.no {w w' : World} {g : Nat} (h : LvAt w g) (k : Kp No w w') : LvAt w' g := by
  obtain ⟨h0, h1, h2, h3, h4, a, a0, a1, a2, a3, a4⟩ := h
  exact ⟨h0, h1, h2, h3, h4, k.get0 a, k.get0 a0, k.get0 a1, k.get0 a2, k.get0 a3, k.get0 a4⟩
theorem LvAt.gs {X : Cx} {w w' : World} {s : PS} {V : VS} {g : Nat} (h : LvAt w g) (hA : At X w s V) (k : Kp (Sx X V) w w') : LvAt w' g := by
  obtain ⟨h0, h1, h2, h3, h4, a, a0, a1, a2, a3, a4⟩ := h
  exact ⟨h0, h1, h2, h3, h4, k.get a (hA.nsx a rfl), k.get a0 (hA.nsx a0 rfl), k.get a1 (hA.nsx a1 rfl), k.get a2 (hA.nsx a2 rfl), k.get a3 (hA.nsx a3 rfl), k.get a4 (hA.nsx a4 rfl)⟩
theorem LvAt.at {w : World} {g v : Nat} (h : LvAt w g) (hv : v < 5) : ∃ a, w.cell? ⟨g, 2 * v, none⟩ = some (.slice (some ⟨a, 0, none⟩) (sgB v).length (sgB v).length) ∧ w.cell? ⟨g, 2 * v + 1, none⟩ = some (.bool (v == 2)) ∧ Tk.Rd w (some ⟨a, 0, none⟩) (sgB v) := by
  obtain ⟨h0, h1, h2, h3, h4, a, a0, a1, a2, a3, a4⟩ := h
  match v, hv with
  | 0, _ => exact ⟨h0, cell_of_blk a rfl, cell_of_blk a rfl, RdN a0⟩
  | 1, _ => exact ⟨h1, cell_of_blk a rfl, cell_of_blk a rfl, RdN a1⟩
  | 2, _ => exact ⟨h2, cell_of_blk a rfl, cell_of_blk a rfl, RdN a2⟩
  | 3, _ => exact ⟨h3, cell_of_blk a rfl, cell_of_blk a rfl, RdN a3⟩
  | 4, _ => exact ⟨h4, cell_of_blk a rfl, cell_of_blk a rfl, RdN a4⟩
/-- The levels from one on, as a value. -/
def lvV (g v : Nat) : Value := .slice (some ⟨g, 2 * min v 4, none⟩) (5 - v) (5 - v)
theorem levelsF (w : World) : Ret Tryd.prog 64 [] w fun v w1 => ∃ g, v = lvV g 0 ∧ LvAt w1 g ∧ Kp No w w1 := by
  refine ret_enter Tryd.func64 rfl Tryd.ntmps64 rfl ?_
  (repeat (first | refine k_nil ?_ | refine k_n ?_ | refine k_r ?_ | refine k_x ?_ | refine b_n ?_ | refine b_r ?_ | refine b_y rfl ?_ | refine b_z rfl ?_ | refine l_r ?_ | refine l_x ?_ | refine k_seq ?_ | refine k_blk ?_ | refine k_reg ?_ | refine k_ret ?_ | refine k_exit ?_ | refine k_skip ?_ | refine Zs ?_))
  refine s_bs (cs := (sgB 0).map Value.string) (e := 9) rfl (fun b0 w1 n1 => ?_)
  (repeat (first | refine k_nil ?_ | refine k_n ?_ | refine k_r ?_ | refine k_x ?_ | refine b_n ?_ | refine b_r ?_ | refine b_y rfl ?_ | refine b_z rfl ?_ | refine l_r ?_ | refine l_x ?_ | refine k_seq ?_ | refine k_blk ?_ | refine k_reg ?_ | refine k_ret ?_ | refine k_exit ?_ | refine k_skip ?_ | refine Zs ?_))
  refine s_bs (cs := (sgB 1).map Value.string) (e := 9) rfl (fun b1 w2 n2 => ?_)
  (repeat (first | refine k_nil ?_ | refine k_n ?_ | refine k_r ?_ | refine k_x ?_ | refine b_n ?_ | refine b_r ?_ | refine b_y rfl ?_ | refine b_z rfl ?_ | refine l_r ?_ | refine l_x ?_ | refine k_seq ?_ | refine k_blk ?_ | refine k_reg ?_ | refine k_ret ?_ | refine k_exit ?_ | refine k_skip ?_ | refine Zs ?_))
  refine s_bs (cs := (sgB 2).map Value.string) (e := 9) rfl (fun b2 w3 n3 => ?_)
  (repeat (first | refine k_nil ?_ | refine k_n ?_ | refine k_r ?_ | refine k_x ?_ | refine b_n ?_ | refine b_r ?_ | refine b_y rfl ?_ | refine b_z rfl ?_ | refine l_r ?_ | refine l_x ?_ | refine k_seq ?_ | refine k_blk ?_ | refine k_reg ?_ | refine k_ret ?_ | refine k_exit ?_ | refine k_skip ?_ | refine Zs ?_))
  refine s_bs (cs := (sgB 3).map Value.string) (e := 9) rfl (fun b3 w4 n4 => ?_)
  (repeat (first | refine k_nil ?_ | refine k_n ?_ | refine k_r ?_ | refine k_x ?_ | refine b_n ?_ | refine b_r ?_ | refine b_y rfl ?_ | refine b_z rfl ?_ | refine l_r ?_ | refine l_x ?_ | refine k_seq ?_ | refine k_blk ?_ | refine k_reg ?_ | refine k_ret ?_ | refine k_exit ?_ | refine k_skip ?_ | refine Zs ?_))
  refine s_bs (cs := (sgB 4).map Value.string) (e := 9) rfl (fun b4 w5 n5 => ?_)
  (repeat (first | refine k_nil ?_ | refine k_n ?_ | refine k_r ?_ | refine k_x ?_ | refine b_n ?_ | refine b_r ?_ | refine b_y rfl ?_ | refine b_z rfl ?_ | refine l_r ?_ | refine l_x ?_ | refine k_seq ?_ | refine k_blk ?_ | refine k_reg ?_ | refine k_ret ?_ | refine k_exit ?_ | refine k_skip ?_ | refine Zs ?_))
  refine s_bs (cs := [sl1 b0 1, .bool false, sl1 b1 1, .bool false, sl1 b2 6, .bool true, sl1 b3 2, .bool false, sl1 b4 3, .bool false]) (e := 113) rfl (fun g w6 n6 => ?_)
  (repeat (first | refine k_nil ?_ | refine k_n ?_ | refine k_r ?_ | refine k_x ?_ | refine b_n ?_ | refine b_r ?_ | refine b_y rfl ?_ | refine b_z rfl ?_ | refine l_r ?_ | refine l_x ?_ | refine k_seq ?_ | refine k_blk ?_ | refine k_reg ?_ | refine k_ret ?_ | refine k_exit ?_ | refine k_skip ?_ | refine Zs ?_))
  exact ret_1 rfl rfl ⟨g, rfl, ⟨b0, b1, b2, b3, b4, n6.blk, n6.kp.get0 (n5.kp.get0 (n4.kp.get0 (n3.kp.get0 (n2.kp.get0 n1.blk)))), n6.kp.get0 (n5.kp.get0 (n4.kp.get0 (n3.kp.get0 n2.blk))), n6.kp.get0 (n5.kp.get0 (n4.kp.get0 n3.blk)), n6.kp.get0 (n5.kp.get0 n4.blk), n6.kp.get0 n5.blk⟩,
    ((((n1.kp.no n2.kp).no n3.kp).no n4.kp).no n5.kp).no n6.kp⟩
end Go.Proofs.YtgnkdeapifbgeaaDoor.Sy
