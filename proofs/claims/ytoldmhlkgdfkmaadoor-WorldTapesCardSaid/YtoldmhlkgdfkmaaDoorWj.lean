/- Worlds: what is left on a tape, and WorldTapes's closure. -/
import Derived.Test.YtoldmhlkgdfkmaaDoorWu
namespace Go.Proofs.YtoldmhlkgdfkmaaDoor
open Go Go.RowKit Fw Nu Sp Lb
set_option linter.unusedVariables false
set_option maxRecDepth 20000
namespace Fw
section
variable {P : Program} {w : World} {ρ : Operand → Value} {dst : Option Tmp} {ty : TypeId} {pos : String} {af : Array Edge} {g : Option (Nat × Bool)} {v : Value}
theorem eq_ptrnn (d : Nat) {t e : TypeId} (ht : P.underlying t = some (.pointer e)) : (Op.equalIn (d + 1) t (.pointer none) (.pointer none)).run P w = .ok true w := by
  rw [Op.equalIn]; simp only [run_underlying ht, Sem.run_bind, Sem.run_pure, Result.andThen_ok]; rfl
theorem r_peq0 {t t' e : TypeId} {x y : Operand} (ht : P.underlying t = some (.pointer e)) (hx : ρ x = .pointer none) (hy : ρ y = .pointer none) :
    Rn P ρ ⟨dst, .binOp .eql t x y t', ty, pos, af, g⟩ w (.ok (.value (.bool true)) w) := by
  refine ⟨run_v ?_⟩; rw [hx, hy]; exact run_eql rfl rfl (eq_ptrnn 9999 ht)
end
end Fw
namespace Wo
theorem Values (a : Option Addr) (n c : Nat) (w : World) : Ret Tryd.prog 22 [.slice a n c] w fun v w1 => ∃ bx, v = .func (.func 31) #[] #[.pointer (some ⟨bx, 0, none⟩)] ∧ Nb w bx [.slice a n c] 22 w1 := by
  refine ret_enter Tryd.func22 rfl Tryd.ntmps22 rfl ?_
  (repeat (first | refine k_nil ?_ | refine k_n ?_ | refine k_r ?_ | refine k_x ?_ | refine b_n ?_ | refine b_r ?_ | refine b_y rfl ?_ | refine b_z rfl ?_ | refine l_r ?_ | refine l_x ?_ | refine k_seq ?_ | refine k_blk ?_ | refine k_reg ?_ | refine k_ret ?_ | refine k_exit ?_ | refine k_skip ?_ | refine s_v (r_mv rfl) ?_ | refine s_v (r_as rfl) ?_ | refine s_v (r_add rfl rfl (by omega)) ?_ | refine s_v (r_sub rfl rfl (by omega)) ?_ | refine s_v (r_mul rfl rfl (by omega)) ?_ | refine s_v (r_bin rfl) ?_ | refine s_v (r_fa rfl rfl) ?_ | refine s_v (r_ld rfl rfl (by first | assumption | exact cell_of_blk (by assumption) (by rfl))) ?_ | refine s_v (r_nc rfl) ?_ | refine s_v (r_not rfl) ?_ | refine s_v (r_mf rfl rfl) ?_ | refine s_v (r_len rfl) ?_ | refine s_v (r_ex rfl) ?_ | refine s_v (r_fd rfl) ?_ | refine s_v (r_rem rfl rfl (by omega) (by omega)) ?_ | refine s_v (r_cvi rfl rfl rfl (wrap_in (by omega))) ?_ | refine s_v (r_cv rfl) ?_ | refine s_v (r_peq rfl rfl rfl) ?_ | refine s_v (r_pne rfl rfl rfl) ?_ | refine s_v (r_min rfl rfl) ?_ | refine s_v (r_max rfl rfl) ?_ | refine s_v (r_bd rfl) ?_ | refine s_v (r_pt rfl rfl) ?_ | refine s_v (r_pf rfl rfl) ?_))
  refine s_box rfl rfl (fun bx w1 n1 => ?_)
  (repeat (first | refine k_nil ?_ | refine k_n ?_ | refine k_r ?_ | refine k_x ?_ | refine b_n ?_ | refine b_r ?_ | refine b_y rfl ?_ | refine b_z rfl ?_ | refine l_r ?_ | refine l_x ?_ | refine k_seq ?_ | refine k_blk ?_ | refine k_reg ?_ | refine k_ret ?_ | refine k_exit ?_ | refine k_skip ?_ | refine s_v (r_mv rfl) ?_ | refine s_v (r_as rfl) ?_ | refine s_v (r_add rfl rfl (by omega)) ?_ | refine s_v (r_sub rfl rfl (by omega)) ?_ | refine s_v (r_mul rfl rfl (by omega)) ?_ | refine s_v (r_bin rfl) ?_ | refine s_v (r_fa rfl rfl) ?_ | refine s_v (r_ld rfl rfl (by first | assumption | exact cell_of_blk (by assumption) (by rfl))) ?_ | refine s_v (r_nc rfl) ?_ | refine s_v (r_not rfl) ?_ | refine s_v (r_mf rfl rfl) ?_ | refine s_v (r_len rfl) ?_ | refine s_v (r_ex rfl) ?_ | refine s_v (r_fd rfl) ?_ | refine s_v (r_rem rfl rfl (by omega) (by omega)) ?_ | refine s_v (r_cvi rfl rfl rfl (wrap_in (by omega))) ?_ | refine s_v (r_cv rfl) ?_ | refine s_v (r_peq rfl rfl rfl) ?_ | refine s_v (r_pne rfl rfl rfl) ?_ | refine s_v (r_min rfl rfl) ?_ | refine s_v (r_max rfl rfl) ?_ | refine s_v (r_bd rfl) ?_ | refine s_v (r_pt rfl rfl) ?_ | refine s_v (r_pf rfl rfl) ?_))
  exact ret_1 rfl rfl ⟨bx, rfl, n1⟩
theorem Left (bt rb : Nat) (n : Int) (zs : List Int) (i : Nat) (w : World) (h : Tp w bt rb n zs i) (hl : zs.length ≤ 1000) (hi : i ≤ zs.length) :
    Ret Tryd.prog 14 [.pointer (some ⟨bt, 0, none⟩)] w fun v w1 => ∃ bx a c, v = .func (.func 31) #[] #[.pointer (some ⟨bx, 0, none⟩)] ∧ w.heap.size ≤ bx ∧ Kp No w w1 ∧
      w1.heap[bx]? = some (.cells [Value.slice a (zs.drop i).length c].toArray 22 (0, 0)) ∧ (zs.drop i = [] ∨ ∃ o, a = some ⟨rb, o, none⟩ ∧ ∀ (j : Nat) x, (zs.drop i)[j]? = some x → w1.cell? ⟨rb, o + j, none⟩ = some (.int .i64 x)) := by
  refine ret_enter Tryd.func14 rfl Tryd.ntmps14 rfl ?_
  obtain ⟨l1, l2, a, c, hb, hc, hd⟩ := h
  (repeat (first | refine k_nil ?_ | refine k_n ?_ | refine k_r ?_ | refine k_x ?_ | refine b_n ?_ | refine b_r ?_ | refine b_y rfl ?_ | refine b_z rfl ?_ | refine l_r ?_ | refine l_x ?_ | refine k_seq ?_ | refine k_blk ?_ | refine k_reg ?_ | refine k_ret ?_ | refine k_exit ?_ | refine k_skip ?_ | refine s_v (r_mv rfl) ?_ | refine s_v (r_as rfl) ?_ | refine s_v (r_add rfl rfl (by omega)) ?_ | refine s_v (r_sub rfl rfl (by omega)) ?_ | refine s_v (r_mul rfl rfl (by omega)) ?_ | refine s_v (r_bin rfl) ?_ | refine s_v (r_fa rfl rfl) ?_ | refine s_v (r_ld rfl rfl (by first | assumption | exact cell_of_blk (by assumption) (by rfl))) ?_ | refine s_v (r_nc rfl) ?_ | refine s_v (r_not rfl) ?_ | refine s_v (r_mf rfl rfl) ?_ | refine s_v (r_len rfl) ?_ | refine s_v (r_ex rfl) ?_ | refine s_v (r_fd rfl) ?_ | refine s_v (r_rem rfl rfl (by omega) (by omega)) ?_ | refine s_v (r_cvi rfl rfl rfl (wrap_in (by omega))) ?_ | refine s_v (r_cv rfl) ?_ | refine s_v (r_peq rfl rfl rfl) ?_ | refine s_v (r_pne rfl rfl rfl) ?_ | refine s_v (r_min rfl rfl) ?_ | refine s_v (r_max rfl rfl) ?_ | refine s_v (r_bd rfl) ?_ | refine s_v (r_pt rfl rfl) ?_ | refine s_v (r_pf rfl rfl) ?_))
  refine k_h (fun w' => Kp No w w') [(0, false), (1, false), (2, false), (3, false), (4, false), (5, false), (6, false), (7, false), (8, false), (9, false), (10, true), (11, false)] 11 (by kernel_rfl) (by exact waits_of_last (by kernel_rfl)) (by kernel_rfl) (by kernel_rfl) rfl rfl (fun w1 k1 _ => ?_)
  refine h_v k1 (fun w' hw => r_mv rfl) ?_
  refine h_v k1 (fun w' hw => r_nc rfl) ?_
  refine h_v k1 (fun w' hw => r_fa rfl rfl) ?_
  refine h_v k1 (fun w' hw => r_fa rfl rfl) ?_
  refine h_v k1 (fun w' hw => r_ld rfl rfl (cell_of_blk (hw.get0 hb) rfl)) ?_
  refine h_v k1 (fun w' hw => r_mv rfl) ?_
  refine h_v k1 (fun w' hw => r_nc rfl) ?_
  refine h_v k1 (fun w' hw => r_fa rfl rfl) ?_
  refine h_v k1 (fun w' hw => r_ld rfl rfl (cell_of_blk (hw.get0 hb) rfl)) ?_
  refine h_v k1 (fun w' hw => r_slx (a' := subA a i c 1) (n' := (zs.drop i).length) (c' := c - i) rfl rfl rfl rfl rfl (by omega) (by omega) (by omega) (by omega) (by rw [Int.toNat_natCast]) (by rw [List.length_drop, Int.toNat_natCast, Int.toNat_natCast]) (by rw [Int.toNat_natCast])) ?_
  refine h_call (us := []) (zs := []) (by kernel_rfl) rfl rfl (Values _ _ _ w1) ?_
  rintro _ w2 ⟨bx, rfl, n2⟩
  refine ⟨fun _ => k1.no n2.kp, ?_⟩
  refine h_v (k1.no n2.kp) (fun w' hw => r_as rfl) ?_
  refine h_nil ?_
  (repeat (first | refine k_nil ?_ | refine k_n ?_ | refine k_r ?_ | refine k_x ?_ | refine b_n ?_ | refine b_r ?_ | refine b_y rfl ?_ | refine b_z rfl ?_ | refine l_r ?_ | refine l_x ?_ | refine k_seq ?_ | refine k_blk ?_ | refine k_reg ?_ | refine k_ret ?_ | refine k_exit ?_ | refine k_skip ?_ | refine s_v (r_mv rfl) ?_ | refine s_v (r_as rfl) ?_ | refine s_v (r_add rfl rfl (by omega)) ?_ | refine s_v (r_sub rfl rfl (by omega)) ?_ | refine s_v (r_mul rfl rfl (by omega)) ?_ | refine s_v (r_bin rfl) ?_ | refine s_v (r_fa rfl rfl) ?_ | refine s_v (r_ld rfl rfl (by first | assumption | exact cell_of_blk (by assumption) (by rfl))) ?_ | refine s_v (r_nc rfl) ?_ | refine s_v (r_not rfl) ?_ | refine s_v (r_mf rfl rfl) ?_ | refine s_v (r_len rfl) ?_ | refine s_v (r_ex rfl) ?_ | refine s_v (r_fd rfl) ?_ | refine s_v (r_rem rfl rfl (by omega) (by omega)) ?_ | refine s_v (r_cvi rfl rfl rfl (wrap_in (by omega))) ?_ | refine s_v (r_cv rfl) ?_ | refine s_v (r_peq rfl rfl rfl) ?_ | refine s_v (r_pne rfl rfl rfl) ?_ | refine s_v (r_min rfl rfl) ?_ | refine s_v (r_max rfl rfl) ?_ | refine s_v (r_bd rfl) ?_ | refine s_v (r_pt rfl rfl) ?_ | refine s_v (r_pf rfl rfl) ?_))
  refine ret_1 rfl rfl ⟨bx, _, _, rfl, by have := k1.size; have := n2.ge; omega, k1.no n2.kp, n2.blk, ?_⟩
  by_cases hk : i < zs.length
  · rcases hd with rfl | ⟨o, rfl, hne, hd⟩
    · cases hk
    · refine .inr ⟨o + i * 1, subA_at (by omega), fun j x hj => ?_⟩
      rw [List.getElem?_drop] at hj
      have := hd (i + j) x hj
      rw [Nat.mul_one, Nat.add_assoc]
      exact (k1.no n2.kp).cell0 this
  · exact .inl (List.drop_eq_nil_of_le (by omega))
theorem TStep (x : Int) (b16 b9 b15 b2 : Nat) (i k : Nat) (n : Int) (a : Option Addr) (zs : List Int) (cap : Nat) (w : World) (h16 : w.heap[b16]? = some (.cells [Value.bool true].toArray 4 (0, 0))) (h9 : w.heap[b9]? = some (.cells [Value.int .i64 i].toArray 3 (0, 0))) (h15 : w.heap[b15]? = some (.cells [Value.int .i64 k].toArray 3 (0, 0)))
    (h2 : w.heap[b2]? = some (.cells [Value.int .i64 n, .slice a zs.length cap].toArray 24 (0, 0))) (hr : Ri w a zs) (hx : zs[i + k]? = some x) (hl : zs.length ≤ 60) (hne : b16 ≠ b15) :
    Ret Tryd.prog 15 [.int .i64 x, .pointer (some ⟨b16, 0, none⟩), .pointer (some ⟨b9, 0, none⟩), .pointer (some ⟨b15, 0, none⟩), .pointer (some ⟨b2, 0, none⟩)] w fun v w1 => v = .bool (decide (k + 1 < 5)) ∧ Kp (fun q => q = b15 ∨ q = b16) w w1 ∧
      w1.heap[b16]? = some (.cells [Value.bool true].toArray 4 (0, 0)) ∧ w1.heap[b15]? = some (.cells [Value.int .i64 (k + 1 : Nat)].toArray 3 (0, 0)) := by
  refine ret_enter Tryd.func15 rfl Tryd.ntmps15 rfl ?_
  have hlt : i + k < zs.length := (List.getElem?_eq_some_iff.1 hx).1
  obtain ⟨bo, oo, rfl, hc⟩ := hr.at hx
  have hc' : w.cell? ⟨bo, oo + ((i : Int) + (k : Int)).toNat * 1, none⟩ = some (.int .i64 x) := hc
  (repeat (first | refine k_nil ?_ | refine k_n ?_ | refine k_r ?_ | refine k_x ?_ | refine b_n ?_ | refine b_r ?_ | refine b_y rfl ?_ | refine b_z rfl ?_ | refine l_r ?_ | refine l_x ?_ | refine k_seq ?_ | refine k_blk ?_ | refine k_reg ?_ | refine k_ret ?_ | refine k_exit ?_ | refine k_skip ?_ | refine s_v (r_mv rfl) ?_ | refine s_v (r_as rfl) ?_ | refine s_v (r_add rfl rfl (by omega)) ?_ | refine s_v (r_sub rfl rfl (by omega)) ?_ | refine s_v (r_mul rfl rfl (by omega)) ?_ | refine s_v (r_bin rfl) ?_ | refine s_v (r_fa rfl rfl) ?_ | refine s_v (r_ld rfl rfl (by first | assumption | exact cell_of_blk (by assumption) (by rfl))) ?_ | refine s_v (r_nc rfl) ?_ | refine s_v (r_not rfl) ?_ | refine s_v (r_mf rfl rfl) ?_ | refine s_v (r_len rfl) ?_ | refine s_v (r_ex rfl) ?_ | refine s_v (r_fd rfl) ?_ | refine s_v (r_rem rfl rfl (by omega) (by omega)) ?_ | refine s_v (r_cvi rfl rfl rfl (wrap_in (by omega))) ?_ | refine s_v (r_cv rfl) ?_ | refine s_v (r_peq rfl rfl rfl) ?_ | refine s_v (r_pne rfl rfl rfl) ?_ | refine s_v (r_min rfl rfl) ?_ | refine s_v (r_max rfl rfl) ?_ | refine s_v (r_bd rfl) ?_ | refine s_v (r_pt rfl rfl) ?_ | refine s_v (r_pf rfl rfl) ?_ | refine s_gn rfl rfl ?_ | refine s_gu rfl ?_ | refine s_gv rfl (r_mv rfl) ?_ | refine s_gv rfl (r_add rfl rfl (by omega)) ?_ | refine s_gv rfl (r_sub rfl rfl (by omega)) ?_ | refine s_gv rfl (r_mul rfl rfl (by omega)) ?_ | refine s_gv rfl (r_bin rfl) ?_ | refine s_gv rfl (r_not rfl) ?_ | refine s_gv rfl (r_len rfl) ?_ | refine s_gv rfl (r_pt rfl rfl) ?_ | refine s_gv rfl (r_pf rfl rfl) ?_ | refine s_gv rfl (r_nc rfl) ?_ | refine s_gv rfl (r_fa rfl rfl) ?_ | refine s_gv rfl (r_ld rfl rfl (by first | assumption | exact cell_of_blk (by assumption) (by rfl))) ?_ | refine s_gv rfl (r_cvi rfl rfl rfl (wrap_in (by omega))) ?_ | refine s_gv rfl (r_cv rfl) ?_ | refine s_gv rfl (r_peq rfl rfl rfl) ?_ | refine s_gv rfl (r_fd rfl) ?_ | refine s_gv rfl (r_ex rfl) ?_ | refine s_gv rfl (r_bd rfl) ?_))
  refine s_set 17 true rfl (decide_eq_true (by omega)) ?_
  (repeat (first | refine k_nil ?_ | refine k_n ?_ | refine k_r ?_ | refine k_x ?_ | refine b_n ?_ | refine b_r ?_ | refine b_y rfl ?_ | refine b_z rfl ?_ | refine l_r ?_ | refine l_x ?_ | refine k_seq ?_ | refine k_blk ?_ | refine k_reg ?_ | refine k_ret ?_ | refine k_exit ?_ | refine k_skip ?_ | refine s_v (r_mv rfl) ?_ | refine s_v (r_as rfl) ?_ | refine s_v (r_add rfl rfl (by omega)) ?_ | refine s_v (r_sub rfl rfl (by omega)) ?_ | refine s_v (r_mul rfl rfl (by omega)) ?_ | refine s_v (r_bin rfl) ?_ | refine s_v (r_fa rfl rfl) ?_ | refine s_v (r_ld rfl rfl (by first | assumption | exact cell_of_blk (by assumption) (by rfl))) ?_ | refine s_v (r_nc rfl) ?_ | refine s_v (r_not rfl) ?_ | refine s_v (r_mf rfl rfl) ?_ | refine s_v (r_len rfl) ?_ | refine s_v (r_ex rfl) ?_ | refine s_v (r_fd rfl) ?_ | refine s_v (r_rem rfl rfl (by omega) (by omega)) ?_ | refine s_v (r_cvi rfl rfl rfl (wrap_in (by omega))) ?_ | refine s_v (r_cv rfl) ?_ | refine s_v (r_peq rfl rfl rfl) ?_ | refine s_v (r_pne rfl rfl rfl) ?_ | refine s_v (r_min rfl rfl) ?_ | refine s_v (r_max rfl rfl) ?_ | refine s_v (r_bd rfl) ?_ | refine s_v (r_pt rfl rfl) ?_ | refine s_v (r_pf rfl rfl) ?_ | refine s_gn rfl rfl ?_ | refine s_gu rfl ?_ | refine s_gv rfl (r_mv rfl) ?_ | refine s_gv rfl (r_add rfl rfl (by omega)) ?_ | refine s_gv rfl (r_sub rfl rfl (by omega)) ?_ | refine s_gv rfl (r_mul rfl rfl (by omega)) ?_ | refine s_gv rfl (r_bin rfl) ?_ | refine s_gv rfl (r_not rfl) ?_ | refine s_gv rfl (r_len rfl) ?_ | refine s_gv rfl (r_pt rfl rfl) ?_ | refine s_gv rfl (r_pf rfl rfl) ?_ | refine s_gv rfl (r_nc rfl) ?_ | refine s_gv rfl (r_fa rfl rfl) ?_ | refine s_gv rfl (r_ld rfl rfl (by first | assumption | exact cell_of_blk (by assumption) (by rfl))) ?_ | refine s_gv rfl (r_cvi rfl rfl rfl (wrap_in (by omega))) ?_ | refine s_gv rfl (r_cv rfl) ?_ | refine s_gv rfl (r_peq rfl rfl rfl) ?_ | refine s_gv rfl (r_fd rfl) ?_ | refine s_gv rfl (r_ex rfl) ?_ | refine s_gv rfl (r_bd rfl) ?_))
  refine s_gv rfl (r_ia rfl rfl rfl rfl (by omega) (by omega)) ?_
  (repeat (first | refine k_nil ?_ | refine k_n ?_ | refine k_r ?_ | refine k_x ?_ | refine b_n ?_ | refine b_r ?_ | refine b_y rfl ?_ | refine b_z rfl ?_ | refine l_r ?_ | refine l_x ?_ | refine k_seq ?_ | refine k_blk ?_ | refine k_reg ?_ | refine k_ret ?_ | refine k_exit ?_ | refine k_skip ?_ | refine s_v (r_mv rfl) ?_ | refine s_v (r_as rfl) ?_ | refine s_v (r_add rfl rfl (by omega)) ?_ | refine s_v (r_sub rfl rfl (by omega)) ?_ | refine s_v (r_mul rfl rfl (by omega)) ?_ | refine s_v (r_bin rfl) ?_ | refine s_v (r_fa rfl rfl) ?_ | refine s_v (r_ld rfl rfl (by first | assumption | exact cell_of_blk (by assumption) (by rfl))) ?_ | refine s_v (r_nc rfl) ?_ | refine s_v (r_not rfl) ?_ | refine s_v (r_mf rfl rfl) ?_ | refine s_v (r_len rfl) ?_ | refine s_v (r_ex rfl) ?_ | refine s_v (r_fd rfl) ?_ | refine s_v (r_rem rfl rfl (by omega) (by omega)) ?_ | refine s_v (r_cvi rfl rfl rfl (wrap_in (by omega))) ?_ | refine s_v (r_cv rfl) ?_ | refine s_v (r_peq rfl rfl rfl) ?_ | refine s_v (r_pne rfl rfl rfl) ?_ | refine s_v (r_min rfl rfl) ?_ | refine s_v (r_max rfl rfl) ?_ | refine s_v (r_bd rfl) ?_ | refine s_v (r_pt rfl rfl) ?_ | refine s_v (r_pf rfl rfl) ?_ | refine s_gn rfl rfl ?_ | refine s_gu rfl ?_ | refine s_gv rfl (r_mv rfl) ?_ | refine s_gv rfl (r_add rfl rfl (by omega)) ?_ | refine s_gv rfl (r_sub rfl rfl (by omega)) ?_ | refine s_gv rfl (r_mul rfl rfl (by omega)) ?_ | refine s_gv rfl (r_bin rfl) ?_ | refine s_gv rfl (r_not rfl) ?_ | refine s_gv rfl (r_len rfl) ?_ | refine s_gv rfl (r_pt rfl rfl) ?_ | refine s_gv rfl (r_pf rfl rfl) ?_ | refine s_gv rfl (r_nc rfl) ?_ | refine s_gv rfl (r_fa rfl rfl) ?_ | refine s_gv rfl (r_ld rfl rfl (by first | assumption | exact cell_of_blk (by assumption) (by rfl))) ?_ | refine s_gv rfl (r_cvi rfl rfl rfl (wrap_in (by omega))) ?_ | refine s_gv rfl (r_cv rfl) ?_ | refine s_gv rfl (r_peq rfl rfl rfl) ?_ | refine s_gv rfl (r_fd rfl) ?_ | refine s_gv rfl (r_ex rfl) ?_ | refine s_gv rfl (r_bd rfl) ?_))
  refine s_set 27 true rfl (by simp) ?_
  refine s_st rfl rfl rfl rfl rfl h16 (Nat.le_of_ble_eq_true rfl) (fun w1 s1 => ?_)
  have h15' := s1.kp.get h15 (by show ¬ b15 = b16; omega)
  (repeat (first | refine k_nil ?_ | refine k_n ?_ | refine k_r ?_ | refine k_x ?_ | refine b_n ?_ | refine b_r ?_ | refine b_y rfl ?_ | refine b_z rfl ?_ | refine l_r ?_ | refine l_x ?_ | refine k_seq ?_ | refine k_blk ?_ | refine k_reg ?_ | refine k_ret ?_ | refine k_exit ?_ | refine k_skip ?_ | refine s_v (r_mv rfl) ?_ | refine s_v (r_as rfl) ?_ | refine s_v (r_add rfl rfl (by omega)) ?_ | refine s_v (r_sub rfl rfl (by omega)) ?_ | refine s_v (r_mul rfl rfl (by omega)) ?_ | refine s_v (r_bin rfl) ?_ | refine s_v (r_fa rfl rfl) ?_ | refine s_v (r_ld rfl rfl (by first | assumption | exact cell_of_blk (by assumption) (by rfl))) ?_ | refine s_v (r_nc rfl) ?_ | refine s_v (r_not rfl) ?_ | refine s_v (r_mf rfl rfl) ?_ | refine s_v (r_len rfl) ?_ | refine s_v (r_ex rfl) ?_ | refine s_v (r_fd rfl) ?_ | refine s_v (r_rem rfl rfl (by omega) (by omega)) ?_ | refine s_v (r_cvi rfl rfl rfl (wrap_in (by omega))) ?_ | refine s_v (r_cv rfl) ?_ | refine s_v (r_peq rfl rfl rfl) ?_ | refine s_v (r_pne rfl rfl rfl) ?_ | refine s_v (r_min rfl rfl) ?_ | refine s_v (r_max rfl rfl) ?_ | refine s_v (r_bd rfl) ?_ | refine s_v (r_pt rfl rfl) ?_ | refine s_v (r_pf rfl rfl) ?_))
  refine s_st rfl rfl rfl rfl rfl h15' (Nat.le_of_ble_eq_true rfl) (fun w2 s2 => ?_)
  have h16' := s2.kp.get s1.blk (by show ¬ b16 = b15; omega)
  have h15'' := s2.blk
  (repeat (first | refine k_nil ?_ | refine k_n ?_ | refine k_r ?_ | refine k_x ?_ | refine b_n ?_ | refine b_r ?_ | refine b_y rfl ?_ | refine b_z rfl ?_ | refine l_r ?_ | refine l_x ?_ | refine k_seq ?_ | refine k_blk ?_ | refine k_reg ?_ | refine k_ret ?_ | refine k_exit ?_ | refine k_skip ?_ | refine s_v (r_mv rfl) ?_ | refine s_v (r_as rfl) ?_ | refine s_v (r_add rfl rfl (by omega)) ?_ | refine s_v (r_sub rfl rfl (by omega)) ?_ | refine s_v (r_mul rfl rfl (by omega)) ?_ | refine s_v (r_bin rfl) ?_ | refine s_v (r_fa rfl rfl) ?_ | refine s_v (r_ld rfl rfl (by first | assumption | exact cell_of_blk (by assumption) (by rfl))) ?_ | refine s_v (r_nc rfl) ?_ | refine s_v (r_not rfl) ?_ | refine s_v (r_mf rfl rfl) ?_ | refine s_v (r_len rfl) ?_ | refine s_v (r_ex rfl) ?_ | refine s_v (r_fd rfl) ?_ | refine s_v (r_rem rfl rfl (by omega) (by omega)) ?_ | refine s_v (r_cvi rfl rfl rfl (wrap_in (by omega))) ?_ | refine s_v (r_cv rfl) ?_ | refine s_v (r_peq rfl rfl rfl) ?_ | refine s_v (r_pne rfl rfl rfl) ?_ | refine s_v (r_min rfl rfl) ?_ | refine s_v (r_max rfl rfl) ?_ | refine s_v (r_bd rfl) ?_ | refine s_v (r_pt rfl rfl) ?_ | refine s_v (r_pf rfl rfl) ?_ | refine s_gn rfl rfl ?_ | refine s_gu rfl ?_ | refine s_gv rfl (r_mv rfl) ?_ | refine s_gv rfl (r_add rfl rfl (by omega)) ?_ | refine s_gv rfl (r_sub rfl rfl (by omega)) ?_ | refine s_gv rfl (r_mul rfl rfl (by omega)) ?_ | refine s_gv rfl (r_bin rfl) ?_ | refine s_gv rfl (r_not rfl) ?_ | refine s_gv rfl (r_len rfl) ?_ | refine s_gv rfl (r_pt rfl rfl) ?_ | refine s_gv rfl (r_pf rfl rfl) ?_ | refine s_gv rfl (r_nc rfl) ?_ | refine s_gv rfl (r_fa rfl rfl) ?_ | refine s_gv rfl (r_ld rfl rfl (by first | assumption | exact cell_of_blk (by assumption) (by rfl))) ?_ | refine s_gv rfl (r_cvi rfl rfl rfl (wrap_in (by omega))) ?_ | refine s_gv rfl (r_cv rfl) ?_ | refine s_gv rfl (r_peq rfl rfl rfl) ?_ | refine s_gv rfl (r_fd rfl) ?_ | refine s_gv rfl (r_ex rfl) ?_ | refine s_gv rfl (r_bd rfl) ?_))
  refine ret_1 rfl rfl ⟨?_, (s1.kp.mono fun _ _ h => Or.inr h : Kp (fun q => q = b15 ∨ q = b16) w w1).trans s2.kp (fun _ _ h => Or.inl h), h16', h15''⟩
  by_cases hk : k + 1 < 5
  · rw [decide_eq_true hk, decide_eq_true (by omega)]
  · rw [decide_eq_false hk, decide_eq_false (by omega)]
/-- What is left on the tape, handed to the closure. -/
theorem TRest (b16 b9 b15 b2 bx rb : Nat) (i : Nat) (n : Int) (a ad : Option Addr) (zs : List Int) (cap c : Nat) (w W : World) (kw : Kp No w W) (h16 : W.heap[b16]? = some (.cells [Value.bool true].toArray 4 (0, 0))) (h9 : W.heap[b9]? = some (.cells [Value.int .i64 i].toArray 3 (0, 0))) (h15 : W.heap[b15]? = some (.cells [Value.int .i64 0].toArray 3 (0, 0)))
    (h2 : W.heap[b2]? = some (.cells [Value.int .i64 n, .slice a zs.length cap].toArray 24 (0, 0))) (hr : Ri w a zs) (hl : zs.length ≤ 60) (hi : i ≤ zs.length) (hne : b16 ≠ b15)
    (hbx : W.heap[bx]? = some (.cells [Value.slice ad (zs.drop i).length c].toArray 22 (0, 0))) (hd : zs.drop i = [] ∨ ∃ o, ad = some ⟨rb, o, none⟩ ∧ ∀ (j : Nat) x, (zs.drop i)[j]? = some x → W.cell? ⟨rb, o + j, none⟩ = some (.int .i64 x))
    (hrb : rb < W.heap.size) (g1 : w.heap.size ≤ b16) (g2 : w.heap.size ≤ b15) (g3 : w.heap.size ≤ bx) (g4 : w.heap.size ≤ rb) (d1 : b9 ≠ b15 ∧ b9 ≠ b16 ∧ b9 ≠ bx ∧ b9 ≠ rb) (d2 : b2 ≠ b15 ∧ b2 ≠ b16 ∧ b2 ≠ bx ∧ b2 ≠ rb) (d3 : b15 ≠ bx ∧ b15 ≠ rb ∧ b16 ≠ bx ∧ b16 ≠ rb) :
    Ret Tryd.prog 31 [.func (.func 15) #[] #[.pointer (some ⟨b16, 0, none⟩), .pointer (some ⟨b9, 0, none⟩), .pointer (some ⟨b15, 0, none⟩), .pointer (some ⟨b2, 0, none⟩)], .pointer (some ⟨bx, 0, none⟩)] W fun v b => v = .tuple #[] ∧ Kp (fun q => q = b15 ∨ q = b16) W b ∧
      b.heap[b16]? = some (.cells [Value.bool true].toArray 4 (0, 0)) ∧ b.heap[b15]? = some (.cells [Value.int .i64 (min 5 ((zs.length : Int) - i))].toArray 3 (0, 0)) := by
  have hlen : ((zs.drop i).map fun x => [Value.int .i64 x]).length = zs.length - i := by simp
  refine (valuesRun ad (zs.drop i) c bx rb W hbx (by rw [List.length_drop]; omega) hrb hd _
    (fun k S m => (S b15 ∧ S b16) ∧ k ≤ 4 ∧ m.heap[b16]? = some (.cells [Value.bool true].toArray 4 (0, 0)) ∧ m.heap[b15]? = some (.cells [Value.int .i64 (k : Nat)].toArray 3 (0, 0)))
    (fun k S m => (S b15 ∧ S b16) ∧ k = 5 ∧ m.heap[b16]? = some (.cells [Value.bool true].toArray 4 (0, 0)) ∧ m.heap[b15]? = some (.cells [Value.int .i64 (k : Nat)].toArray 3 (0, 0)))
    (fun q => q = b15 ∨ q = b16) W rfl (Kp.refl _ _) ?_ ?_ ?_ ?_ ?_).mono ?_
  · rintro k S p q ⟨⟨h1, h2⟩, h3, h4, h5⟩ hk
    exact ⟨⟨h1, h2⟩, h3, hk.get h4 (fun h => h h2), hk.get h5 (fun h => h h1)⟩
  · rintro k S p q ⟨⟨h1, h2⟩, h3, h4, h5⟩ hk
    exact ⟨⟨h1, h2⟩, h3, hk.get h4 (fun h => h h2), hk.get h5 (fun h => h h1)⟩
  · have l1 := lt_of_get h15
    have l2 := lt_of_get h16
    rintro k (rfl | rfl)
    · exact ⟨l1, by omega⟩
    · exact ⟨l2, by omega⟩
  · rintro k S p vs hvs ⟨⟨hs1, hs2⟩, hk4, j16, j15⟩ hlt hka
    rw [List.getElem?_map, Option.map_eq_some_iff] at hvs
    obtain ⟨x, hx, rfl⟩ := hvs
    rw [List.getElem?_drop] at hx
    have kwp : Kp No w p := kw.trans hka (fun q hq hS => by
      have := kw.size
      rcases hS with (h | h) | (h | h) <;> omega)
    have j9 := hka.get h9 (by
      show ¬ ((b9 = b15 ∨ b9 = b16) ∨ (b9 = bx ∨ b9 = rb)); omega)
    have j2 := hka.get h2 (by
      show ¬ ((b2 = b15 ∨ b2 = b16) ∨ (b2 = bx ∨ b2 = rb)); omega)
    refine .inl ⟨_, [], _, rfl, by kernel_rfl, (TStep x b16 b9 b15 b2 i k n a zs cap p j16 j9 j15 j2 (hr.kp kwp) hx hl hne).mono ?_⟩
    rintro _ b ⟨rfl, kb, e16, e15⟩
    have hS : Ex S S p b := ⟨fun _ h => h, fun _ h => .inl h, kb.mono fun q _ h => by rcases h with rfl | rfl <;> assumption⟩
    refine ⟨S, hS, ?_⟩
    by_cases hk : k + 1 < 5
    · exact .inl ⟨by rw [decide_eq_true hk], ⟨hs1, hs2⟩, by omega, e16, e15⟩
    · exact .inr ⟨by rw [decide_eq_false hk], ⟨hs1, hs2⟩, by omega, e16, e15⟩
  · exact ⟨⟨.inl rfl, .inr rfl⟩, Nat.zero_le _, h16, h15⟩
  · rintro v b ⟨rfl, kb1, kb2, S', hs1, hs2, hor⟩
    have kb : Kp (fun q => q = b15 ∨ q = b16) W b := ⟨kb1.os, kb1.tape, kb1.output, kb1.size, fun k hk hs => by
      by_cases hT : k = bx ∨ k = rb
      · exact kb2.block k hk (fun h => h hT)
      · exact kb1.block k hk (fun h => h.elim hs hT)⟩
    refine ⟨rfl, kb, ?_⟩
    rcases hor with ⟨_, h4, j16, j15⟩ | ⟨k, hk, _, rfl, j16, j15⟩
    · rw [hlen] at h4 j15
      refine ⟨j16, ?_⟩
      rw [j15, show min 5 ((zs.length : Int) - i) = ((zs.length - i : Nat) : Int) from by omega]
    · rw [hlen] at hk
      refine ⟨j16, ?_⟩
      rw [j15, show min 5 ((zs.length : Int) - i) = ((5 : Nat) : Int) from by omega]
end Wo
end Go.Proofs.YtoldmhlkgdfkmaaDoor
