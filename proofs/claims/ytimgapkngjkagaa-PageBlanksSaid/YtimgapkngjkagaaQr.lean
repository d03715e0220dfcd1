/- Pages: sorting spans, whatever their order. -/
import Derived.Test.YtimgapkngjkagaaQc
import Derived.Test.YtimgapkngjkagaaSg
import Derived.Shelf.SlSortCmp.WholeK
namespace Go.Proofs.Ytimgapkngjkagaa
open Go Go.RowKit Fw Sp Pp
open Go.Sort
set_option linter.unusedVariables false
set_option maxRecDepth 20000
namespace Pg
def encS (x : Int × Int) : List Value := [.int .i64 x.1, .int .i64 x.2]
theorem cov1E (p q : Int × Int) (W : World) : Calls Try.prog 16 #[.agg #[.int .i64 p.1, .int .i64 p.2], .agg #[.int .i64 q.1, .int .i64 q.2]] W fun e w' => e = .returned (.int .i64 (cp p.1 q.1)) ∧ ∃ k os', w' = grow (W.drewN k) os' := by
  have key : Ret Try.prog 16 [sp p, sp q] W fun v w1 => v = .int .i64 (cp p.1 q.1) ∧ ∃ k os', w1 = grow (W.drewN k) os' := by
    refine ret_enter Try.func16 rfl Try.ntmps16 rfl ?_
    (repeat (first | refine k_nil ?_ | refine k_n ?_ | refine k_r ?_ | refine k_x ?_ | refine b_n ?_ | refine b_r ?_ | refine b_y rfl ?_ | refine b_z rfl ?_ | refine l_r ?_ | refine l_x ?_ | refine k_seq ?_ | refine k_blk ?_ | refine k_reg ?_ | refine k_ret ?_ | refine k_exit ?_ | refine k_skip ?_ | refine s_v (r_mv rfl) ?_ | refine s_v (r_as rfl) ?_ | refine s_v (r_add rfl rfl (by omega)) ?_ | refine s_v (r_sub rfl rfl (by omega)) ?_ | refine s_v (r_mul rfl rfl (by omega)) ?_ | refine s_v (r_bin rfl) ?_ | refine s_v (r_fa rfl rfl) ?_ | refine s_v (r_ld rfl rfl (by first | assumption | exact cell_of_blk (by assumption) (by rfl))) ?_ | refine s_v (r_nc rfl) ?_ | refine s_v (r_not rfl) ?_ | refine s_v (r_mf rfl rfl) ?_ | refine s_v (r_len rfl) ?_ | refine s_v (r_ex rfl) ?_ | refine s_v (r_fd rfl) ?_ | refine s_v (r_rem rfl rfl (by omega) (by omega)) ?_ | refine s_v (r_cvi rfl rfl rfl (wrap_in (by omega))) ?_ | refine s_v (r_cv rfl) ?_ | refine s_v (r_peq rfl rfl rfl) ?_ | refine s_v (r_pne rfl rfl rfl) ?_ | refine s_v (r_min rfl rfl) ?_ | refine s_v (r_max rfl rfl) ?_ | refine s_v (r_bd rfl) ?_ | refine s_v (r_pt rfl rfl) ?_ | refine s_v (r_pf rfl rfl) ?_))
    refine s_go (r_box (cs := [.int .i64 p.1, .int .i64 p.2]) rfl rfl) ?_
    refine s_go (r_box (cs := [.int .i64 q.1, .int .i64 q.2]) rfl rfl) ?_
    have n1 := nb_alloc W [.int .i64 p.1, .int .i64 p.2] 26
    have n2 := nb_alloc (W.alloc (.cells [Value.int .i64 p.1, .int .i64 p.2].toArray 26)) [.int .i64 q.1, .int .i64 q.2] 26
    obtain ⟨w2, hw2⟩ : ∃ w2, (W.alloc (.cells [Value.int .i64 p.1, .int .i64 p.2].toArray 26)).alloc (.cells [Value.int .i64 q.1, .int .i64 q.2].toArray 26) = w2 := ⟨_, rfl⟩
    rw [hw2] at n2 ⊢
    have e1 := n2.kp.get0 n1.blk
    have e2 := n2.blk
    (repeat (first | refine k_nil ?_ | refine k_n ?_ | refine k_r ?_ | refine k_x ?_ | refine b_n ?_ | refine b_r ?_ | refine b_y rfl ?_ | refine b_z rfl ?_ | refine l_r ?_ | refine l_x ?_ | refine k_seq ?_ | refine k_blk ?_ | refine k_reg ?_ | refine k_ret ?_ | refine k_exit ?_ | refine k_skip ?_ | refine s_v (r_mv rfl) ?_ | refine s_v (r_as rfl) ?_ | refine s_v (r_add rfl rfl (by omega)) ?_ | refine s_v (r_sub rfl rfl (by omega)) ?_ | refine s_v (r_mul rfl rfl (by omega)) ?_ | refine s_v (r_bin rfl) ?_ | refine s_v (r_fa rfl rfl) ?_ | refine s_v (r_ld rfl rfl (by first | assumption | exact cell_of_blk (by assumption) (by rfl))) ?_ | refine s_v (r_nc rfl) ?_ | refine s_v (r_not rfl) ?_ | refine s_v (r_mf rfl rfl) ?_ | refine s_v (r_len rfl) ?_ | refine s_v (r_ex rfl) ?_ | refine s_v (r_fd rfl) ?_ | refine s_v (r_rem rfl rfl (by omega) (by omega)) ?_ | refine s_v (r_cvi rfl rfl rfl (wrap_in (by omega))) ?_ | refine s_v (r_cv rfl) ?_ | refine s_v (r_peq rfl rfl rfl) ?_ | refine s_v (r_pne rfl rfl rfl) ?_ | refine s_v (r_min rfl rfl) ?_ | refine s_v (r_max rfl rfl) ?_ | refine s_v (r_bd rfl) ?_ | refine s_v (r_pt rfl rfl) ?_ | refine s_v (r_pf rfl rfl) ?_))
    refine s_call (us := []) (zs := []) (by kernel_rfl) rfl rfl (cmpI p.1 q.1 w2) ?_
    rintro _ w3 ⟨rfl, rfl⟩
    (repeat (first | refine k_nil ?_ | refine k_n ?_ | refine k_r ?_ | refine k_x ?_ | refine b_n ?_ | refine b_r ?_ | refine b_y rfl ?_ | refine b_z rfl ?_ | refine l_r ?_ | refine l_x ?_ | refine k_seq ?_ | refine k_blk ?_ | refine k_reg ?_ | refine k_ret ?_ | refine k_exit ?_ | refine k_skip ?_ | refine s_v (r_mv rfl) ?_ | refine s_v (r_as rfl) ?_ | refine s_v (r_add rfl rfl (by omega)) ?_ | refine s_v (r_sub rfl rfl (by omega)) ?_ | refine s_v (r_mul rfl rfl (by omega)) ?_ | refine s_v (r_bin rfl) ?_ | refine s_v (r_fa rfl rfl) ?_ | refine s_v (r_ld rfl rfl (by first | assumption | exact cell_of_blk (by assumption) (by rfl))) ?_ | refine s_v (r_nc rfl) ?_ | refine s_v (r_not rfl) ?_ | refine s_v (r_mf rfl rfl) ?_ | refine s_v (r_len rfl) ?_ | refine s_v (r_ex rfl) ?_ | refine s_v (r_fd rfl) ?_ | refine s_v (r_rem rfl rfl (by omega) (by omega)) ?_ | refine s_v (r_cvi rfl rfl rfl (wrap_in (by omega))) ?_ | refine s_v (r_cv rfl) ?_ | refine s_v (r_peq rfl rfl rfl) ?_ | refine s_v (r_pne rfl rfl rfl) ?_ | refine s_v (r_min rfl rfl) ?_ | refine s_v (r_max rfl rfl) ?_ | refine s_v (r_bd rfl) ?_ | refine s_v (r_pt rfl rfl) ?_ | refine s_v (r_pf rfl rfl) ?_))
    exact ret_1 rfl rfl ⟨rfl, 0, _, by rw [← hw2, alloc_eq_grow, alloc_eq_grow, grow_grow]; rfl⟩
  exact Calls.mono key (fun e w' ⟨v, he, hv, hw⟩ => ⟨by rw [he, hv], hw⟩)
theorem ltS (x y : Int × Int) : Go.Proofs.ltOf (fun x y : Int × Int => cp x.1 y.1) x y = decide (x.1 < y.1) := by
  unfold Go.Proofs.ltOf cp
  by_cases h1 : x.1 < y.1
  · simp [h1]
  · by_cases h2 : y.1 < x.1 <;> simp [h1, h2]
theorem swoS : SWO (Go.Proofs.ltOf fun x y : Int × Int => cp x.1 y.1) where
  irrefl x := by rw [ltS]; simp
  trans x y z h1 h2 := by rw [ltS] at *; simp at *; omega
  ntrans x y z h1 h2 := by rw [ltS] at *; simp at *; omega
theorem sortG (xs : List (Int × Int)) (b o c : Nat) (C : Array Value) (T : TypeId) (w : World) (hb : w.heap[b]? = some (.cells C T (0, 0)))
    (hr : ∀ (j : Nat) p, xs[j]? = some p → w.cell? ⟨b, o + j * 2, none⟩ = some (.int .i64 p.1) ∧ w.cell? ⟨b, o + j * 2 + 1, none⟩ = some (.int .i64 p.2)) (hl : xs.length ≤ 1000) :
    Ret Try.prog 15 [.slice (some ⟨b, o, none⟩) xs.length c, .func (.func 16) #[] #[]] w fun v w1 => v = .tuple #[] ∧ (∃ ys : List (Int × Int), ys.Perm xs ∧ up ys ∧ Rs w1 (some ⟨b, o, none⟩) ys) ∧ Kp (fun k => k = b) w w1 := by
  have hblk := lt_of_get hb
  have hH : HoldsK encS 2 w b o xs.toArray := by
    intro j hj
    rw [size_flatK] at hj
    have hj' : j < xs.length * 2 := hj
    rw [get_flatK encS 2 xs.toArray j hj]
    refine ⟨?_, Lib.frozen_of_heap hb _⟩
    obtain ⟨p, hp⟩ : ∃ p, xs[j / 2]? = some p := ⟨_, List.getElem?_eq_getElem (by omega)⟩
    have e : xs.toArray[j / 2]! = p := by
      rw [List.getElem!_toArray, List.getElem!_eq_getElem?_getD, hp]; rfl
    rw [e]
    rcases Nat.mod_two_eq_zero_or_one j with hm | hm
    · rw [hm, show o + j = o + j / 2 * 2 from by omega]
      exact (hr _ p hp).1
    · rw [hm, show o + j = o + j / 2 * 2 + 1 from by omega]
      exact (hr _ p hp).2
  have eg : ∀ args w, (callFunc 16 args).run Try.prog w = .ok (.enter 16 args) w := enters_of Try.func16 (by kernel_rfl) rfl
  have hcon := AnyQ.slices_SortFunc Try.sortL 2 Try.isAgg26 Try.sizeOf26 encS (fun _ => rfl) (fun x v hv => by simp [encS] at hv; rcases hv with rfl | rfl <;> rfl) (fun x y => cp x.1 y.1) swoS 16 #[] b o c xs.toArray w eg (fun _ _ _ _ x y => cov1E x y _) hH hblk (by simp; omega)
  change Calls Try.prog 15 _ _ _ at hcon
  refine Calls.mono hcon ?_
  rintro e w1 ⟨rfl, d, n, os, hperm, hsort, rfl⟩
  have hd : d.size = xs.length := hperm.1
  have hH1 : HoldsK encS 2 (sortWorldK encS 2 w b o n d os) b o d := holdsK_grow encS 2 _ os b o d (by rw [size_putRowK]; exact hblk) (holdsK_putRowK encS 2 (Sort.ahead w n) b o xs.toArray d (holdsK_ahead encS 2 w n b o _ hH) hperm.1)
  refine ⟨_, rfl, rfl, ⟨d.toList, ?_, ?_, ?_⟩, ?_⟩
  · have h := hperm.2.2
    have e1 : d.extract 0 xs.toArray.size = d := by rw [← hperm.1]; simp
    have e2 : xs.toArray.extract 0 xs.toArray.size = xs.toArray := by simp
    rw [e1, e2] at h
    exact h
  · intro j p q hp hq
    have hj := (List.getElem?_eq_some_iff.1 hq).1
    rw [Array.length_toList, hd] at hj
    have h := hsort j (j + 1) (Nat.zero_le _) (by omega) hj
    rw [ltS] at h
    have e1 : d[j]! = p := by rw [Array.getElem!_eq_getD, Array.getD_eq_getD_getElem?, ← Array.getElem?_toList, hp]; rfl
    have e2 : d[j + 1]! = q := by rw [Array.getElem!_eq_getD, Array.getD_eq_getD_getElem?, ← Array.getElem?_toList, hq]; rfl
    rw [e1, e2] at h
    simp at h
    exact h
  · refine .inr ⟨b, o, rfl, ?_, fun j p hp => ?_⟩
    · show b < (grow _ os).heap.size
      simp only [grow, Array.size_append, size_putRowK]
      exact Nat.lt_of_lt_of_le hblk (Nat.le_add_right _ _)
    · have hj := (List.getElem?_eq_some_iff.1 hp).1
      rw [Array.length_toList] at hj
      have e1 : d[j]! = p := by rw [Array.getElem!_eq_getD, Array.getD_eq_getD_getElem?, ← Array.getElem?_toList, hp]; rfl
      have h0 := (hH1.cell (i := j) (c := 0) hj (by omega)).1
      have h1 := (hH1.cell (i := j) (c := 1) hj (by omega)).1
      rw [e1] at h0 h1
      exact ⟨h0, h1⟩
  · refine ⟨rfl, rfl, rfl, ?_, fun k hk hs => ?_⟩
    · show _ ≤ (grow _ os).heap.size
      simp only [grow, Array.size_append, size_putRowK]
      exact Nat.le_add_right _ _
    · have hs : ¬ k = b := hs
      show ((putRowK encS 2 (Sort.ahead w n) b o d).heap ++ os)[k]? = _
      rw [Array.getElem?_append_left (by rw [size_putRowK]; exact hk)]
      simp [putRowK, putRow, mapBlock, Array.getElem?_modify, Ne.symm hs, Sort.ahead]
end Pg
end Go.Proofs.Ytimgapkngjkagaa
