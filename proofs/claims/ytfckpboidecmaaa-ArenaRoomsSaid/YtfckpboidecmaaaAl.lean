/- The statement ArenaRooms: its walk. -/
import Derived.Test.YtfckpboidecmaaaAw
namespace Go.Proofs.Ytfckpboidecmaaa
open Go Go.RowKit Fw
set_option linter.unusedVariables false
namespace Ar
/-- Which of 256 numbers stand in a list. -/
def seenL (l : List Int) : List Value := (List.range 256).map fun j : Nat => .bool (l.contains (j : Int))
theorem seenL_get (l : List Int) (j : Nat) (h : j < 256) : (seenL l)[j]? = some (.bool (l.contains (j : Int))) := by
  simp [seenL, h]
theorem seenL_set (l : List Int) (j : Nat) (h : j < 256) : setAt (seenL l) j [.bool true] = seenL (l ++ [(j : Int)]) := by
  apply List.ext_getElem?
  intro i
  simp only [setAt, seenL, List.getElem?_set, List.length_map, List.length_range, h, if_true, List.getElem?_map]
  by_cases e : j = i
  · subst e; simp [h]
  · rw [if_neg e]
    by_cases hi : i < 256
    · have : ¬ (i : Int) = j := by omega
      simp [hi, this]
    · rw [List.getElem?_eq_none (by simp; omega)]; simp
/-- What is known behind so many asks. -/
structure Inv (n : Nat) (l : List Int) (xa xb : List (Int × Int)) (fa fb kinds : Int) : Prop where
  va : ∀ e ∈ xa, e.2 = e.1 * e.1 - 3
  vb : ∀ e ∈ xb, e.2 = e.1 * e.1 - 3
  na : (xa.map (·.1)).Nodup
  nb : (xb.map (·.1)).Nodup
  la : xa.length ≤ n
  ma : ∀ k ∈ xa.map (·.1), k ∈ l
  mb : ∀ k, k ∈ xb.map (·.1) ↔ k ∈ l
  eb : fb = xb.length
  ek : kinds = xb.length
  ga : xb.length ≤ fa
  ga' : fa ≤ l.length
  lb : xb.length ≤ l.length
theorem Inv.start (n : Nat) : Inv n [] [] [] 0 0 0 := by constructor <;> simp
theorem Inv.step {n : Nat} {l : List Int} {xa xb : List (Int × Int)} {fa fb kinds : Int} (h : Inv n l xa xb fa fb kinds) (h1 : 1 ≤ n) (hl : l.length < 1000) (k : Int) :
    Inv n (l ++ [k]) (put xa n k (k * k - 3)) (put xb (1000 : Nat) k (k * k - 3)) (if idx xa k < 0 then fa + 1 else fa) (if idx xb k < 0 then fb + 1 else fb) (if l.contains k then kinds else kinds + 1) := by
  have ka := put_keys xa n k (k * k - 3) h.na h.la h1
  have kb := put_keys xb 1000 k (k * k - 3) h.nb (by have := h.lb; omega) (by omega)
  have hb : lru 1000 (xb.map (·.1)) k = (xb.map (·.1)).filter (fun y => !(y == k)) ++ [k] := lru_room (by rw [List.length_map]; have := h.lb; omega)
  have hlen : ((put xb (1000 : Nat) k (k * k - 3)).length : Int) = if idx xb k < 0 then (xb.length : Int) + 1 else xb.length := by
    rw [← List.length_map (f := fun e : Int × Int => e.1), kb, hb, List.length_append, List.length_singleton]
    by_cases hm : idx xb k < 0
    · rw [if_pos hm, filter_none (fun hmem => by have := (idx_mem xb k).2 hmem; omega), List.length_map]; omega
    · rw [if_neg hm]
      obtain ⟨y, hy⟩ := idx_hit xb k (by omega)
      have hlt := (idx_range xb k).2
      rw [filter_erase _ _ k h.nb (by rw [List.getElem?_map, hy]; rfl), List.length_eraseIdx, if_pos (by simp; omega), List.length_map]; omega
  have hki : idx xb k < 0 ↔ ¬ k ∈ l := by
    rw [← h.mb k, ← idx_mem xb k]; omega
  have hla : ¬ k ∈ l → idx xa k < 0 := fun hm => by
    rcases Int.lt_or_le (idx xa k) 0 with h2 | h2
    · exact h2
    · exact absurd (h.ma k ((idx_mem xa k).1 h2)) hm
  constructor
  · exact put_vals h.va rfl
  · exact put_vals h.vb rfl
  · rw [ka]; exact lru_nodup h.na
  · rw [kb]; exact lru_nodup h.nb
  · rw [← List.length_map (f := fun e : Int × Int => e.1), ka]; exact lru_len _ _ _
  · intro y hy
    rw [ka] at hy
    rcases lru_mem hy with rfl | hy
    · simp
    · simp [h.ma y hy]
  · intro y
    rw [kb, hb]
    simp only [List.mem_append, List.mem_filter, List.mem_singleton, h.mb y]
    by_cases e : y = k
    · simp [e]
    · simp [e]
  · rw [hlen, h.eb]
  · rw [hlen, h.ek]
    by_cases hm : k ∈ l
    · rw [if_pos (by simpa using hm), if_neg (fun h2 => hki.1 h2 hm)]
    · rw [if_neg (by simpa using hm), if_pos (hki.2 hm)]
  · rw [hlen]
    have := h.ga
    by_cases hm : k ∈ l
    · rw [if_neg (fun h2 => hki.1 h2 hm)]; split <;> omega
    · rw [if_pos (hki.2 hm), if_pos (hla hm)]; omega
  · have := h.ga'; rw [List.length_append, List.length_singleton]; split <;> omega
  · have := h.lb
    have e : ((put xb (1000 : Nat) k (k * k - 3)).length : Int) ≤ l.length + 1 := by rw [hlen]; split <;> omega
    rw [List.length_append, List.length_singleton]; omega
set_option maxRecDepth 100000 in
theorem Rooms (room : Int) (a : Option Addr) (len cap : Nat) (ls : List Int) (w : World) (hroom : -9223372036854775808 ≤ room ∧ room ≤ 9223372036854775807) (hll : ls.length = len) (hlc : len ≤ cap) (hrange : ∀ n ∈ ls, 0 ≤ n ∧ n < 256)
    (hc : len ≠ 0 → ∃ b o, a = some ⟨b, o, none⟩ ∧ ∀ i n, ls[i]? = some n → w.cell? ⟨b, o + i, none⟩ = some (.int .u8 n)) :
    Ret Try.prog 3 [.int .i64 room, .slice a len cap] w fun v w1 => v = .bool true ∧ Kp No w w1 := by
  refine ret_enter Try.func3 rfl Try.ntmps3 rfl ?_
  (repeat (first | refine k_nil ?_ | refine k_n ?_ | refine k_r ?_ | refine k_x ?_ | refine b_n ?_ | refine b_r ?_ | refine b_y rfl ?_ | refine b_z rfl ?_ | refine l_r ?_ | refine l_x ?_ | refine k_seq ?_ | refine k_blk ?_ | refine k_reg ?_ | refine k_ret ?_ | refine k_exit ?_ | refine k_skip ?_ | refine s_v (r_mv rfl) ?_ | refine s_v (r_as rfl) ?_ | refine s_v (r_add rfl rfl (by omega)) ?_ | refine s_v (r_sub rfl rfl (by omega)) ?_ | refine s_v (r_mul rfl rfl (by omega)) ?_ | refine s_v (r_bin rfl) ?_ | refine s_v (r_fa rfl rfl) ?_ | refine s_v (r_ld rfl rfl (by first | assumption | exact cell_of_blk (by assumption) (by rfl))) ?_ | refine s_v (r_nc rfl) ?_ | refine s_v (r_not rfl) ?_ | refine s_v (r_mf rfl rfl) ?_ | refine s_v (r_len rfl) ?_ | refine s_v (r_ex rfl) ?_ | refine s_v (r_fd rfl) ?_ | refine s_v (r_cvi rfl rfl rfl (wrap_in (by omega))) ?_ | refine s_v (r_cv rfl) ?_ | refine s_v (r_peq rfl rfl rfl) ?_ | refine s_v (r_pne rfl rfl rfl) ?_ | refine s_v (r_min rfl rfl) ?_ | refine s_v (r_max rfl rfl) ?_ | refine s_v (r_bd rfl) ?_ | refine s_v (r_pt rfl rfl) ?_ | refine s_v (r_pf rfl rfl) ?_))
  refine s_call (us := []) (zs := []) (by kernel_rfl) rfl rfl (awake w) ?_
  rintro _ w1 ⟨rfl, k1⟩
  (repeat (first | refine k_nil ?_ | refine k_n ?_ | refine k_r ?_ | refine k_x ?_ | refine b_n ?_ | refine b_r ?_ | refine b_y rfl ?_ | refine b_z rfl ?_ | refine l_r ?_ | refine l_x ?_ | refine k_seq ?_ | refine k_blk ?_ | refine k_reg ?_ | refine k_ret ?_ | refine k_exit ?_ | refine k_skip ?_ | refine s_v (r_mv rfl) ?_ | refine s_v (r_as rfl) ?_ | refine s_v (r_add rfl rfl (by omega)) ?_ | refine s_v (r_sub rfl rfl (by omega)) ?_ | refine s_v (r_mul rfl rfl (by omega)) ?_ | refine s_v (r_bin rfl) ?_ | refine s_v (r_fa rfl rfl) ?_ | refine s_v (r_ld rfl rfl (by first | assumption | exact cell_of_blk (by assumption) (by rfl))) ?_ | refine s_v (r_nc rfl) ?_ | refine s_v (r_not rfl) ?_ | refine s_v (r_mf rfl rfl) ?_ | refine s_v (r_len rfl) ?_ | refine s_v (r_ex rfl) ?_ | refine s_v (r_fd rfl) ?_ | refine s_v (r_cvi rfl rfl rfl (wrap_in (by omega))) ?_ | refine s_v (r_cv rfl) ?_ | refine s_v (r_peq rfl rfl rfl) ?_ | refine s_v (r_pne rfl rfl rfl) ?_ | refine s_v (r_min rfl rfl) ?_ | refine s_v (r_max rfl rfl) ?_ | refine s_v (r_bd rfl) ?_ | refine s_v (r_pt rfl rfl) ?_ | refine s_v (r_pf rfl rfl) ?_ | refine s_gn rfl rfl ?_ | refine s_gv rfl (r_mv rfl) ?_ | refine s_gv rfl (r_bin rfl) ?_ | refine s_gv rfl (r_add rfl rfl (by omega)) ?_ | refine s_gv rfl (r_sub rfl rfl (by omega)) ?_ | refine s_gv rfl (r_not rfl) ?_ | refine s_gv rfl (r_len rfl) ?_ | refine s_gv rfl (r_pt rfl rfl) ?_ | refine s_gv rfl (r_pf rfl rfl) ?_ | refine s_gv rfl (r_nc rfl) ?_ | refine s_gv rfl (r_fa rfl rfl) ?_ | refine s_gv rfl (r_ld rfl rfl (by first | assumption | exact cell_of_blk (by assumption) (by rfl))) ?_ | refine s_gv rfl (r_cvi rfl rfl rfl (wrap_in (by omega))) ?_ | refine s_gv rfl (r_cv rfl) ?_ | refine s_gv rfl (r_peq rfl rfl rfl) ?_ | refine s_gv rfl (r_fd rfl) ?_ | refine s_gv rfl (r_ex rfl) ?_))
  refine c_dec rfl (fun hbig => ?_) (fun hsmall => ?_)
  · (repeat (first | refine k_nil ?_ | refine k_n ?_ | refine k_r ?_ | refine k_x ?_ | refine b_n ?_ | refine b_r ?_ | refine b_y rfl ?_ | refine b_z rfl ?_ | refine l_r ?_ | refine l_x ?_ | refine k_seq ?_ | refine k_blk ?_ | refine k_reg ?_ | refine k_ret ?_ | refine k_exit ?_ | refine k_skip ?_ | refine s_v (r_mv rfl) ?_ | refine s_v (r_as rfl) ?_ | refine s_v (r_add rfl rfl (by omega)) ?_ | refine s_v (r_sub rfl rfl (by omega)) ?_ | refine s_v (r_mul rfl rfl (by omega)) ?_ | refine s_v (r_bin rfl) ?_ | refine s_v (r_fa rfl rfl) ?_ | refine s_v (r_ld rfl rfl (by first | assumption | exact cell_of_blk (by assumption) (by rfl))) ?_ | refine s_v (r_nc rfl) ?_ | refine s_v (r_not rfl) ?_ | refine s_v (r_mf rfl rfl) ?_ | refine s_v (r_len rfl) ?_ | refine s_v (r_ex rfl) ?_ | refine s_v (r_fd rfl) ?_ | refine s_v (r_cvi rfl rfl rfl (wrap_in (by omega))) ?_ | refine s_v (r_cv rfl) ?_ | refine s_v (r_peq rfl rfl rfl) ?_ | refine s_v (r_pne rfl rfl rfl) ?_ | refine s_v (r_min rfl rfl) ?_ | refine s_v (r_max rfl rfl) ?_ | refine s_v (r_bd rfl) ?_ | refine s_v (r_pt rfl rfl) ?_ | refine s_v (r_pf rfl rfl) ?_))
    refine s_call (us := []) (zs := []) (by kernel_rfl) rfl rfl (awake w1) ?_
    rintro _ w2 ⟨rfl, k2⟩
    (repeat (first | refine k_nil ?_ | refine k_n ?_ | refine k_r ?_ | refine k_x ?_ | refine b_n ?_ | refine b_r ?_ | refine b_y rfl ?_ | refine b_z rfl ?_ | refine l_r ?_ | refine l_x ?_ | refine k_seq ?_ | refine k_blk ?_ | refine k_reg ?_ | refine k_ret ?_ | refine k_exit ?_ | refine k_skip ?_ | refine s_v (r_mv rfl) ?_ | refine s_v (r_as rfl) ?_ | refine s_v (r_add rfl rfl (by omega)) ?_ | refine s_v (r_sub rfl rfl (by omega)) ?_ | refine s_v (r_mul rfl rfl (by omega)) ?_ | refine s_v (r_bin rfl) ?_ | refine s_v (r_fa rfl rfl) ?_ | refine s_v (r_ld rfl rfl (by first | assumption | exact cell_of_blk (by assumption) (by rfl))) ?_ | refine s_v (r_nc rfl) ?_ | refine s_v (r_not rfl) ?_ | refine s_v (r_mf rfl rfl) ?_ | refine s_v (r_len rfl) ?_ | refine s_v (r_ex rfl) ?_ | refine s_v (r_fd rfl) ?_ | refine s_v (r_cvi rfl rfl rfl (wrap_in (by omega))) ?_ | refine s_v (r_cv rfl) ?_ | refine s_v (r_peq rfl rfl rfl) ?_ | refine s_v (r_pne rfl rfl rfl) ?_ | refine s_v (r_min rfl rfl) ?_ | refine s_v (r_max rfl rfl) ?_ | refine s_v (r_bd rfl) ?_ | refine s_v (r_pt rfl rfl) ?_ | refine s_v (r_pf rfl rfl) ?_))
    exact ret_1 rfl rfl ⟨rfl, k1.no k2⟩
  · (repeat (first | refine k_nil ?_ | refine k_n ?_ | refine k_r ?_ | refine k_x ?_ | refine b_n ?_ | refine b_r ?_ | refine b_y rfl ?_ | refine b_z rfl ?_ | refine l_r ?_ | refine l_x ?_ | refine k_seq ?_ | refine k_blk ?_ | refine k_reg ?_ | refine k_ret ?_ | refine k_exit ?_ | refine k_skip ?_ | refine s_v (r_mv rfl) ?_ | refine s_v (r_as rfl) ?_ | refine s_v (r_add rfl rfl (by omega)) ?_ | refine s_v (r_sub rfl rfl (by omega)) ?_ | refine s_v (r_mul rfl rfl (by omega)) ?_ | refine s_v (r_bin rfl) ?_ | refine s_v (r_fa rfl rfl) ?_ | refine s_v (r_ld rfl rfl (by first | assumption | exact cell_of_blk (by assumption) (by rfl))) ?_ | refine s_v (r_nc rfl) ?_ | refine s_v (r_not rfl) ?_ | refine s_v (r_mf rfl rfl) ?_ | refine s_v (r_len rfl) ?_ | refine s_v (r_ex rfl) ?_ | refine s_v (r_fd rfl) ?_ | refine s_v (r_cvi rfl rfl rfl (wrap_in (by omega))) ?_ | refine s_v (r_cv rfl) ?_ | refine s_v (r_peq rfl rfl rfl) ?_ | refine s_v (r_pne rfl rfl rfl) ?_ | refine s_v (r_min rfl rfl) ?_ | refine s_v (r_max rfl rfl) ?_ | refine s_v (r_bd rfl) ?_ | refine s_v (r_pt rfl rfl) ?_ | refine s_v (r_pf rfl rfl) ?_))
    refine s_call (us := []) (zs := []) (by kernel_rfl) rfl rfl (Room room w1 hroom) ?_
    rintro _ w2 ⟨pa, rfl, n2⟩
    (repeat (first | refine k_nil ?_ | refine k_n ?_ | refine k_r ?_ | refine k_x ?_ | refine b_n ?_ | refine b_r ?_ | refine b_y rfl ?_ | refine b_z rfl ?_ | refine l_r ?_ | refine l_x ?_ | refine k_seq ?_ | refine k_blk ?_ | refine k_reg ?_ | refine k_ret ?_ | refine k_exit ?_ | refine k_skip ?_ | refine s_v (r_mv rfl) ?_ | refine s_v (r_as rfl) ?_ | refine s_v (r_add rfl rfl (by omega)) ?_ | refine s_v (r_sub rfl rfl (by omega)) ?_ | refine s_v (r_mul rfl rfl (by omega)) ?_ | refine s_v (r_bin rfl) ?_ | refine s_v (r_fa rfl rfl) ?_ | refine s_v (r_ld rfl rfl (by first | assumption | exact cell_of_blk (by assumption) (by rfl))) ?_ | refine s_v (r_nc rfl) ?_ | refine s_v (r_not rfl) ?_ | refine s_v (r_mf rfl rfl) ?_ | refine s_v (r_len rfl) ?_ | refine s_v (r_ex rfl) ?_ | refine s_v (r_fd rfl) ?_ | refine s_v (r_cvi rfl rfl rfl (wrap_in (by omega))) ?_ | refine s_v (r_cv rfl) ?_ | refine s_v (r_peq rfl rfl rfl) ?_ | refine s_v (r_pne rfl rfl rfl) ?_ | refine s_v (r_min rfl rfl) ?_ | refine s_v (r_max rfl rfl) ?_ | refine s_v (r_bd rfl) ?_ | refine s_v (r_pt rfl rfl) ?_ | refine s_v (r_pf rfl rfl) ?_))
    refine s_call (us := []) (zs := []) (by kernel_rfl) rfl rfl (Room 1000 w2 (by omega)) ?_
    rintro _ w3 ⟨pb, rfl, n3⟩
    (repeat (first | refine k_nil ?_ | refine k_n ?_ | refine k_r ?_ | refine k_x ?_ | refine b_n ?_ | refine b_r ?_ | refine b_y rfl ?_ | refine b_z rfl ?_ | refine l_r ?_ | refine l_x ?_ | refine k_seq ?_ | refine k_blk ?_ | refine k_reg ?_ | refine k_ret ?_ | refine k_exit ?_ | refine k_skip ?_ | refine s_v (r_mv rfl) ?_ | refine s_v (r_as rfl) ?_ | refine s_v (r_add rfl rfl (by omega)) ?_ | refine s_v (r_sub rfl rfl (by omega)) ?_ | refine s_v (r_mul rfl rfl (by omega)) ?_ | refine s_v (r_bin rfl) ?_ | refine s_v (r_fa rfl rfl) ?_ | refine s_v (r_ld rfl rfl (by first | assumption | exact cell_of_blk (by assumption) (by rfl))) ?_ | refine s_v (r_nc rfl) ?_ | refine s_v (r_not rfl) ?_ | refine s_v (r_mf rfl rfl) ?_ | refine s_v (r_len rfl) ?_ | refine s_v (r_ex rfl) ?_ | refine s_v (r_fd rfl) ?_ | refine s_v (r_cvi rfl rfl rfl (wrap_in (by omega))) ?_ | refine s_v (r_cv rfl) ?_ | refine s_v (r_peq rfl rfl rfl) ?_ | refine s_v (r_pne rfl rfl rfl) ?_ | refine s_v (r_min rfl rfl) ?_ | refine s_v (r_max rfl rfl) ?_ | refine s_v (r_bd rfl) ?_ | refine s_v (r_pt rfl rfl) ?_ | refine s_v (r_pf rfl rfl) ?_ | refine s_gn rfl rfl ?_ | refine s_gv rfl (r_mv rfl) ?_ | refine s_gv rfl (r_bin rfl) ?_ | refine s_gv rfl (r_add rfl rfl (by omega)) ?_ | refine s_gv rfl (r_sub rfl rfl (by omega)) ?_ | refine s_gv rfl (r_not rfl) ?_ | refine s_gv rfl (r_len rfl) ?_ | refine s_gv rfl (r_pt rfl rfl) ?_ | refine s_gv rfl (r_pf rfl rfl) ?_ | refine s_gv rfl (r_nc rfl) ?_ | refine s_gv rfl (r_fa rfl rfl) ?_ | refine s_gv rfl (r_ld rfl rfl (by first | assumption | exact cell_of_blk (by assumption) (by rfl))) ?_ | refine s_gv rfl (r_cvi rfl rfl rfl (wrap_in (by omega))) ?_ | refine s_gv rfl (r_cv rfl) ?_ | refine s_gv rfl (r_peq rfl rfl rfl) ?_ | refine s_gv rfl (r_fd rfl) ?_ | refine s_gv rfl (r_ex rfl) ?_))
    refine c_f rfl ?_
    (repeat (first | refine k_nil ?_ | refine k_n ?_ | refine k_r ?_ | refine k_x ?_ | refine b_n ?_ | refine b_r ?_ | refine b_y rfl ?_ | refine b_z rfl ?_ | refine l_r ?_ | refine l_x ?_ | refine k_seq ?_ | refine k_blk ?_ | refine k_reg ?_ | refine k_ret ?_ | refine k_exit ?_ | refine k_skip ?_ | refine s_v (r_mv rfl) ?_ | refine s_v (r_as rfl) ?_ | refine s_v (r_add rfl rfl (by omega)) ?_ | refine s_v (r_sub rfl rfl (by omega)) ?_ | refine s_v (r_mul rfl rfl (by omega)) ?_ | refine s_v (r_bin rfl) ?_ | refine s_v (r_fa rfl rfl) ?_ | refine s_v (r_ld rfl rfl (by first | assumption | exact cell_of_blk (by assumption) (by rfl))) ?_ | refine s_v (r_nc rfl) ?_ | refine s_v (r_not rfl) ?_ | refine s_v (r_mf rfl rfl) ?_ | refine s_v (r_len rfl) ?_ | refine s_v (r_ex rfl) ?_ | refine s_v (r_fd rfl) ?_ | refine s_v (r_cvi rfl rfl rfl (wrap_in (by omega))) ?_ | refine s_v (r_cv rfl) ?_ | refine s_v (r_peq rfl rfl rfl) ?_ | refine s_v (r_pne rfl rfl rfl) ?_ | refine s_v (r_min rfl rfl) ?_ | refine s_v (r_max rfl rfl) ?_ | refine s_v (r_bd rfl) ?_ | refine s_v (r_pt rfl rfl) ?_ | refine s_v (r_pf rfl rfl) ?_))
    refine s_al rfl (fun bs w4 n4 => ?_)
    refine s_st rfl rfl rfl rfl rfl n4.blk (Nat.le_of_ble_eq_true rfl) (fun w5 s5 => ?_)
    obtain ⟨n, hn⟩ : ∃ n : Nat, (min (max room 1) 1000) = n := ⟨(min (max room 1) 1000).toNat, by omega⟩
    have hn1 : 1 ≤ n := by omega
    have hn2 : n ≤ 1000 := by omega
    have z1 := k1.size
    have z2 := n2.kp.size
    have z3 := n3.kp.size
    have z4 := n4.kp.size
    have y2 := n2.ge
    have x2 := n2.lt
    have y3 := n3.ge
    have x3 := n3.lt
    have y4 := n4.ge
    have x4 := n4.lt
    have z5 := s5.sz
    have h5 : w5.heap[bs]? = some (.cells (seenL []).toArray 26 (0, 0)) := s5.blk.trans (congrArg (fun l => some (Obj.cells (List.toArray l) 26 (0, 0))) (by kernel_rfl))
    have hp5 := s5.kp.get (n4.kp.get0 (n3.kp.get0 n2.blk)) (by show ¬ pa = bs; omega)
    have hq5 := s5.kp.get (n4.kp.get0 n3.blk) (by show ¬ pb = bs; omega)
    have k5 : Kp No w w5 := (((k1.no n2.kp).no n3.kp).no n4.kp).trans s5.kp (fun i hi e => by omega)
    clear s5 n4
    (repeat (first | refine k_nil ?_ | refine k_n ?_ | refine k_r ?_ | refine k_x ?_ | refine b_n ?_ | refine b_r ?_ | refine b_y rfl ?_ | refine b_z rfl ?_ | refine l_r ?_ | refine l_x ?_ | refine k_seq ?_ | refine k_blk ?_ | refine k_reg ?_ | refine k_ret ?_ | refine k_exit ?_ | refine k_skip ?_ | refine s_v (r_mv rfl) ?_ | refine s_v (r_as rfl) ?_ | refine s_v (r_add rfl rfl (by omega)) ?_ | refine s_v (r_sub rfl rfl (by omega)) ?_ | refine s_v (r_mul rfl rfl (by omega)) ?_ | refine s_v (r_bin rfl) ?_ | refine s_v (r_fa rfl rfl) ?_ | refine s_v (r_ld rfl rfl (by first | assumption | exact cell_of_blk (by assumption) (by rfl))) ?_ | refine s_v (r_nc rfl) ?_ | refine s_v (r_not rfl) ?_ | refine s_v (r_mf rfl rfl) ?_ | refine s_v (r_len rfl) ?_ | refine s_v (r_ex rfl) ?_ | refine s_v (r_fd rfl) ?_ | refine s_v (r_cvi rfl rfl rfl (wrap_in (by omega))) ?_ | refine s_v (r_cv rfl) ?_ | refine s_v (r_peq rfl rfl rfl) ?_ | refine s_v (r_pne rfl rfl rfl) ?_ | refine s_v (r_min rfl rfl) ?_ | refine s_v (r_max rfl rfl) ?_ | refine s_v (r_bd rfl) ?_ | refine s_v (r_pt rfl rfl) ?_ | refine s_v (r_pf rfl rfl) ?_))
    refine k_loop (σ := Nat × (Value × List (Int × Int) × Int) × (Value × List (Int × Int) × Int) × Int) (fun t => [(5, .pointer (some ⟨pa, 0, none⟩)), (6, .pointer (some ⟨pb, 0, none⟩)), (7, .int .i64 t.2.2.2), (8, .pointer (some ⟨bs, 0, none⟩)), (30, .slice a len cap), (31, .int .i64 len), (32, .int .i64 t.1)])
      (fun t w' => t.1 ≤ len ∧ Inv n (ls.take t.1) t.2.1.2.1 t.2.2.1.2.1 t.2.1.2.2 t.2.2.1.2.2 t.2.2.2 ∧ Shf w' pa t.2.1.1 t.2.1.2.1 n t.2.1.2.2 ∧ Shf w' pb t.2.2.1.1 t.2.2.1.2.1 1000 t.2.2.1.2.2 ∧
        w'.heap[bs]? = some (.cells (seenL (ls.take t.1)).toArray 26 (0, 0)) ∧ Kp No w w' ∧ w5.heap.size ≤ w'.heap.size ∧
        (∀ g, t.2.1.1.ownBlock = some g → w5.heap.size ≤ g ∧ some g ≠ t.2.2.1.1.ownBlock) ∧ (∀ g, t.2.2.1.1.ownBlock = some g → w5.heap.size ≤ g))
      (fun t => len - t.1) (0, (.slice none 0 0, [], 0), (.slice none 0 0, [], 0), 0) ⟨rfl, rfl, rfl, rfl, rfl, rfl, rfl, trivial⟩ ?_ ?_
    · refine ⟨Nat.zero_le _, Inv.start n, ⟨?_, by simp [kc], .inl ⟨rfl, rfl⟩⟩, ⟨?_, by simp [kc], .inl ⟨rfl, rfl⟩⟩, ?_, ?_, Nat.le_refl _, ?_, ?_⟩
      · rw [hn] at hp5; exact hp5
      · exact hq5
      · exact h5
      · exact k5
      · intro g e; cases e
      · intro g e; cases e
    rintro ⟨i, ⟨sa, xa, fa⟩, ⟨sb, xb, fb⟩, kinds⟩ l w6 ⟨hi, hinv, ha, hb, hsn, k6, z6, oa, ob⟩
    simp only at hi hinv ha hb hsn k6 oa ob
    dsimp only
    (repeat (first | refine k_nil ?_ | refine k_n ?_ | refine k_r ?_ | refine k_x ?_ | refine b_n ?_ | refine b_r ?_ | refine b_y rfl ?_ | refine b_z rfl ?_ | refine l_r ?_ | refine l_x ?_ | refine k_seq ?_ | refine k_blk ?_ | refine k_reg ?_ | refine k_ret ?_ | refine k_exit ?_ | refine k_skip ?_ | refine s_v (r_mv rfl) ?_ | refine s_v (r_as rfl) ?_ | refine s_v (r_add rfl rfl (by omega)) ?_ | refine s_v (r_sub rfl rfl (by omega)) ?_ | refine s_v (r_mul rfl rfl (by omega)) ?_ | refine s_v (r_bin rfl) ?_ | refine s_v (r_fa rfl rfl) ?_ | refine s_v (r_ld rfl rfl (by first | assumption | exact cell_of_blk (by assumption) (by rfl))) ?_ | refine s_v (r_nc rfl) ?_ | refine s_v (r_not rfl) ?_ | refine s_v (r_mf rfl rfl) ?_ | refine s_v (r_len rfl) ?_ | refine s_v (r_ex rfl) ?_ | refine s_v (r_fd rfl) ?_ | refine s_v (r_cvi rfl rfl rfl (wrap_in (by omega))) ?_ | refine s_v (r_cv rfl) ?_ | refine s_v (r_peq rfl rfl rfl) ?_ | refine s_v (r_pne rfl rfl rfl) ?_ | refine s_v (r_min rfl rfl) ?_ | refine s_v (r_max rfl rfl) ?_ | refine s_v (r_bd rfl) ?_ | refine s_v (r_pt rfl rfl) ?_ | refine s_v (r_pf rfl rfl) ?_))
    refine c_dec rfl (fun hlt => ?_) (fun hge => ?_)
    · have hlt' : i < ls.length := by omega
      obtain ⟨k, hk⟩ : ∃ k, ls[i]? = some k := ⟨_, List.getElem?_eq_getElem hlt'⟩
      have hkr := hrange k (List.mem_of_getElem? hk)
      obtain ⟨b, o, rfl, hcells⟩ := hc (by omega)
      have hck : w6.cell? ⟨b, o + (i : Int).toNat * 1, none⟩ = some (.int .u8 k) := by
        have := k6.cell0 (hcells i k hk)
        simpa using this
      obtain ⟨j, rfl⟩ : ∃ j : Nat, k = j := ⟨k.toNat, by omega⟩
      have htake : ls.take (i + 1) = ls.take i ++ [(j : Int)] := by
        rw [List.take_add_one, hk]; rfl
      (repeat (first | refine k_nil ?_ | refine k_n ?_ | refine k_r ?_ | refine k_x ?_ | refine b_n ?_ | refine b_r ?_ | refine b_y rfl ?_ | refine b_z rfl ?_ | refine l_r ?_ | refine l_x ?_ | refine k_seq ?_ | refine k_blk ?_ | refine k_reg ?_ | refine k_ret ?_ | refine k_exit ?_ | refine k_skip ?_ | refine s_v (r_mv rfl) ?_ | refine s_v (r_as rfl) ?_ | refine s_v (r_add rfl rfl (by omega)) ?_ | refine s_v (r_sub rfl rfl (by omega)) ?_ | refine s_v (r_mul rfl rfl (by omega)) ?_ | refine s_v (r_bin rfl) ?_ | refine s_v (r_fa rfl rfl) ?_ | refine s_v (r_ld rfl rfl (by first | assumption | exact cell_of_blk (by assumption) (by rfl))) ?_ | refine s_v (r_nc rfl) ?_ | refine s_v (r_not rfl) ?_ | refine s_v (r_mf rfl rfl) ?_ | refine s_v (r_len rfl) ?_ | refine s_v (r_ex rfl) ?_ | refine s_v (r_fd rfl) ?_ | refine s_v (r_cvi rfl rfl rfl (wrap_in (by omega))) ?_ | refine s_v (r_cv rfl) ?_ | refine s_v (r_peq rfl rfl rfl) ?_ | refine s_v (r_pne rfl rfl rfl) ?_ | refine s_v (r_min rfl rfl) ?_ | refine s_v (r_max rfl rfl) ?_ | refine s_v (r_bd rfl) ?_ | refine s_v (r_pt rfl rfl) ?_ | refine s_v (r_pf rfl rfl) ?_))
      refine s_v (r_ia rfl rfl rfl rfl (by omega) (by omega)) ?_
      (repeat (first | refine k_nil ?_ | refine k_n ?_ | refine k_r ?_ | refine k_x ?_ | refine b_n ?_ | refine b_r ?_ | refine b_y rfl ?_ | refine b_z rfl ?_ | refine l_r ?_ | refine l_x ?_ | refine k_seq ?_ | refine k_blk ?_ | refine k_reg ?_ | refine k_ret ?_ | refine k_exit ?_ | refine k_skip ?_ | refine s_v (r_mv rfl) ?_ | refine s_v (r_as rfl) ?_ | refine s_v (r_add rfl rfl (by omega)) ?_ | refine s_v (r_sub rfl rfl (by omega)) ?_ | refine s_v (r_mul rfl rfl (by omega)) ?_ | refine s_v (r_bin rfl) ?_ | refine s_v (r_fa rfl rfl) ?_ | refine s_v (r_ld rfl rfl (by first | assumption | exact cell_of_blk (by assumption) (by rfl))) ?_ | refine s_v (r_nc rfl) ?_ | refine s_v (r_not rfl) ?_ | refine s_v (r_mf rfl rfl) ?_ | refine s_v (r_len rfl) ?_ | refine s_v (r_ex rfl) ?_ | refine s_v (r_fd rfl) ?_ | refine s_v (r_cvi rfl rfl rfl (wrap_in (by omega))) ?_ | refine s_v (r_cv rfl) ?_ | refine s_v (r_peq rfl rfl rfl) ?_ | refine s_v (r_pne rfl rfl rfl) ?_ | refine s_v (r_min rfl rfl) ?_ | refine s_v (r_max rfl rfl) ?_ | refine s_v (r_bd rfl) ?_ | refine s_v (r_pt rfl rfl) ?_ | refine s_v (r_pf rfl rfl) ?_))
      refine s_v (r_iaa rfl rfl rfl rfl (by omega) (by omega)) ?_
      refine s_v (r_ld rfl rfl (cell_of_blk hsn (v := .bool ((ls.take i).contains (j : Int))) ?_)) ?_
      · have := seenL_get (ls.take i) j (by omega)
        simpa using this
      (repeat (first | refine k_nil ?_ | refine k_n ?_ | refine k_r ?_ | refine k_x ?_ | refine b_n ?_ | refine b_r ?_ | refine b_y rfl ?_ | refine b_z rfl ?_ | refine l_r ?_ | refine l_x ?_ | refine k_seq ?_ | refine k_blk ?_ | refine k_reg ?_ | refine k_ret ?_ | refine k_exit ?_ | refine k_skip ?_ | refine s_v (r_mv rfl) ?_ | refine s_v (r_as rfl) ?_ | refine s_v (r_add rfl rfl (by omega)) ?_ | refine s_v (r_sub rfl rfl (by omega)) ?_ | refine s_v (r_mul rfl rfl (by omega)) ?_ | refine s_v (r_bin rfl) ?_ | refine s_v (r_fa rfl rfl) ?_ | refine s_v (r_ld rfl rfl (by first | assumption | exact cell_of_blk (by assumption) (by rfl))) ?_ | refine s_v (r_nc rfl) ?_ | refine s_v (r_not rfl) ?_ | refine s_v (r_mf rfl rfl) ?_ | refine s_v (r_len rfl) ?_ | refine s_v (r_ex rfl) ?_ | refine s_v (r_fd rfl) ?_ | refine s_v (r_cvi rfl rfl rfl (wrap_in (by omega))) ?_ | refine s_v (r_cv rfl) ?_ | refine s_v (r_peq rfl rfl rfl) ?_ | refine s_v (r_pne rfl rfl rfl) ?_ | refine s_v (r_min rfl rfl) ?_ | refine s_v (r_max rfl rfl) ?_ | refine s_v (r_bd rfl) ?_ | refine s_v (r_pt rfl rfl) ?_ | refine s_v (r_pf rfl rfl) ?_))
      refine k_cutc (σ := Unit) (fun _ => [(5, .pointer (some ⟨pa, 0, none⟩)), (6, .pointer (some ⟨pb, 0, none⟩)), (7, .int .i64 (if (ls.take i).contains (j : Int) then kinds else kinds + 1)), (8, .pointer (some ⟨bs, 0, none⟩)), (10, .int .u8 j), (30, .slice (some ⟨b, o, none⟩) len cap), (31, .int .i64 len), (32, .int .i64 i)]) (fun _ w' => w' = w6) ?_ ?_
      · have hk0 := hinv.ek
        have hk1 := hinv.lb
        have hk2 : (ls.take i).length ≤ 1000 := by rw [List.length_take]; omega
        refine c_b rfl (fun hnew => ?_) (fun hold => ?_)
        · have hnew' : (ls.take i).contains (j : Int) = false := by simpa using hnew
          (repeat (first | refine k_nil ?_ | refine k_n ?_ | refine k_r ?_ | refine k_x ?_ | refine b_n ?_ | refine b_r ?_ | refine b_y rfl ?_ | refine b_z rfl ?_ | refine l_r ?_ | refine l_x ?_ | refine k_seq ?_ | refine k_blk ?_ | refine k_reg ?_ | refine k_ret ?_ | refine k_exit ?_ | refine k_skip ?_ | refine s_v (r_mv rfl) ?_ | refine s_v (r_as rfl) ?_ | refine s_v (r_add rfl rfl (by omega)) ?_ | refine s_v (r_sub rfl rfl (by omega)) ?_ | refine s_v (r_mul rfl rfl (by omega)) ?_ | refine s_v (r_bin rfl) ?_ | refine s_v (r_fa rfl rfl) ?_ | refine s_v (r_ld rfl rfl (by first | assumption | exact cell_of_blk (by assumption) (by rfl))) ?_ | refine s_v (r_nc rfl) ?_ | refine s_v (r_not rfl) ?_ | refine s_v (r_mf rfl rfl) ?_ | refine s_v (r_len rfl) ?_ | refine s_v (r_ex rfl) ?_ | refine s_v (r_fd rfl) ?_ | refine s_v (r_cvi rfl rfl rfl (wrap_in (by omega))) ?_ | refine s_v (r_cv rfl) ?_ | refine s_v (r_peq rfl rfl rfl) ?_ | refine s_v (r_pne rfl rfl rfl) ?_ | refine s_v (r_min rfl rfl) ?_ | refine s_v (r_max rfl rfl) ?_ | refine s_v (r_bd rfl) ?_ | refine s_v (r_pt rfl rfl) ?_ | refine s_v (r_pf rfl rfl) ?_))
          refine l_cut () ⟨rfl, rfl, ?_, rfl, rfl, rfl, rfl, rfl, trivial⟩ rfl
          rw [hnew']; rfl
        · have hold' : (ls.take i).contains (j : Int) = true := by simpa using hold
          (repeat (first | refine k_nil ?_ | refine k_n ?_ | refine k_r ?_ | refine k_x ?_ | refine b_n ?_ | refine b_r ?_ | refine b_y rfl ?_ | refine b_z rfl ?_ | refine l_r ?_ | refine l_x ?_ | refine k_seq ?_ | refine k_blk ?_ | refine k_reg ?_ | refine k_ret ?_ | refine k_exit ?_ | refine k_skip ?_ | refine s_v (r_mv rfl) ?_ | refine s_v (r_as rfl) ?_ | refine s_v (r_add rfl rfl (by omega)) ?_ | refine s_v (r_sub rfl rfl (by omega)) ?_ | refine s_v (r_mul rfl rfl (by omega)) ?_ | refine s_v (r_bin rfl) ?_ | refine s_v (r_fa rfl rfl) ?_ | refine s_v (r_ld rfl rfl (by first | assumption | exact cell_of_blk (by assumption) (by rfl))) ?_ | refine s_v (r_nc rfl) ?_ | refine s_v (r_not rfl) ?_ | refine s_v (r_mf rfl rfl) ?_ | refine s_v (r_len rfl) ?_ | refine s_v (r_ex rfl) ?_ | refine s_v (r_fd rfl) ?_ | refine s_v (r_cvi rfl rfl rfl (wrap_in (by omega))) ?_ | refine s_v (r_cv rfl) ?_ | refine s_v (r_peq rfl rfl rfl) ?_ | refine s_v (r_pne rfl rfl rfl) ?_ | refine s_v (r_min rfl rfl) ?_ | refine s_v (r_max rfl rfl) ?_ | refine s_v (r_bd rfl) ?_ | refine s_v (r_pt rfl rfl) ?_ | refine s_v (r_pf rfl rfl) ?_))
          refine l_cut () ⟨rfl, rfl, ?_, rfl, rfl, rfl, rfl, rfl, trivial⟩ rfl
          rw [hold']; rfl
      rintro _ l _ rfl
      (repeat (first | refine k_nil ?_ | refine k_n ?_ | refine k_r ?_ | refine k_x ?_ | refine b_n ?_ | refine b_r ?_ | refine b_y rfl ?_ | refine b_z rfl ?_ | refine l_r ?_ | refine l_x ?_ | refine k_seq ?_ | refine k_blk ?_ | refine k_reg ?_ | refine k_ret ?_ | refine k_exit ?_ | refine k_skip ?_ | refine s_v (r_mv rfl) ?_ | refine s_v (r_as rfl) ?_ | refine s_v (r_add rfl rfl (by omega)) ?_ | refine s_v (r_sub rfl rfl (by omega)) ?_ | refine s_v (r_mul rfl rfl (by omega)) ?_ | refine s_v (r_bin rfl) ?_ | refine s_v (r_fa rfl rfl) ?_ | refine s_v (r_ld rfl rfl (by first | assumption | exact cell_of_blk (by assumption) (by rfl))) ?_ | refine s_v (r_nc rfl) ?_ | refine s_v (r_not rfl) ?_ | refine s_v (r_mf rfl rfl) ?_ | refine s_v (r_len rfl) ?_ | refine s_v (r_ex rfl) ?_ | refine s_v (r_fd rfl) ?_ | refine s_v (r_cvi rfl rfl rfl (wrap_in (by omega))) ?_ | refine s_v (r_cv rfl) ?_ | refine s_v (r_peq rfl rfl rfl) ?_ | refine s_v (r_pne rfl rfl rfl) ?_ | refine s_v (r_min rfl rfl) ?_ | refine s_v (r_max rfl rfl) ?_ | refine s_v (r_bd rfl) ?_ | refine s_v (r_pt rfl rfl) ?_ | refine s_v (r_pf rfl rfl) ?_))
      refine s_v (r_iaa rfl rfl rfl rfl (by omega) (by omega)) ?_
      refine s_st rfl rfl rfl rfl rfl hsn (by simp [seenL, cellsL]; omega) (fun w7 s7 => ?_)
      have hpb := lt_of_get hb.blk
      have hpa := lt_of_get ha.blk
      have hgs := lt_of_get hsn
      have ha7 := ha.kp s7.kp (by show ¬ pa = bs; omega) (fun g e => by have := oa g e; show ¬ g = bs; omega)
      have hb7 := hb.kp s7.kp (by show ¬ pb = bs; omega) (fun g e => by have := ob g e; show ¬ g = bs; omega)
      have z7 := s7.sz
      have hla := hinv.la
      have hlb : xb.length ≤ 100 := by have := hinv.lb; rw [List.length_take] at this; omega
      have hga := hinv.ga
      have hga' := hinv.ga'
      have heb := hinv.eb
      have hlt1 : (ls.take i).length ≤ 100 := by rw [List.length_take]; omega
      have hxa : 0 ≤ idx xa j → xa[(idx xa j).toNat]? = some ((j : Int), (j : Int) * j - 3) := fun h => by
        obtain ⟨x, hx⟩ := idx_hit xa j h
        rw [hx]
        have := hinv.va _ (List.mem_of_getElem? hx)
        simp only at this
        rw [this]
      have hxb : 0 ≤ idx xb j → xb[(idx xb j).toNat]? = some ((j : Int), (j : Int) * j - 3) := fun h => by
        obtain ⟨x, hx⟩ := idx_hit xb j h
        rw [hx]
        have := hinv.vb _ (List.mem_of_getElem? hx)
        simp only at this
        rw [this]
      (repeat (first | refine k_nil ?_ | refine k_n ?_ | refine k_r ?_ | refine k_x ?_ | refine b_n ?_ | refine b_r ?_ | refine b_y rfl ?_ | refine b_z rfl ?_ | refine l_r ?_ | refine l_x ?_ | refine k_seq ?_ | refine k_blk ?_ | refine k_reg ?_ | refine k_ret ?_ | refine k_exit ?_ | refine k_skip ?_ | refine s_v (r_mv rfl) ?_ | refine s_v (r_as rfl) ?_ | refine s_v (r_add rfl rfl (by omega)) ?_ | refine s_v (r_sub rfl rfl (by omega)) ?_ | refine s_v (r_mul rfl rfl (by omega)) ?_ | refine s_v (r_bin rfl) ?_ | refine s_v (r_fa rfl rfl) ?_ | refine s_v (r_ld rfl rfl (by first | assumption | exact cell_of_blk (by assumption) (by rfl))) ?_ | refine s_v (r_nc rfl) ?_ | refine s_v (r_not rfl) ?_ | refine s_v (r_mf rfl rfl) ?_ | refine s_v (r_len rfl) ?_ | refine s_v (r_ex rfl) ?_ | refine s_v (r_fd rfl) ?_ | refine s_v (r_cvi rfl rfl rfl (wrap_in (by omega))) ?_ | refine s_v (r_cv rfl) ?_ | refine s_v (r_peq rfl rfl rfl) ?_ | refine s_v (r_pne rfl rfl rfl) ?_ | refine s_v (r_min rfl rfl) ?_ | refine s_v (r_max rfl rfl) ?_ | refine s_v (r_bd rfl) ?_ | refine s_v (r_pt rfl rfl) ?_ | refine s_v (r_pf rfl rfl) ?_))
      refine s_call (us := []) (zs := []) (by kernel_rfl) rfl rfl (AskQ pa sa xa n fa j (j * j - 3) w7 ha7 (by omega) (by omega) (by omega) (by omega) (by omega) 8 (by kernel_rfl) hxa (fun w' => square j w' (by omega) (by omega))) ?_
      rintro _ w8 ⟨rfl, sa', ha8, k8, oa'⟩
      have z8 := k8.size
      have hb8 := hb7.kp k8 (by
        rintro (h | h)
        · omega
        · have := oa pb h.symm; omega) (fun g e => by
        rintro (h | h)
        · have := ob g e; omega
        · exact (oa g h.symm).2 e.symm)
      (repeat (first | refine k_nil ?_ | refine k_n ?_ | refine k_r ?_ | refine k_x ?_ | refine b_n ?_ | refine b_r ?_ | refine b_y rfl ?_ | refine b_z rfl ?_ | refine l_r ?_ | refine l_x ?_ | refine k_seq ?_ | refine k_blk ?_ | refine k_reg ?_ | refine k_ret ?_ | refine k_exit ?_ | refine k_skip ?_ | refine s_v (r_mv rfl) ?_ | refine s_v (r_as rfl) ?_ | refine s_v (r_add rfl rfl (by omega)) ?_ | refine s_v (r_sub rfl rfl (by omega)) ?_ | refine s_v (r_mul rfl rfl (by omega)) ?_ | refine s_v (r_bin rfl) ?_ | refine s_v (r_fa rfl rfl) ?_ | refine s_v (r_ld rfl rfl (by first | assumption | exact cell_of_blk (by assumption) (by rfl))) ?_ | refine s_v (r_nc rfl) ?_ | refine s_v (r_not rfl) ?_ | refine s_v (r_mf rfl rfl) ?_ | refine s_v (r_len rfl) ?_ | refine s_v (r_ex rfl) ?_ | refine s_v (r_fd rfl) ?_ | refine s_v (r_cvi rfl rfl rfl (wrap_in (by omega))) ?_ | refine s_v (r_cv rfl) ?_ | refine s_v (r_peq rfl rfl rfl) ?_ | refine s_v (r_pne rfl rfl rfl) ?_ | refine s_v (r_min rfl rfl) ?_ | refine s_v (r_max rfl rfl) ?_ | refine s_v (r_bd rfl) ?_ | refine s_v (r_pt rfl rfl) ?_ | refine s_v (r_pf rfl rfl) ?_))
      refine s_call (us := []) (zs := []) (by kernel_rfl) rfl rfl (AskQ pb sb xb 1000 fb j (j * j - 3) w8 hb8 (by omega) (by omega) (by omega) (by omega) (by omega) 8 (by kernel_rfl) hxb (fun w' => square j w' (by omega) (by omega))) ?_
      rintro _ w9 ⟨rfl, sb', hb9, k9, ob'⟩
      have z9 := k9.size
      have hsa' : ∀ g, sa'.ownBlock = some g → w5.heap.size ≤ g ∧ g < w8.heap.size ∧ some g ≠ sb.ownBlock := fun g e => by
        have h1 := (own_lt ha8.own e).2
        rcases oa' g e with h | h
        · exact ⟨(oa g h).1, h1, (oa g h).2⟩
        · exact ⟨by omega, h1, fun hh => by have := (own_lt hb7.own hh.symm).2; omega⟩
      have ha9 := ha8.kp k9 (by
        rintro (h | h)
        · omega
        · have := ob pa h.symm; omega) (fun g e => by
        rintro (h | h)
        · have := hsa' g e; omega
        · exact (hsa' g e).2.2 h)
      (repeat (first | refine k_nil ?_ | refine k_n ?_ | refine k_r ?_ | refine k_x ?_ | refine b_n ?_ | refine b_r ?_ | refine b_y rfl ?_ | refine b_z rfl ?_ | refine l_r ?_ | refine l_x ?_ | refine k_seq ?_ | refine k_blk ?_ | refine k_reg ?_ | refine k_ret ?_ | refine k_exit ?_ | refine k_skip ?_ | refine s_v (r_mv rfl) ?_ | refine s_v (r_as rfl) ?_ | refine s_v (r_add rfl rfl (by omega)) ?_ | refine s_v (r_sub rfl rfl (by omega)) ?_ | refine s_v (r_mul rfl rfl (by omega)) ?_ | refine s_v (r_bin rfl) ?_ | refine s_v (r_fa rfl rfl) ?_ | refine s_v (r_ld rfl rfl (by first | assumption | exact cell_of_blk (by assumption) (by rfl))) ?_ | refine s_v (r_nc rfl) ?_ | refine s_v (r_not rfl) ?_ | refine s_v (r_mf rfl rfl) ?_ | refine s_v (r_len rfl) ?_ | refine s_v (r_ex rfl) ?_ | refine s_v (r_fd rfl) ?_ | refine s_v (r_cvi rfl rfl rfl (wrap_in (by omega))) ?_ | refine s_v (r_cv rfl) ?_ | refine s_v (r_peq rfl rfl rfl) ?_ | refine s_v (r_pne rfl rfl rfl) ?_ | refine s_v (r_min rfl rfl) ?_ | refine s_v (r_max rfl rfl) ?_ | refine s_v (r_bd rfl) ?_ | refine s_v (r_pt rfl rfl) ?_ | refine s_v (r_pf rfl rfl) ?_))
      refine s_set 55 false rfl (by simp) ?_
      (repeat (first | refine k_nil ?_ | refine k_n ?_ | refine k_r ?_ | refine k_x ?_ | refine b_n ?_ | refine b_r ?_ | refine b_y rfl ?_ | refine b_z rfl ?_ | refine l_r ?_ | refine l_x ?_ | refine k_seq ?_ | refine k_blk ?_ | refine k_reg ?_ | refine k_ret ?_ | refine k_exit ?_ | refine k_skip ?_ | refine s_v (r_mv rfl) ?_ | refine s_v (r_as rfl) ?_ | refine s_v (r_add rfl rfl (by omega)) ?_ | refine s_v (r_sub rfl rfl (by omega)) ?_ | refine s_v (r_mul rfl rfl (by omega)) ?_ | refine s_v (r_bin rfl) ?_ | refine s_v (r_fa rfl rfl) ?_ | refine s_v (r_ld rfl rfl (by first | assumption | exact cell_of_blk (by assumption) (by rfl))) ?_ | refine s_v (r_nc rfl) ?_ | refine s_v (r_not rfl) ?_ | refine s_v (r_mf rfl rfl) ?_ | refine s_v (r_len rfl) ?_ | refine s_v (r_ex rfl) ?_ | refine s_v (r_fd rfl) ?_ | refine s_v (r_cvi rfl rfl rfl (wrap_in (by omega))) ?_ | refine s_v (r_cv rfl) ?_ | refine s_v (r_peq rfl rfl rfl) ?_ | refine s_v (r_pne rfl rfl rfl) ?_ | refine s_v (r_min rfl rfl) ?_ | refine s_v (r_max rfl rfl) ?_ | refine s_v (r_bd rfl) ?_ | refine s_v (r_pt rfl rfl) ?_ | refine s_v (r_pf rfl rfl) ?_ | refine s_gn rfl rfl ?_ | refine s_gv rfl (r_mv rfl) ?_ | refine s_gv rfl (r_bin rfl) ?_ | refine s_gv rfl (r_add rfl rfl (by omega)) ?_ | refine s_gv rfl (r_sub rfl rfl (by omega)) ?_ | refine s_gv rfl (r_not rfl) ?_ | refine s_gv rfl (r_len rfl) ?_ | refine s_gv rfl (r_pt rfl rfl) ?_ | refine s_gv rfl (r_pf rfl rfl) ?_ | refine s_gv rfl (r_nc rfl) ?_ | refine s_gv rfl (r_fa rfl rfl) ?_ | refine s_gv rfl (r_ld rfl rfl (by first | assumption | exact cell_of_blk (by assumption) (by rfl))) ?_ | refine s_gv rfl (r_cvi rfl rfl rfl (wrap_in (by omega))) ?_ | refine s_gv rfl (r_cv rfl) ?_ | refine s_gv rfl (r_peq rfl rfl rfl) ?_ | refine s_gv rfl (r_fd rfl) ?_ | refine s_gv rfl (r_ex rfl) ?_))
      have hput : (put xa n j (j * j - 3)).length ≤ 1000 := by
        rw [← List.length_map (f := fun e : Int × Int => e.1), put_keys xa n j _ hinv.na hinv.la hn1]
        have := lru_len n (xa.map (·.1)) j; omega
      have hmem : decide (0 ≤ idx (put xa n j (j * j - 3)) j) = true := by
        refine decide_eq_true ((idx_mem _ _).2 ?_)
        rw [put_keys xa n j _ hinv.na hinv.la hn1]
        exact lru_last _ _ hn1
      refine s_gcall (us := []) (zs := []) rfl (by kernel_rfl) rfl rfl (Has pa sa' _ n _ j w9 ha9 hput) ?_
      rintro _ w10 ⟨rfl, k10⟩
      rw [hmem]
      have z10 := k10.size
      (repeat (first | refine k_nil ?_ | refine k_n ?_ | refine k_r ?_ | refine k_x ?_ | refine b_n ?_ | refine b_r ?_ | refine b_y rfl ?_ | refine b_z rfl ?_ | refine l_r ?_ | refine l_x ?_ | refine k_seq ?_ | refine k_blk ?_ | refine k_reg ?_ | refine k_ret ?_ | refine k_exit ?_ | refine k_skip ?_ | refine s_v (r_mv rfl) ?_ | refine s_v (r_as rfl) ?_ | refine s_v (r_add rfl rfl (by omega)) ?_ | refine s_v (r_sub rfl rfl (by omega)) ?_ | refine s_v (r_mul rfl rfl (by omega)) ?_ | refine s_v (r_bin rfl) ?_ | refine s_v (r_fa rfl rfl) ?_ | refine s_v (r_ld rfl rfl (by first | assumption | exact cell_of_blk (by assumption) (by rfl))) ?_ | refine s_v (r_nc rfl) ?_ | refine s_v (r_not rfl) ?_ | refine s_v (r_mf rfl rfl) ?_ | refine s_v (r_len rfl) ?_ | refine s_v (r_ex rfl) ?_ | refine s_v (r_fd rfl) ?_ | refine s_v (r_cvi rfl rfl rfl (wrap_in (by omega))) ?_ | refine s_v (r_cv rfl) ?_ | refine s_v (r_peq rfl rfl rfl) ?_ | refine s_v (r_pne rfl rfl rfl) ?_ | refine s_v (r_min rfl rfl) ?_ | refine s_v (r_max rfl rfl) ?_ | refine s_v (r_bd rfl) ?_ | refine s_v (r_pt rfl rfl) ?_ | refine s_v (r_pf rfl rfl) ?_ | refine s_gn rfl rfl ?_ | refine s_gv rfl (r_mv rfl) ?_ | refine s_gv rfl (r_bin rfl) ?_ | refine s_gv rfl (r_add rfl rfl (by omega)) ?_ | refine s_gv rfl (r_sub rfl rfl (by omega)) ?_ | refine s_gv rfl (r_not rfl) ?_ | refine s_gv rfl (r_len rfl) ?_ | refine s_gv rfl (r_pt rfl rfl) ?_ | refine s_gv rfl (r_pf rfl rfl) ?_ | refine s_gv rfl (r_nc rfl) ?_ | refine s_gv rfl (r_fa rfl rfl) ?_ | refine s_gv rfl (r_ld rfl rfl (by first | assumption | exact cell_of_blk (by assumption) (by rfl))) ?_ | refine s_gv rfl (r_cvi rfl rfl rfl (wrap_in (by omega))) ?_ | refine s_gv rfl (r_cv rfl) ?_ | refine s_gv rfl (r_peq rfl rfl rfl) ?_ | refine s_gv rfl (r_fd rfl) ?_ | refine s_gv rfl (r_ex rfl) ?_))
      refine c_f rfl ?_
      (repeat (first | refine k_nil ?_ | refine k_n ?_ | refine k_r ?_ | refine k_x ?_ | refine b_n ?_ | refine b_r ?_ | refine b_y rfl ?_ | refine b_z rfl ?_ | refine l_r ?_ | refine l_x ?_ | refine k_seq ?_ | refine k_blk ?_ | refine k_reg ?_ | refine k_ret ?_ | refine k_exit ?_ | refine k_skip ?_ | refine s_v (r_mv rfl) ?_ | refine s_v (r_as rfl) ?_ | refine s_v (r_add rfl rfl (by omega)) ?_ | refine s_v (r_sub rfl rfl (by omega)) ?_ | refine s_v (r_mul rfl rfl (by omega)) ?_ | refine s_v (r_bin rfl) ?_ | refine s_v (r_fa rfl rfl) ?_ | refine s_v (r_ld rfl rfl (by first | assumption | exact cell_of_blk (by assumption) (by rfl))) ?_ | refine s_v (r_nc rfl) ?_ | refine s_v (r_not rfl) ?_ | refine s_v (r_mf rfl rfl) ?_ | refine s_v (r_len rfl) ?_ | refine s_v (r_ex rfl) ?_ | refine s_v (r_fd rfl) ?_ | refine s_v (r_cvi rfl rfl rfl (wrap_in (by omega))) ?_ | refine s_v (r_cv rfl) ?_ | refine s_v (r_peq rfl rfl rfl) ?_ | refine s_v (r_pne rfl rfl rfl) ?_ | refine s_v (r_min rfl rfl) ?_ | refine s_v (r_max rfl rfl) ?_ | refine s_v (r_bd rfl) ?_ | refine s_v (r_pt rfl rfl) ?_ | refine s_v (r_pf rfl rfl) ?_))
      refine l_next (i + 1, (sa', put xa n j (j * j - 3), if idx xa j < 0 then fa + 1 else fa), (sb', put xb 1000 j (j * j - 3), if idx xb j < 0 then fb + 1 else fb), if (ls.take i).contains (j : Int) then kinds else kinds + 1)
        ⟨rfl, rfl, rfl, rfl, rfl, rfl, rfl, trivial⟩ ⟨by show i + 1 ≤ len; omega, ?_, ?_, ?_, ?_, ?_, by omega, ?_, ?_⟩ (by show len - (i + 1) < len - i; omega)
      · show Inv n (ls.take (i + 1)) _ _ _ _ _
        rw [htake]
        exact hinv.step hn1 (by omega) j
      · exact ha9.kp k10 id (fun _ _ => id)
      · exact hb9.kp k10 id (fun _ _ => id)
      · show w10.heap[bs]? = some (.cells (seenL (ls.take (i + 1))).toArray 26 (0, 0))
        rw [htake, ← seenL_set _ j (by omega)]
        have hsb : ∀ g, sa.ownBlock = some g → g ≠ bs := fun g e => by have := oa g e; omega
        have hsb' : ∀ g, sb.ownBlock = some g → g ≠ bs := fun g e => by have := ob g e; omega
        have h1 := k10.get0 (k9.get (k8.get s7.blk (by
          rintro (h | h)
          · omega
          · exact hsb _ h.symm rfl)) (by
          rintro (h | h)
          · omega
          · exact hsb' _ h.symm rfl))
        simpa [cellsL] using h1
      · refine (((k6.trans s7.kp ?_).trans k8 ?_).trans k9 ?_).no k10
        · intro m hm e; omega
        · rintro m hm (h | h)
          · omega
          · have := oa m h.symm; omega
        · rintro m hm (h | h)
          · omega
          · have := ob m h.symm; omega
      · intro g e
        refine ⟨(hsa' g e).1, fun h => ?_⟩
        rcases ob' g h.symm with h1 | h1
        · exact (hsa' g e).2.2 h1.symm
        · have := hsa' g e; omega
      · intro g e
        rcases ob' g e with h1 | h1
        · exact ob g h1
        · omega
    · have hil : i = len := by omega
      have h1 : (xb.length : Int) ≤ fa := hinv.ga
      have h2 : xa.length ≤ xb.length := by
        have := nodup_le (xa.map (·.1)) (xb.map (·.1)) hinv.na (fun x hx => (hinv.mb x).2 (hinv.ma x hx))
        simpa using this
      have hek := hinv.ek
      have heb := hinv.eb
      obtain ⟨ca, na', rfl, _, _⟩ := own_read ha.own
      obtain ⟨cb, nb', rfl, _, _⟩ := own_read hb.own
      (repeat (first | refine k_nil ?_ | refine k_n ?_ | refine k_r ?_ | refine k_x ?_ | refine b_n ?_ | refine b_r ?_ | refine b_y rfl ?_ | refine b_z rfl ?_ | refine l_r ?_ | refine l_x ?_ | refine k_seq ?_ | refine k_blk ?_ | refine k_reg ?_ | refine k_ret ?_ | refine k_exit ?_ | refine k_skip ?_ | refine s_v (r_mv rfl) ?_ | refine s_v (r_as rfl) ?_ | refine s_v (r_add rfl rfl (by omega)) ?_ | refine s_v (r_sub rfl rfl (by omega)) ?_ | refine s_v (r_mul rfl rfl (by omega)) ?_ | refine s_v (r_bin rfl) ?_ | refine s_v (r_fa rfl rfl) ?_ | refine s_v (r_ld rfl rfl (by first | assumption | exact cell_of_blk (by assumption) (by rfl))) ?_ | refine s_v (r_nc rfl) ?_ | refine s_v (r_not rfl) ?_ | refine s_v (r_mf rfl rfl) ?_ | refine s_v (r_len rfl) ?_ | refine s_v (r_ex rfl) ?_ | refine s_v (r_fd rfl) ?_ | refine s_v (r_cvi rfl rfl rfl (wrap_in (by omega))) ?_ | refine s_v (r_cv rfl) ?_ | refine s_v (r_peq rfl rfl rfl) ?_ | refine s_v (r_pne rfl rfl rfl) ?_ | refine s_v (r_min rfl rfl) ?_ | refine s_v (r_max rfl rfl) ?_ | refine s_v (r_bd rfl) ?_ | refine s_v (r_pt rfl rfl) ?_ | refine s_v (r_pf rfl rfl) ?_))
      refine s_call (us := []) (zs := []) (by kernel_rfl) rfl rfl (Fetched pb _ _ _ w6 hb.blk) ?_
      rintro _ w7 ⟨rfl, rfl⟩
      (repeat (first | refine k_nil ?_ | refine k_n ?_ | refine k_r ?_ | refine k_x ?_ | refine b_n ?_ | refine b_r ?_ | refine b_y rfl ?_ | refine b_z rfl ?_ | refine l_r ?_ | refine l_x ?_ | refine k_seq ?_ | refine k_blk ?_ | refine k_reg ?_ | refine k_ret ?_ | refine k_exit ?_ | refine k_skip ?_ | refine s_v (r_mv rfl) ?_ | refine s_v (r_as rfl) ?_ | refine s_v (r_add rfl rfl (by omega)) ?_ | refine s_v (r_sub rfl rfl (by omega)) ?_ | refine s_v (r_mul rfl rfl (by omega)) ?_ | refine s_v (r_bin rfl) ?_ | refine s_v (r_fa rfl rfl) ?_ | refine s_v (r_ld rfl rfl (by first | assumption | exact cell_of_blk (by assumption) (by rfl))) ?_ | refine s_v (r_nc rfl) ?_ | refine s_v (r_not rfl) ?_ | refine s_v (r_mf rfl rfl) ?_ | refine s_v (r_len rfl) ?_ | refine s_v (r_ex rfl) ?_ | refine s_v (r_fd rfl) ?_ | refine s_v (r_cvi rfl rfl rfl (wrap_in (by omega))) ?_ | refine s_v (r_cv rfl) ?_ | refine s_v (r_peq rfl rfl rfl) ?_ | refine s_v (r_pne rfl rfl rfl) ?_ | refine s_v (r_min rfl rfl) ?_ | refine s_v (r_max rfl rfl) ?_ | refine s_v (r_bd rfl) ?_ | refine s_v (r_pt rfl rfl) ?_ | refine s_v (r_pf rfl rfl) ?_ | refine s_gn rfl rfl ?_ | refine s_gv rfl (r_mv rfl) ?_ | refine s_gv rfl (r_bin rfl) ?_ | refine s_gv rfl (r_add rfl rfl (by omega)) ?_ | refine s_gv rfl (r_sub rfl rfl (by omega)) ?_ | refine s_gv rfl (r_not rfl) ?_ | refine s_gv rfl (r_len rfl) ?_ | refine s_gv rfl (r_pt rfl rfl) ?_ | refine s_gv rfl (r_pf rfl rfl) ?_ | refine s_gv rfl (r_nc rfl) ?_ | refine s_gv rfl (r_fa rfl rfl) ?_ | refine s_gv rfl (r_ld rfl rfl (by first | assumption | exact cell_of_blk (by assumption) (by rfl))) ?_ | refine s_gv rfl (r_cvi rfl rfl rfl (wrap_in (by omega))) ?_ | refine s_gv rfl (r_cv rfl) ?_ | refine s_gv rfl (r_peq rfl rfl rfl) ?_ | refine s_gv rfl (r_fd rfl) ?_ | refine s_gv rfl (r_ex rfl) ?_))
      refine s_set 67 true rfl (by simp [hek, heb]) ?_
      (repeat (first | refine k_nil ?_ | refine k_n ?_ | refine k_r ?_ | refine k_x ?_ | refine b_n ?_ | refine b_r ?_ | refine b_y rfl ?_ | refine b_z rfl ?_ | refine l_r ?_ | refine l_x ?_ | refine k_seq ?_ | refine k_blk ?_ | refine k_reg ?_ | refine k_ret ?_ | refine k_exit ?_ | refine k_skip ?_ | refine s_v (r_mv rfl) ?_ | refine s_v (r_as rfl) ?_ | refine s_v (r_add rfl rfl (by omega)) ?_ | refine s_v (r_sub rfl rfl (by omega)) ?_ | refine s_v (r_mul rfl rfl (by omega)) ?_ | refine s_v (r_bin rfl) ?_ | refine s_v (r_fa rfl rfl) ?_ | refine s_v (r_ld rfl rfl (by first | assumption | exact cell_of_blk (by assumption) (by rfl))) ?_ | refine s_v (r_nc rfl) ?_ | refine s_v (r_not rfl) ?_ | refine s_v (r_mf rfl rfl) ?_ | refine s_v (r_len rfl) ?_ | refine s_v (r_ex rfl) ?_ | refine s_v (r_fd rfl) ?_ | refine s_v (r_cvi rfl rfl rfl (wrap_in (by omega))) ?_ | refine s_v (r_cv rfl) ?_ | refine s_v (r_peq rfl rfl rfl) ?_ | refine s_v (r_pne rfl rfl rfl) ?_ | refine s_v (r_min rfl rfl) ?_ | refine s_v (r_max rfl rfl) ?_ | refine s_v (r_bd rfl) ?_ | refine s_v (r_pt rfl rfl) ?_ | refine s_v (r_pf rfl rfl) ?_ | refine s_gn rfl rfl ?_ | refine s_gv rfl (r_mv rfl) ?_ | refine s_gv rfl (r_bin rfl) ?_ | refine s_gv rfl (r_add rfl rfl (by omega)) ?_ | refine s_gv rfl (r_sub rfl rfl (by omega)) ?_ | refine s_gv rfl (r_not rfl) ?_ | refine s_gv rfl (r_len rfl) ?_ | refine s_gv rfl (r_pt rfl rfl) ?_ | refine s_gv rfl (r_pf rfl rfl) ?_ | refine s_gv rfl (r_nc rfl) ?_ | refine s_gv rfl (r_fa rfl rfl) ?_ | refine s_gv rfl (r_ld rfl rfl (by first | assumption | exact cell_of_blk (by assumption) (by rfl))) ?_ | refine s_gv rfl (r_cvi rfl rfl rfl (wrap_in (by omega))) ?_ | refine s_gv rfl (r_cv rfl) ?_ | refine s_gv rfl (r_peq rfl rfl rfl) ?_ | refine s_gv rfl (r_fd rfl) ?_ | refine s_gv rfl (r_ex rfl) ?_))
      refine s_gcall (us := []) (zs := []) rfl (by kernel_rfl) rfl rfl (Len pb _ _ _ _ _ w7 hb.blk) ?_
      rintro _ w8 ⟨rfl, rfl⟩
      (repeat (first | refine k_nil ?_ | refine k_n ?_ | refine k_r ?_ | refine k_x ?_ | refine b_n ?_ | refine b_r ?_ | refine b_y rfl ?_ | refine b_z rfl ?_ | refine l_r ?_ | refine l_x ?_ | refine k_seq ?_ | refine k_blk ?_ | refine k_reg ?_ | refine k_ret ?_ | refine k_exit ?_ | refine k_skip ?_ | refine s_v (r_mv rfl) ?_ | refine s_v (r_as rfl) ?_ | refine s_v (r_add rfl rfl (by omega)) ?_ | refine s_v (r_sub rfl rfl (by omega)) ?_ | refine s_v (r_mul rfl rfl (by omega)) ?_ | refine s_v (r_bin rfl) ?_ | refine s_v (r_fa rfl rfl) ?_ | refine s_v (r_ld rfl rfl (by first | assumption | exact cell_of_blk (by assumption) (by rfl))) ?_ | refine s_v (r_nc rfl) ?_ | refine s_v (r_not rfl) ?_ | refine s_v (r_mf rfl rfl) ?_ | refine s_v (r_len rfl) ?_ | refine s_v (r_ex rfl) ?_ | refine s_v (r_fd rfl) ?_ | refine s_v (r_cvi rfl rfl rfl (wrap_in (by omega))) ?_ | refine s_v (r_cv rfl) ?_ | refine s_v (r_peq rfl rfl rfl) ?_ | refine s_v (r_pne rfl rfl rfl) ?_ | refine s_v (r_min rfl rfl) ?_ | refine s_v (r_max rfl rfl) ?_ | refine s_v (r_bd rfl) ?_ | refine s_v (r_pt rfl rfl) ?_ | refine s_v (r_pf rfl rfl) ?_ | refine s_gn rfl rfl ?_ | refine s_gv rfl (r_mv rfl) ?_ | refine s_gv rfl (r_bin rfl) ?_ | refine s_gv rfl (r_add rfl rfl (by omega)) ?_ | refine s_gv rfl (r_sub rfl rfl (by omega)) ?_ | refine s_gv rfl (r_not rfl) ?_ | refine s_gv rfl (r_len rfl) ?_ | refine s_gv rfl (r_pt rfl rfl) ?_ | refine s_gv rfl (r_pf rfl rfl) ?_ | refine s_gv rfl (r_nc rfl) ?_ | refine s_gv rfl (r_fa rfl rfl) ?_ | refine s_gv rfl (r_ld rfl rfl (by first | assumption | exact cell_of_blk (by assumption) (by rfl))) ?_ | refine s_gv rfl (r_cvi rfl rfl rfl (wrap_in (by omega))) ?_ | refine s_gv rfl (r_cv rfl) ?_ | refine s_gv rfl (r_peq rfl rfl rfl) ?_ | refine s_gv rfl (r_fd rfl) ?_ | refine s_gv rfl (r_ex rfl) ?_))
      refine s_set 73 true rfl (by simp [hek]) ?_
      (repeat (first | refine k_nil ?_ | refine k_n ?_ | refine k_r ?_ | refine k_x ?_ | refine b_n ?_ | refine b_r ?_ | refine b_y rfl ?_ | refine b_z rfl ?_ | refine l_r ?_ | refine l_x ?_ | refine k_seq ?_ | refine k_blk ?_ | refine k_reg ?_ | refine k_ret ?_ | refine k_exit ?_ | refine k_skip ?_ | refine s_v (r_mv rfl) ?_ | refine s_v (r_as rfl) ?_ | refine s_v (r_add rfl rfl (by omega)) ?_ | refine s_v (r_sub rfl rfl (by omega)) ?_ | refine s_v (r_mul rfl rfl (by omega)) ?_ | refine s_v (r_bin rfl) ?_ | refine s_v (r_fa rfl rfl) ?_ | refine s_v (r_ld rfl rfl (by first | assumption | exact cell_of_blk (by assumption) (by rfl))) ?_ | refine s_v (r_nc rfl) ?_ | refine s_v (r_not rfl) ?_ | refine s_v (r_mf rfl rfl) ?_ | refine s_v (r_len rfl) ?_ | refine s_v (r_ex rfl) ?_ | refine s_v (r_fd rfl) ?_ | refine s_v (r_cvi rfl rfl rfl (wrap_in (by omega))) ?_ | refine s_v (r_cv rfl) ?_ | refine s_v (r_peq rfl rfl rfl) ?_ | refine s_v (r_pne rfl rfl rfl) ?_ | refine s_v (r_min rfl rfl) ?_ | refine s_v (r_max rfl rfl) ?_ | refine s_v (r_bd rfl) ?_ | refine s_v (r_pt rfl rfl) ?_ | refine s_v (r_pf rfl rfl) ?_ | refine s_gn rfl rfl ?_ | refine s_gv rfl (r_mv rfl) ?_ | refine s_gv rfl (r_bin rfl) ?_ | refine s_gv rfl (r_add rfl rfl (by omega)) ?_ | refine s_gv rfl (r_sub rfl rfl (by omega)) ?_ | refine s_gv rfl (r_not rfl) ?_ | refine s_gv rfl (r_len rfl) ?_ | refine s_gv rfl (r_pt rfl rfl) ?_ | refine s_gv rfl (r_pf rfl rfl) ?_ | refine s_gv rfl (r_nc rfl) ?_ | refine s_gv rfl (r_fa rfl rfl) ?_ | refine s_gv rfl (r_ld rfl rfl (by first | assumption | exact cell_of_blk (by assumption) (by rfl))) ?_ | refine s_gv rfl (r_cvi rfl rfl rfl (wrap_in (by omega))) ?_ | refine s_gv rfl (r_cv rfl) ?_ | refine s_gv rfl (r_peq rfl rfl rfl) ?_ | refine s_gv rfl (r_fd rfl) ?_ | refine s_gv rfl (r_ex rfl) ?_))
      refine s_gcall (us := []) (zs := []) rfl (by kernel_rfl) rfl rfl (Fetched pa _ _ _ w8 ha.blk) ?_
      rintro _ w9 ⟨rfl, rfl⟩
      (repeat (first | refine k_nil ?_ | refine k_n ?_ | refine k_r ?_ | refine k_x ?_ | refine b_n ?_ | refine b_r ?_ | refine b_y rfl ?_ | refine b_z rfl ?_ | refine l_r ?_ | refine l_x ?_ | refine k_seq ?_ | refine k_blk ?_ | refine k_reg ?_ | refine k_ret ?_ | refine k_exit ?_ | refine k_skip ?_ | refine s_v (r_mv rfl) ?_ | refine s_v (r_as rfl) ?_ | refine s_v (r_add rfl rfl (by omega)) ?_ | refine s_v (r_sub rfl rfl (by omega)) ?_ | refine s_v (r_mul rfl rfl (by omega)) ?_ | refine s_v (r_bin rfl) ?_ | refine s_v (r_fa rfl rfl) ?_ | refine s_v (r_ld rfl rfl (by first | assumption | exact cell_of_blk (by assumption) (by rfl))) ?_ | refine s_v (r_nc rfl) ?_ | refine s_v (r_not rfl) ?_ | refine s_v (r_mf rfl rfl) ?_ | refine s_v (r_len rfl) ?_ | refine s_v (r_ex rfl) ?_ | refine s_v (r_fd rfl) ?_ | refine s_v (r_cvi rfl rfl rfl (wrap_in (by omega))) ?_ | refine s_v (r_cv rfl) ?_ | refine s_v (r_peq rfl rfl rfl) ?_ | refine s_v (r_pne rfl rfl rfl) ?_ | refine s_v (r_min rfl rfl) ?_ | refine s_v (r_max rfl rfl) ?_ | refine s_v (r_bd rfl) ?_ | refine s_v (r_pt rfl rfl) ?_ | refine s_v (r_pf rfl rfl) ?_ | refine s_gn rfl rfl ?_ | refine s_gv rfl (r_mv rfl) ?_ | refine s_gv rfl (r_bin rfl) ?_ | refine s_gv rfl (r_add rfl rfl (by omega)) ?_ | refine s_gv rfl (r_sub rfl rfl (by omega)) ?_ | refine s_gv rfl (r_not rfl) ?_ | refine s_gv rfl (r_len rfl) ?_ | refine s_gv rfl (r_pt rfl rfl) ?_ | refine s_gv rfl (r_pf rfl rfl) ?_ | refine s_gv rfl (r_nc rfl) ?_ | refine s_gv rfl (r_fa rfl rfl) ?_ | refine s_gv rfl (r_ld rfl rfl (by first | assumption | exact cell_of_blk (by assumption) (by rfl))) ?_ | refine s_gv rfl (r_cvi rfl rfl rfl (wrap_in (by omega))) ?_ | refine s_gv rfl (r_cv rfl) ?_ | refine s_gv rfl (r_peq rfl rfl rfl) ?_ | refine s_gv rfl (r_fd rfl) ?_ | refine s_gv rfl (r_ex rfl) ?_))
      refine s_set 79 true rfl (by simp [hek]; exact h1) ?_
      (repeat (first | refine k_nil ?_ | refine k_n ?_ | refine k_r ?_ | refine k_x ?_ | refine b_n ?_ | refine b_r ?_ | refine b_y rfl ?_ | refine b_z rfl ?_ | refine l_r ?_ | refine l_x ?_ | refine k_seq ?_ | refine k_blk ?_ | refine k_reg ?_ | refine k_ret ?_ | refine k_exit ?_ | refine k_skip ?_ | refine s_v (r_mv rfl) ?_ | refine s_v (r_as rfl) ?_ | refine s_v (r_add rfl rfl (by omega)) ?_ | refine s_v (r_sub rfl rfl (by omega)) ?_ | refine s_v (r_mul rfl rfl (by omega)) ?_ | refine s_v (r_bin rfl) ?_ | refine s_v (r_fa rfl rfl) ?_ | refine s_v (r_ld rfl rfl (by first | assumption | exact cell_of_blk (by assumption) (by rfl))) ?_ | refine s_v (r_nc rfl) ?_ | refine s_v (r_not rfl) ?_ | refine s_v (r_mf rfl rfl) ?_ | refine s_v (r_len rfl) ?_ | refine s_v (r_ex rfl) ?_ | refine s_v (r_fd rfl) ?_ | refine s_v (r_cvi rfl rfl rfl (wrap_in (by omega))) ?_ | refine s_v (r_cv rfl) ?_ | refine s_v (r_peq rfl rfl rfl) ?_ | refine s_v (r_pne rfl rfl rfl) ?_ | refine s_v (r_min rfl rfl) ?_ | refine s_v (r_max rfl rfl) ?_ | refine s_v (r_bd rfl) ?_ | refine s_v (r_pt rfl rfl) ?_ | refine s_v (r_pf rfl rfl) ?_ | refine s_gn rfl rfl ?_ | refine s_gv rfl (r_mv rfl) ?_ | refine s_gv rfl (r_bin rfl) ?_ | refine s_gv rfl (r_add rfl rfl (by omega)) ?_ | refine s_gv rfl (r_sub rfl rfl (by omega)) ?_ | refine s_gv rfl (r_not rfl) ?_ | refine s_gv rfl (r_len rfl) ?_ | refine s_gv rfl (r_pt rfl rfl) ?_ | refine s_gv rfl (r_pf rfl rfl) ?_ | refine s_gv rfl (r_nc rfl) ?_ | refine s_gv rfl (r_fa rfl rfl) ?_ | refine s_gv rfl (r_ld rfl rfl (by first | assumption | exact cell_of_blk (by assumption) (by rfl))) ?_ | refine s_gv rfl (r_cvi rfl rfl rfl (wrap_in (by omega))) ?_ | refine s_gv rfl (r_cv rfl) ?_ | refine s_gv rfl (r_peq rfl rfl rfl) ?_ | refine s_gv rfl (r_fd rfl) ?_ | refine s_gv rfl (r_ex rfl) ?_))
      refine s_gcall (us := []) (zs := []) rfl (by kernel_rfl) rfl rfl (Len pa _ _ _ _ _ w9 ha.blk) ?_
      rintro _ w10 ⟨rfl, rfl⟩
      (repeat (first | refine k_nil ?_ | refine k_n ?_ | refine k_r ?_ | refine k_x ?_ | refine b_n ?_ | refine b_r ?_ | refine b_y rfl ?_ | refine b_z rfl ?_ | refine l_r ?_ | refine l_x ?_ | refine k_seq ?_ | refine k_blk ?_ | refine k_reg ?_ | refine k_ret ?_ | refine k_exit ?_ | refine k_skip ?_ | refine s_v (r_mv rfl) ?_ | refine s_v (r_as rfl) ?_ | refine s_v (r_add rfl rfl (by omega)) ?_ | refine s_v (r_sub rfl rfl (by omega)) ?_ | refine s_v (r_mul rfl rfl (by omega)) ?_ | refine s_v (r_bin rfl) ?_ | refine s_v (r_fa rfl rfl) ?_ | refine s_v (r_ld rfl rfl (by first | assumption | exact cell_of_blk (by assumption) (by rfl))) ?_ | refine s_v (r_nc rfl) ?_ | refine s_v (r_not rfl) ?_ | refine s_v (r_mf rfl rfl) ?_ | refine s_v (r_len rfl) ?_ | refine s_v (r_ex rfl) ?_ | refine s_v (r_fd rfl) ?_ | refine s_v (r_cvi rfl rfl rfl (wrap_in (by omega))) ?_ | refine s_v (r_cv rfl) ?_ | refine s_v (r_peq rfl rfl rfl) ?_ | refine s_v (r_pne rfl rfl rfl) ?_ | refine s_v (r_min rfl rfl) ?_ | refine s_v (r_max rfl rfl) ?_ | refine s_v (r_bd rfl) ?_ | refine s_v (r_pt rfl rfl) ?_ | refine s_v (r_pf rfl rfl) ?_ | refine s_gn rfl rfl ?_ | refine s_gv rfl (r_mv rfl) ?_ | refine s_gv rfl (r_bin rfl) ?_ | refine s_gv rfl (r_add rfl rfl (by omega)) ?_ | refine s_gv rfl (r_sub rfl rfl (by omega)) ?_ | refine s_gv rfl (r_not rfl) ?_ | refine s_gv rfl (r_len rfl) ?_ | refine s_gv rfl (r_pt rfl rfl) ?_ | refine s_gv rfl (r_pf rfl rfl) ?_ | refine s_gv rfl (r_nc rfl) ?_ | refine s_gv rfl (r_fa rfl rfl) ?_ | refine s_gv rfl (r_ld rfl rfl (by first | assumption | exact cell_of_blk (by assumption) (by rfl))) ?_ | refine s_gv rfl (r_cvi rfl rfl rfl (wrap_in (by omega))) ?_ | refine s_gv rfl (r_cv rfl) ?_ | refine s_gv rfl (r_peq rfl rfl rfl) ?_ | refine s_gv rfl (r_fd rfl) ?_ | refine s_gv rfl (r_ex rfl) ?_))
      refine ret_1 rfl rfl ⟨?_, k6⟩
      simp only [hek]
      rw [decide_eq_true (by omega)]
end Ar
end Go.Proofs.Ytfckpboidecmaaa
