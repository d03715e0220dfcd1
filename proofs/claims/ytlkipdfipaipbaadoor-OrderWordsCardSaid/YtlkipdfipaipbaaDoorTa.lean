/- Tokens: a text's all, their bytes, the words. -/
import Derived.Test.YtlkipdfipaipbaaDoorTq
import Derived.Test.YtlkipdfipaipbaaDoorTr
namespace Go.Proofs.YtlkipdfipaipbaaDoor
open Go Go.RowKit Fw
set_option linter.unusedVariables false
set_option maxRecDepth 20000
namespace Tk
/-- A token: kind, from, to. -/
abbrev T3 := Int × Int × Int
def tc (ts : List T3) : List Value := ts.flatMap fun t => [.int .i64 t.1, .int .i64 t.2.1, .int .i64 t.2.2]
theorem tc_len (ts : List T3) : (tc ts).length = ts.length * 3 := flat_length (f := fun t : T3 => [.int .i64 t.1, .int .i64 t.2.1, .int .i64 t.2.2]) (fun _ => rfl) ts
theorem tc_one (ts : List T3) : (tc ts).all Value.oneCell' = true := by
  simp only [tc, List.all_flatMap]
  exact List.all_eq_true.2 fun _ _ => rfl
theorem tc_get {ts : List T3} {i : Nat} {t : T3} (h : ts[i]? = some t) : (tc ts)[i * 3]? = some (.int .i64 t.1) ∧ (tc ts)[i * 3 + 1]? = some (.int .i64 t.2.1) ∧ (tc ts)[i * 3 + 2]? = some (.int .i64 t.2.2) :=
  ⟨flat_get (f := fun t : T3 => [.int .i64 t.1, .int .i64 t.2.1, .int .i64 t.2.2]) (sz := 3) (fun _ => rfl) ts i 0 t h (by omega), flat_get (f := fun t : T3 => [.int .i64 t.1, .int .i64 t.2.1, .int .i64 t.2.2]) (sz := 3) (fun _ => rfl) ts i 1 t h (by omega),
    flat_get (f := fun t : T3 => [.int .i64 t.1, .int .i64 t.2.1, .int .i64 t.2.2]) (sz := 3) (fun _ => rfl) ts i 2 t h (by omega)⟩
/-- All tokens from a place; or where there is none. -/
def als : Nat → Nat → List Int → List T3 × Option Int
  | 0, a, _ => ([], some a)
  | f + 1, a, L =>
    if (nx L).ok then
      if (nx L).k = 0 then ([(0, ((a + (nx L).n : Nat) : Int), ((a + (nx L).n + (nx L).m : Nat) : Int))], none)
      else match als f (a + (nx L).n + (nx L).m) (L.drop ((nx L).n + (nx L).m)) with
        | (l, e) => (((nx L).k, ((a + (nx L).n : Nat) : Int), ((a + (nx L).n + (nx L).m : Nat) : Int)) :: l, e)
    else ([], some ((a + (nx L).n : Nat) : Int))
/-- A text's tokens; a place; the error. -/
def allT (L : List Int) : List T3 × Int × Int :=
  if 20000 < L.length then ([], 0, 1) else match als (L.length + 1) 0 L with
    | (l, none) => (l, 0, 0)
    | (_, some p) => ([], p, 2)
theorem nx_pos {L : List Int} (h : (nx L).ok = true) (hk : (nx L).k ≠ 0) : 0 < (nx L).m := by
  by_cases h0 : L.drop (sk false L) = []
  · exact absurd (show (nx L).k = 0 by rw [nx, h0]; rfl) hk
  · exact (body_pos (L := L.drop (sk false L)) h h0).1
/-- What both do: one walk, for the program and for the document. -/
theorem als_len (f a : Nat) (L : List Int) : (als f a L).1.length ≤ L.length + 1 := by
  induction f generalizing a L with
  | zero => simp [als]
  | succ f ih =>
    rw [als]
    split
    · rename_i hok
      split
      · simp
      · rename_i hk
        have h1 := nx_pos hok hk
        have h2 := nx_le L
        have h3 := ih (a + (nx L).n + (nx L).m) (L.drop ((nx L).n + (nx L).m))
        rw [List.length_drop] at h3
        simp only [List.length_cons]
        omega
    · simp
set_option maxHeartbeats 1000000 in
theorem All (s : ByteArray) (w : World) (hg : Glob w) (hs : s.size ≤ 1000000) :
    Ret Tryd.prog 36 [.string s] w fun v w1 => ∃ u, v = .tuple #[u, .int .i64 (allT (B s)).2.1, .int .i64 (allT (B s)).2.2] ∧ w1.ownsRow w.heap.size 69 3 u (allT (B s)).1.length (tc (allT (B s)).1) ∧ Kp No w w1 := by
  have hlen := B_len s
  refine ret_enter Tryd.func36 rfl Tryd.ntmps36 rfl ?_
  (repeat (first | refine k_nil ?_ | refine k_n ?_ | refine k_r ?_ | refine k_x ?_ | refine b_n ?_ | refine b_r ?_ | refine b_y rfl ?_ | refine b_z rfl ?_ | refine l_r ?_ | refine l_x ?_ | refine k_seq ?_ | refine k_blk ?_ | refine k_reg ?_ | refine k_ret ?_ | refine k_exit ?_ | refine k_skip ?_ | refine s_v (r_mv rfl) ?_ | refine s_v (r_as rfl) ?_ | refine s_v (r_add rfl rfl (by omega)) ?_ | refine s_v (r_sub rfl rfl (by omega)) ?_ | refine s_v (r_mul rfl rfl (by omega)) ?_ | refine s_v (r_bin rfl) ?_ | refine s_v (r_fa rfl rfl) ?_ | refine s_v (r_ld rfl rfl (by first | assumption | exact cell_of_blk (by assumption) (by rfl))) ?_ | refine s_v (r_nc rfl) ?_ | refine s_v (r_not rfl) ?_ | refine s_v (r_mf rfl rfl) ?_ | refine s_v (r_len rfl) ?_ | refine s_v (r_ex rfl) ?_ | refine s_v (r_fd rfl) ?_ | refine s_v (r_rem rfl rfl (by omega) (by omega)) ?_ | refine s_v (r_cvi rfl rfl rfl (wrap_in (by omega))) ?_ | refine s_v (r_cv rfl) ?_ | refine s_v (r_peq rfl rfl rfl) ?_ | refine s_v (r_pne rfl rfl rfl) ?_ | refine s_v (r_min rfl rfl) ?_ | refine s_v (r_max rfl rfl) ?_ | refine s_v (r_bd rfl) ?_ | refine s_v (r_pt rfl rfl) ?_ | refine s_v (r_pf rfl rfl) ?_))
  refine c_dec rfl (fun hbig => ?_) (fun hsm => ?_)
  · have hall : allT (B s) = ([], 0, 1) := by rw [allT, if_pos (by omega)]
    (repeat (first | refine k_nil ?_ | refine k_n ?_ | refine k_r ?_ | refine k_x ?_ | refine b_n ?_ | refine b_r ?_ | refine b_y rfl ?_ | refine b_z rfl ?_ | refine l_r ?_ | refine l_x ?_ | refine k_seq ?_ | refine k_blk ?_ | refine k_reg ?_ | refine k_ret ?_ | refine k_exit ?_ | refine k_skip ?_ | refine s_v (r_mv rfl) ?_ | refine s_v (r_as rfl) ?_ | refine s_v (r_add rfl rfl (by omega)) ?_ | refine s_v (r_sub rfl rfl (by omega)) ?_ | refine s_v (r_mul rfl rfl (by omega)) ?_ | refine s_v (r_bin rfl) ?_ | refine s_v (r_fa rfl rfl) ?_ | refine s_v (r_ld rfl rfl (by first | assumption | exact cell_of_blk (by assumption) (by rfl))) ?_ | refine s_v (r_nc rfl) ?_ | refine s_v (r_not rfl) ?_ | refine s_v (r_mf rfl rfl) ?_ | refine s_v (r_len rfl) ?_ | refine s_v (r_ex rfl) ?_ | refine s_v (r_fd rfl) ?_ | refine s_v (r_rem rfl rfl (by omega) (by omega)) ?_ | refine s_v (r_cvi rfl rfl rfl (wrap_in (by omega))) ?_ | refine s_v (r_cv rfl) ?_ | refine s_v (r_peq rfl rfl rfl) ?_ | refine s_v (r_pne rfl rfl rfl) ?_ | refine s_v (r_min rfl rfl) ?_ | refine s_v (r_max rfl rfl) ?_ | refine s_v (r_bd rfl) ?_ | refine s_v (r_pt rfl rfl) ?_ | refine s_v (r_pf rfl rfl) ?_))
    refine ret_3 rfl rfl rfl rfl ⟨.slice none 0 0, by rw [hall], ?_, Kp.refl _ _⟩
    rw [hall]
    exact ⟨by simp [tc], .inl ⟨rfl, rfl⟩⟩
  · obtain ⟨R, hR⟩ : ∃ R, als (s.size + 1) 0 (B s) = R := ⟨_, rfl⟩
    (repeat (first | refine k_nil ?_ | refine k_n ?_ | refine k_r ?_ | refine k_x ?_ | refine b_n ?_ | refine b_r ?_ | refine b_y rfl ?_ | refine b_z rfl ?_ | refine l_r ?_ | refine l_x ?_ | refine k_seq ?_ | refine k_blk ?_ | refine k_reg ?_ | refine k_ret ?_ | refine k_exit ?_ | refine k_skip ?_ | refine s_v (r_mv rfl) ?_ | refine s_v (r_as rfl) ?_ | refine s_v (r_add rfl rfl (by omega)) ?_ | refine s_v (r_sub rfl rfl (by omega)) ?_ | refine s_v (r_mul rfl rfl (by omega)) ?_ | refine s_v (r_bin rfl) ?_ | refine s_v (r_fa rfl rfl) ?_ | refine s_v (r_ld rfl rfl (by first | assumption | exact cell_of_blk (by assumption) (by rfl))) ?_ | refine s_v (r_nc rfl) ?_ | refine s_v (r_not rfl) ?_ | refine s_v (r_mf rfl rfl) ?_ | refine s_v (r_len rfl) ?_ | refine s_v (r_ex rfl) ?_ | refine s_v (r_fd rfl) ?_ | refine s_v (r_rem rfl rfl (by omega) (by omega)) ?_ | refine s_v (r_cvi rfl rfl rfl (wrap_in (by omega))) ?_ | refine s_v (r_cv rfl) ?_ | refine s_v (r_peq rfl rfl rfl) ?_ | refine s_v (r_pne rfl rfl rfl) ?_ | refine s_v (r_min rfl rfl) ?_ | refine s_v (r_max rfl rfl) ?_ | refine s_v (r_bd rfl) ?_ | refine s_v (r_pt rfl rfl) ?_ | refine s_v (r_pf rfl rfl) ?_))
    refine k_loop (σ := Nat × Value × List T3 × Nat) (fun t => [(0, .string s), (5, t.2.1), (6, .int .i64 t.1)])
      (fun t w' => t.1 ≤ s.size ∧ t.2.2.2 = s.size - t.1 + 1 ∧ w'.ownsRow w.heap.size 69 3 t.2.1 t.2.2.1.length (tc t.2.2.1) ∧ t.2.2.1.length ≤ t.1 ∧ Kp No w w' ∧
        (∃ f', s.size - t.1 + 1 ≤ f' ∧ R = (t.2.2.1 ++ (als f' t.1 ((B s).drop t.1)).1, (als f' t.1 ((B s).drop t.1)).2))) (fun t => s.size - t.1 + 1) (0, .slice none 0 0, [], s.size + 1) ⟨rfl, rfl, rfl, trivial⟩
      ⟨Nat.zero_le _, by simp, ⟨by simp [tc], .inl ⟨rfl, rfl⟩⟩, by simp, Kp.refl _ _, s.size + 1, by simp, by simp [hR]⟩ ?_
    rintro ⟨a, v, ts, fu⟩ l w1 ⟨ha, hfu, hown, htl, k1, f', hf', hals⟩
    simp only at ha hfu hown htl k1 hf' hals
    dsimp only
    have hnl := nx_le ((B s).drop a)
    rw [List.length_drop, B_len] at hnl
    obtain ⟨g, rfl⟩ : ∃ g, f' = g + 1 := ⟨f' - 1, by omega⟩
    obtain ⟨ok, k, n, m, hnx⟩ : ∃ ok k n m, nx ((B s).drop a) = ⟨ok, k, n, m⟩ := ⟨_, _, _, _, rfl⟩
    have hpos : ok = true → k ≠ 0 → 0 < m := fun h hk => by have := nx_pos (L := (B s).drop a) (by rw [hnx]; exact h) (by rw [hnx]; exact hk); rw [hnx] at this; exact this
    rw [hnx] at hnl
    simp only at hnl
    rw [als, hnx] at hals
    simp only at hals
    obtain ⟨av, cv, rfl, _, _, _⟩ := own_read hown
    (repeat (first | refine k_nil ?_ | refine k_n ?_ | refine k_r ?_ | refine k_x ?_ | refine b_n ?_ | refine b_r ?_ | refine b_y rfl ?_ | refine b_z rfl ?_ | refine l_r ?_ | refine l_x ?_ | refine k_seq ?_ | refine k_blk ?_ | refine k_reg ?_ | refine k_ret ?_ | refine k_exit ?_ | refine k_skip ?_ | refine s_v (r_mv rfl) ?_ | refine s_v (r_as rfl) ?_ | refine s_v (r_add rfl rfl (by omega)) ?_ | refine s_v (r_sub rfl rfl (by omega)) ?_ | refine s_v (r_mul rfl rfl (by omega)) ?_ | refine s_v (r_bin rfl) ?_ | refine s_v (r_fa rfl rfl) ?_ | refine s_v (r_ld rfl rfl (by first | assumption | exact cell_of_blk (by assumption) (by rfl))) ?_ | refine s_v (r_nc rfl) ?_ | refine s_v (r_not rfl) ?_ | refine s_v (r_mf rfl rfl) ?_ | refine s_v (r_len rfl) ?_ | refine s_v (r_ex rfl) ?_ | refine s_v (r_fd rfl) ?_ | refine s_v (r_rem rfl rfl (by omega) (by omega)) ?_ | refine s_v (r_cvi rfl rfl rfl (wrap_in (by omega))) ?_ | refine s_v (r_cv rfl) ?_ | refine s_v (r_peq rfl rfl rfl) ?_ | refine s_v (r_pne rfl rfl rfl) ?_ | refine s_v (r_min rfl rfl) ?_ | refine s_v (r_max rfl rfl) ?_ | refine s_v (r_bd rfl) ?_ | refine s_v (r_pt rfl rfl) ?_ | refine s_v (r_pf rfl rfl) ?_))
    refine s_call (us := []) (zs := []) (by kernel_rfl) rfl rfl (Next s a w1 (hg.kp k1) hs ha) ?_
    rintro _ w2 ⟨rfl, k2⟩
    rw [nxV, tokV, hnx]
    (repeat (first | refine k_nil ?_ | refine k_n ?_ | refine k_r ?_ | refine k_x ?_ | refine b_n ?_ | refine b_r ?_ | refine b_y rfl ?_ | refine b_z rfl ?_ | refine l_r ?_ | refine l_x ?_ | refine k_seq ?_ | refine k_blk ?_ | refine k_reg ?_ | refine k_ret ?_ | refine k_exit ?_ | refine k_skip ?_ | refine s_v (r_mv rfl) ?_ | refine s_v (r_as rfl) ?_ | refine s_v (r_add rfl rfl (by omega)) ?_ | refine s_v (r_sub rfl rfl (by omega)) ?_ | refine s_v (r_mul rfl rfl (by omega)) ?_ | refine s_v (r_bin rfl) ?_ | refine s_v (r_fa rfl rfl) ?_ | refine s_v (r_ld rfl rfl (by first | assumption | exact cell_of_blk (by assumption) (by rfl))) ?_ | refine s_v (r_nc rfl) ?_ | refine s_v (r_not rfl) ?_ | refine s_v (r_mf rfl rfl) ?_ | refine s_v (r_len rfl) ?_ | refine s_v (r_ex rfl) ?_ | refine s_v (r_fd rfl) ?_ | refine s_v (r_rem rfl rfl (by omega) (by omega)) ?_ | refine s_v (r_cvi rfl rfl rfl (wrap_in (by omega))) ?_ | refine s_v (r_cv rfl) ?_ | refine s_v (r_peq rfl rfl rfl) ?_ | refine s_v (r_pne rfl rfl rfl) ?_ | refine s_v (r_min rfl rfl) ?_ | refine s_v (r_max rfl rfl) ?_ | refine s_v (r_bd rfl) ?_ | refine s_v (r_pt rfl rfl) ?_ | refine s_v (r_pf rfl rfl) ?_))
    refine s_al rfl (fun b7 w3 n3 => ?_)
    refine s_st rfl rfl rfl rfl rfl n3.blk (Nat.le_of_ble_eq_true rfl) (fun w4 s4 => ?_)
    have y3 := n3.ge
    have z2 := k2.size
    have z3 := n3.kp.size
    have z4 := s4.sz
    have z1 := k1.size
    have hb7 := s4.blk
    have k4 : Kp No w1 w4 := (k2.no n3.kp).trans s4.kp (fun _ _ e => by omega)
    have kw4 := k1.no k4
    have own4 := own_kp hown k4 (fun _ _ => id)
    (repeat (first | refine k_nil ?_ | refine k_n ?_ | refine k_r ?_ | refine k_x ?_ | refine b_n ?_ | refine b_r ?_ | refine b_y rfl ?_ | refine b_z rfl ?_ | refine l_r ?_ | refine l_x ?_ | refine k_seq ?_ | refine k_blk ?_ | refine k_reg ?_ | refine k_ret ?_ | refine k_exit ?_ | refine k_skip ?_ | refine s_v (r_mv rfl) ?_ | refine s_v (r_as rfl) ?_ | refine s_v (r_add rfl rfl (by omega)) ?_ | refine s_v (r_sub rfl rfl (by omega)) ?_ | refine s_v (r_mul rfl rfl (by omega)) ?_ | refine s_v (r_bin rfl) ?_ | refine s_v (r_fa rfl rfl) ?_ | refine s_v (r_ld rfl rfl (by first | assumption | exact cell_of_blk (by assumption) (by rfl))) ?_ | refine s_v (r_nc rfl) ?_ | refine s_v (r_not rfl) ?_ | refine s_v (r_mf rfl rfl) ?_ | refine s_v (r_len rfl) ?_ | refine s_v (r_ex rfl) ?_ | refine s_v (r_fd rfl) ?_ | refine s_v (r_rem rfl rfl (by omega) (by omega)) ?_ | refine s_v (r_cvi rfl rfl rfl (wrap_in (by omega))) ?_ | refine s_v (r_cv rfl) ?_ | refine s_v (r_peq rfl rfl rfl) ?_ | refine s_v (r_pne rfl rfl rfl) ?_ | refine s_v (r_min rfl rfl) ?_ | refine s_v (r_max rfl rfl) ?_ | refine s_v (r_bd rfl) ?_ | refine s_v (r_pt rfl rfl) ?_ | refine s_v (r_pf rfl rfl) ?_))
    cases ok with
    | false =>
      refine k_re 19 (v' := .bool true) rfl rfl ?_
      refine c_t rfl ?_
      have hall : allT (B s) = ([], ((a + n : Nat) : Int), 2) := by
        rw [allT, if_neg (by omega), hlen, hR, hals]; rfl
      (repeat (first | refine k_nil ?_ | refine k_n ?_ | refine k_r ?_ | refine k_x ?_ | refine b_n ?_ | refine b_r ?_ | refine b_y rfl ?_ | refine b_z rfl ?_ | refine l_r ?_ | refine l_x ?_ | refine k_seq ?_ | refine k_blk ?_ | refine k_reg ?_ | refine k_ret ?_ | refine k_exit ?_ | refine k_skip ?_ | refine s_v (r_mv rfl) ?_ | refine s_v (r_as rfl) ?_ | refine s_v (r_add rfl rfl (by omega)) ?_ | refine s_v (r_sub rfl rfl (by omega)) ?_ | refine s_v (r_mul rfl rfl (by omega)) ?_ | refine s_v (r_bin rfl) ?_ | refine s_v (r_fa rfl rfl) ?_ | refine s_v (r_ld rfl rfl (by first | assumption | exact cell_of_blk (by assumption) (by rfl))) ?_ | refine s_v (r_nc rfl) ?_ | refine s_v (r_not rfl) ?_ | refine s_v (r_mf rfl rfl) ?_ | refine s_v (r_len rfl) ?_ | refine s_v (r_ex rfl) ?_ | refine s_v (r_fd rfl) ?_ | refine s_v (r_rem rfl rfl (by omega) (by omega)) ?_ | refine s_v (r_cvi rfl rfl rfl (wrap_in (by omega))) ?_ | refine s_v (r_cv rfl) ?_ | refine s_v (r_peq rfl rfl rfl) ?_ | refine s_v (r_pne rfl rfl rfl) ?_ | refine s_v (r_min rfl rfl) ?_ | refine s_v (r_max rfl rfl) ?_ | refine s_v (r_bd rfl) ?_ | refine s_v (r_pt rfl rfl) ?_ | refine s_v (r_pf rfl rfl) ?_))
      refine k_q (by kernel_rfl) (by kernel_rfl) ?_
      refine q_v (fun w' hw => r_fa rfl rfl) ?_
      refine q_v (fun w' hw => r_fa rfl rfl) ?_
      refine q_v (fun w' hw => r_ld rfl rfl (cell_of_blk (hw.get0 hb7) (by rfl))) ?_
      refine q_v (fun w' hw => r_mv rfl) ?_
      refine q_v (fun w' hw => r_as rfl) ?_
      refine q_v (fun w' hw => r_as rfl) ?_
      refine q_v (fun w' hw => r_as rfl) ?_
      refine q_nil (fun w5 k5 => ?_)
      (repeat (first | refine k_nil ?_ | refine k_n ?_ | refine k_r ?_ | refine k_x ?_ | refine b_n ?_ | refine b_r ?_ | refine b_y rfl ?_ | refine b_z rfl ?_ | refine l_r ?_ | refine l_x ?_ | refine k_seq ?_ | refine k_blk ?_ | refine k_reg ?_ | refine k_ret ?_ | refine k_exit ?_ | refine k_skip ?_ | refine s_v (r_mv rfl) ?_ | refine s_v (r_as rfl) ?_ | refine s_v (r_add rfl rfl (by omega)) ?_ | refine s_v (r_sub rfl rfl (by omega)) ?_ | refine s_v (r_mul rfl rfl (by omega)) ?_ | refine s_v (r_bin rfl) ?_ | refine s_v (r_fa rfl rfl) ?_ | refine s_v (r_ld rfl rfl (by first | assumption | exact cell_of_blk (by assumption) (by rfl))) ?_ | refine s_v (r_nc rfl) ?_ | refine s_v (r_not rfl) ?_ | refine s_v (r_mf rfl rfl) ?_ | refine s_v (r_len rfl) ?_ | refine s_v (r_ex rfl) ?_ | refine s_v (r_fd rfl) ?_ | refine s_v (r_rem rfl rfl (by omega) (by omega)) ?_ | refine s_v (r_cvi rfl rfl rfl (wrap_in (by omega))) ?_ | refine s_v (r_cv rfl) ?_ | refine s_v (r_peq rfl rfl rfl) ?_ | refine s_v (r_pne rfl rfl rfl) ?_ | refine s_v (r_min rfl rfl) ?_ | refine s_v (r_max rfl rfl) ?_ | refine s_v (r_bd rfl) ?_ | refine s_v (r_pt rfl rfl) ?_ | refine s_v (r_pf rfl rfl) ?_))
      refine ret_3 rfl rfl rfl rfl ⟨.slice none 0 0, by rw [hall]; rfl, ?_, kw4.no k5⟩
      rw [hall]
      exact ⟨by simp [tc], .inl ⟨rfl, rfl⟩⟩
    | true =>
      refine k_re 19 (v' := .bool false) rfl rfl ?_
      refine c_f rfl ?_
      (repeat (first | refine k_nil ?_ | refine k_n ?_ | refine k_r ?_ | refine k_x ?_ | refine b_n ?_ | refine b_r ?_ | refine b_y rfl ?_ | refine b_z rfl ?_ | refine l_r ?_ | refine l_x ?_ | refine k_seq ?_ | refine k_blk ?_ | refine k_reg ?_ | refine k_ret ?_ | refine k_exit ?_ | refine k_skip ?_ | refine s_v (r_mv rfl) ?_ | refine s_v (r_as rfl) ?_ | refine s_v (r_add rfl rfl (by omega)) ?_ | refine s_v (r_sub rfl rfl (by omega)) ?_ | refine s_v (r_mul rfl rfl (by omega)) ?_ | refine s_v (r_bin rfl) ?_ | refine s_v (r_fa rfl rfl) ?_ | refine s_v (r_ld rfl rfl (by first | assumption | exact cell_of_blk (by assumption) (by rfl))) ?_ | refine s_v (r_nc rfl) ?_ | refine s_v (r_not rfl) ?_ | refine s_v (r_mf rfl rfl) ?_ | refine s_v (r_len rfl) ?_ | refine s_v (r_ex rfl) ?_ | refine s_v (r_fd rfl) ?_ | refine s_v (r_rem rfl rfl (by omega) (by omega)) ?_ | refine s_v (r_cvi rfl rfl rfl (wrap_in (by omega))) ?_ | refine s_v (r_cv rfl) ?_ | refine s_v (r_peq rfl rfl rfl) ?_ | refine s_v (r_pne rfl rfl rfl) ?_ | refine s_v (r_min rfl rfl) ?_ | refine s_v (r_max rfl rfl) ?_ | refine s_v (r_bd rfl) ?_ | refine s_v (r_pt rfl rfl) ?_ | refine s_v (r_pf rfl rfl) ?_))
      refine s_v (r_ldb (vs := [.int .i64 k, .int .i64 ((a + n : Nat) : Int), .int .i64 ((a + n + m : Nat) : Int)]) rfl rfl rfl hb7 rfl rfl) ?_
      refine s_bs (cs := [.int .i64 k, .int .i64 ((a + n : Nat) : Int), .int .i64 ((a + n + m : Nat) : Int)]) rfl (fun b8 w5 n5 => ?_)
      have own5 := own_kp own4 n5.kp (fun _ _ => id)
      have z5 := n5.kp.size
      refine s_app (size := 3) (bytes := 24) (base := w.heap.size) (news := [.int .i64 k, .int .i64 ((a + n : Nat) : Int), .int .i64 ((a + n + m : Nat) : Int)]) rfl rfl rfl rfl rfl rfl rfl rfl own5 rfl (blk_cells n5.blk) rfl rfl (by omega) (by omega) (by omega) ?_
      intro v6 w6 a6
      have hbs : ∀ g, (Value.slice av ts.length cv).ownBlock = some g → w.heap.size ≤ g ∧ g < w1.heap.size := fun g e => own_lt hown e
      have hb7' := a6.kp.get (n5.kp.get0 hb7) (fun e => by have := hbs b7 e.symm; omega)
      have k6 : Kp No w w6 := (kw4.no n5.kp).trans a6.kp (fun i hi e => by have := hbs i e.symm; omega)
      have own6 : w6.ownsRow w.heap.size 69 3 v6 (ts ++ [(k, ((a + n : Nat) : Int), ((a + n + m : Nat) : Int))]).length (tc (ts ++ [(k, ((a + n : Nat) : Int), ((a + n + m : Nat) : Int))])) := by
        have := a6.own
        have e1 : tc (ts ++ [(k, ((a + n : Nat) : Int), ((a + n + m : Nat) : Int))]) = tc ts ++ [.int .i64 k, .int .i64 ((a + n : Nat) : Int), .int .i64 ((a + n + m : Nat) : Int)] := by simp [tc]
        rw [e1, List.length_append, List.length_singleton]
        exact this
      obtain ⟨a6', c6, rfl, _, _, _⟩ := own_read a6.own
      (repeat (first | refine k_nil ?_ | refine k_n ?_ | refine k_r ?_ | refine k_x ?_ | refine b_n ?_ | refine b_r ?_ | refine b_y rfl ?_ | refine b_z rfl ?_ | refine l_r ?_ | refine l_x ?_ | refine k_seq ?_ | refine k_blk ?_ | refine k_reg ?_ | refine k_ret ?_ | refine k_exit ?_ | refine k_skip ?_ | refine s_v (r_mv rfl) ?_ | refine s_v (r_as rfl) ?_ | refine s_v (r_add rfl rfl (by omega)) ?_ | refine s_v (r_sub rfl rfl (by omega)) ?_ | refine s_v (r_mul rfl rfl (by omega)) ?_ | refine s_v (r_bin rfl) ?_ | refine s_v (r_fa rfl rfl) ?_ | refine s_v (r_ld rfl rfl (by first | assumption | exact cell_of_blk (by assumption) (by rfl))) ?_ | refine s_v (r_nc rfl) ?_ | refine s_v (r_not rfl) ?_ | refine s_v (r_mf rfl rfl) ?_ | refine s_v (r_len rfl) ?_ | refine s_v (r_ex rfl) ?_ | refine s_v (r_fd rfl) ?_ | refine s_v (r_rem rfl rfl (by omega) (by omega)) ?_ | refine s_v (r_cvi rfl rfl rfl (wrap_in (by omega))) ?_ | refine s_v (r_cv rfl) ?_ | refine s_v (r_peq rfl rfl rfl) ?_ | refine s_v (r_pne rfl rfl rfl) ?_ | refine s_v (r_min rfl rfl) ?_ | refine s_v (r_max rfl rfl) ?_ | refine s_v (r_bd rfl) ?_ | refine s_v (r_pt rfl rfl) ?_ | refine s_v (r_pf rfl rfl) ?_))
      refine c_eq rfl (fun hk => ?_) (fun hk => ?_)
      · subst hk
        have hall : allT (B s) = (ts ++ [(0, ((a + n : Nat) : Int), ((a + n + m : Nat) : Int))], 0, 0) := by
          rw [allT, if_neg (by omega), hlen, hR, hals]; rfl
        (repeat (first | refine k_nil ?_ | refine k_n ?_ | refine k_r ?_ | refine k_x ?_ | refine b_n ?_ | refine b_r ?_ | refine b_y rfl ?_ | refine b_z rfl ?_ | refine l_r ?_ | refine l_x ?_ | refine k_seq ?_ | refine k_blk ?_ | refine k_reg ?_ | refine k_ret ?_ | refine k_exit ?_ | refine k_skip ?_ | refine s_v (r_mv rfl) ?_ | refine s_v (r_as rfl) ?_ | refine s_v (r_add rfl rfl (by omega)) ?_ | refine s_v (r_sub rfl rfl (by omega)) ?_ | refine s_v (r_mul rfl rfl (by omega)) ?_ | refine s_v (r_bin rfl) ?_ | refine s_v (r_fa rfl rfl) ?_ | refine s_v (r_ld rfl rfl (by first | assumption | exact cell_of_blk (by assumption) (by rfl))) ?_ | refine s_v (r_nc rfl) ?_ | refine s_v (r_not rfl) ?_ | refine s_v (r_mf rfl rfl) ?_ | refine s_v (r_len rfl) ?_ | refine s_v (r_ex rfl) ?_ | refine s_v (r_fd rfl) ?_ | refine s_v (r_rem rfl rfl (by omega) (by omega)) ?_ | refine s_v (r_cvi rfl rfl rfl (wrap_in (by omega))) ?_ | refine s_v (r_cv rfl) ?_ | refine s_v (r_peq rfl rfl rfl) ?_ | refine s_v (r_pne rfl rfl rfl) ?_ | refine s_v (r_min rfl rfl) ?_ | refine s_v (r_max rfl rfl) ?_ | refine s_v (r_bd rfl) ?_ | refine s_v (r_pt rfl rfl) ?_ | refine s_v (r_pf rfl rfl) ?_))
        refine ret_3 rfl rfl rfl rfl ⟨.slice a6' (ts.length + 1) c6, by rw [hall], ?_, k6⟩
        rw [hall]
        exact own6
      · have hm := hpos rfl hk
        (repeat (first | refine k_nil ?_ | refine k_n ?_ | refine k_r ?_ | refine k_x ?_ | refine b_n ?_ | refine b_r ?_ | refine b_y rfl ?_ | refine b_z rfl ?_ | refine l_r ?_ | refine l_x ?_ | refine k_seq ?_ | refine k_blk ?_ | refine k_reg ?_ | refine k_ret ?_ | refine k_exit ?_ | refine k_skip ?_ | refine s_v (r_mv rfl) ?_ | refine s_v (r_as rfl) ?_ | refine s_v (r_add rfl rfl (by omega)) ?_ | refine s_v (r_sub rfl rfl (by omega)) ?_ | refine s_v (r_mul rfl rfl (by omega)) ?_ | refine s_v (r_bin rfl) ?_ | refine s_v (r_fa rfl rfl) ?_ | refine s_v (r_ld rfl rfl (by first | assumption | exact cell_of_blk (by assumption) (by rfl))) ?_ | refine s_v (r_nc rfl) ?_ | refine s_v (r_not rfl) ?_ | refine s_v (r_mf rfl rfl) ?_ | refine s_v (r_len rfl) ?_ | refine s_v (r_ex rfl) ?_ | refine s_v (r_fd rfl) ?_ | refine s_v (r_rem rfl rfl (by omega) (by omega)) ?_ | refine s_v (r_cvi rfl rfl rfl (wrap_in (by omega))) ?_ | refine s_v (r_cv rfl) ?_ | refine s_v (r_peq rfl rfl rfl) ?_ | refine s_v (r_pne rfl rfl rfl) ?_ | refine s_v (r_min rfl rfl) ?_ | refine s_v (r_max rfl rfl) ?_ | refine s_v (r_bd rfl) ?_ | refine s_v (r_pt rfl rfl) ?_ | refine s_v (r_pf rfl rfl) ?_))
        refine l_next (a + n + m, .slice a6' (ts.length + 1) c6, ts ++ [(k, ((a + n : Nat) : Int), ((a + n + m : Nat) : Int))], s.size - (a + n + m) + 1) ⟨rfl, rfl, rfl, trivial⟩
          ⟨by show a + n + m ≤ s.size; omega, rfl, own6, by simp only [List.length_append, List.length_singleton]; omega, k6, g, by show s.size - (a + n + m) + 1 ≤ g; omega, ?_⟩ (by show s.size - (a + n + m) + 1 < s.size - a + 1; omega)
        show R = (ts ++ [(k, ((a + n : Nat) : Int), ((a + n + m : Nat) : Int))] ++ (als g (a + n + m) ((B s).drop (a + n + m))).1, (als g (a + n + m) ((B s).drop (a + n + m))).2)
        rw [hals]
        simp only [if_true, if_neg hk, List.drop_drop]
        rw [show a + (n + m) = a + n + m from by omega]
        simp
set_option maxHeartbeats 1000000 in
theorem rAll (s : ByteArray) (w : World) (hs : s.size ≤ 1000000) :
    Ret Tryd.prog 35 [.string s] w fun v w1 => ∃ u, v = .tuple #[u, .int .i64 (allT (B s)).2.1, .int .i64 (allT (B s)).2.2] ∧ w1.ownsRow w.heap.size 69 3 u (allT (B s)).1.length (tc (allT (B s)).1) ∧ Kp No w w1 := by
  have hlen := B_len s
  refine ret_enter Tryd.func35 rfl Tryd.ntmps35 rfl ?_
  (repeat (first | refine k_nil ?_ | refine k_n ?_ | refine k_r ?_ | refine k_x ?_ | refine b_n ?_ | refine b_r ?_ | refine b_y rfl ?_ | refine b_z rfl ?_ | refine l_r ?_ | refine l_x ?_ | refine k_seq ?_ | refine k_blk ?_ | refine k_reg ?_ | refine k_ret ?_ | refine k_exit ?_ | refine k_skip ?_ | refine s_v (r_mv rfl) ?_ | refine s_v (r_as rfl) ?_ | refine s_v (r_add rfl rfl (by omega)) ?_ | refine s_v (r_sub rfl rfl (by omega)) ?_ | refine s_v (r_mul rfl rfl (by omega)) ?_ | refine s_v (r_bin rfl) ?_ | refine s_v (r_fa rfl rfl) ?_ | refine s_v (r_ld rfl rfl (by first | assumption | exact cell_of_blk (by assumption) (by rfl))) ?_ | refine s_v (r_nc rfl) ?_ | refine s_v (r_not rfl) ?_ | refine s_v (r_mf rfl rfl) ?_ | refine s_v (r_len rfl) ?_ | refine s_v (r_ex rfl) ?_ | refine s_v (r_fd rfl) ?_ | refine s_v (r_rem rfl rfl (by omega) (by omega)) ?_ | refine s_v (r_cvi rfl rfl rfl (wrap_in (by omega))) ?_ | refine s_v (r_cv rfl) ?_ | refine s_v (r_peq rfl rfl rfl) ?_ | refine s_v (r_pne rfl rfl rfl) ?_ | refine s_v (r_min rfl rfl) ?_ | refine s_v (r_max rfl rfl) ?_ | refine s_v (r_bd rfl) ?_ | refine s_v (r_pt rfl rfl) ?_ | refine s_v (r_pf rfl rfl) ?_))
  refine c_dec rfl (fun hbig => ?_) (fun hsm => ?_)
  · have hall : allT (B s) = ([], 0, 1) := by rw [allT, if_pos (by omega)]
    (repeat (first | refine k_nil ?_ | refine k_n ?_ | refine k_r ?_ | refine k_x ?_ | refine b_n ?_ | refine b_r ?_ | refine b_y rfl ?_ | refine b_z rfl ?_ | refine l_r ?_ | refine l_x ?_ | refine k_seq ?_ | refine k_blk ?_ | refine k_reg ?_ | refine k_ret ?_ | refine k_exit ?_ | refine k_skip ?_ | refine s_v (r_mv rfl) ?_ | refine s_v (r_as rfl) ?_ | refine s_v (r_add rfl rfl (by omega)) ?_ | refine s_v (r_sub rfl rfl (by omega)) ?_ | refine s_v (r_mul rfl rfl (by omega)) ?_ | refine s_v (r_bin rfl) ?_ | refine s_v (r_fa rfl rfl) ?_ | refine s_v (r_ld rfl rfl (by first | assumption | exact cell_of_blk (by assumption) (by rfl))) ?_ | refine s_v (r_nc rfl) ?_ | refine s_v (r_not rfl) ?_ | refine s_v (r_mf rfl rfl) ?_ | refine s_v (r_len rfl) ?_ | refine s_v (r_ex rfl) ?_ | refine s_v (r_fd rfl) ?_ | refine s_v (r_rem rfl rfl (by omega) (by omega)) ?_ | refine s_v (r_cvi rfl rfl rfl (wrap_in (by omega))) ?_ | refine s_v (r_cv rfl) ?_ | refine s_v (r_peq rfl rfl rfl) ?_ | refine s_v (r_pne rfl rfl rfl) ?_ | refine s_v (r_min rfl rfl) ?_ | refine s_v (r_max rfl rfl) ?_ | refine s_v (r_bd rfl) ?_ | refine s_v (r_pt rfl rfl) ?_ | refine s_v (r_pf rfl rfl) ?_))
    refine ret_3 rfl rfl rfl rfl ⟨.slice none 0 0, by rw [hall], ?_, Kp.refl _ _⟩
    rw [hall]
    exact ⟨by simp [tc], .inl ⟨rfl, rfl⟩⟩
  · obtain ⟨R, hR⟩ : ∃ R, als (s.size + 1) 0 (B s) = R := ⟨_, rfl⟩
    (repeat (first | refine k_nil ?_ | refine k_n ?_ | refine k_r ?_ | refine k_x ?_ | refine b_n ?_ | refine b_r ?_ | refine b_y rfl ?_ | refine b_z rfl ?_ | refine l_r ?_ | refine l_x ?_ | refine k_seq ?_ | refine k_blk ?_ | refine k_reg ?_ | refine k_ret ?_ | refine k_exit ?_ | refine k_skip ?_ | refine s_v (r_mv rfl) ?_ | refine s_v (r_as rfl) ?_ | refine s_v (r_add rfl rfl (by omega)) ?_ | refine s_v (r_sub rfl rfl (by omega)) ?_ | refine s_v (r_mul rfl rfl (by omega)) ?_ | refine s_v (r_bin rfl) ?_ | refine s_v (r_fa rfl rfl) ?_ | refine s_v (r_ld rfl rfl (by first | assumption | exact cell_of_blk (by assumption) (by rfl))) ?_ | refine s_v (r_nc rfl) ?_ | refine s_v (r_not rfl) ?_ | refine s_v (r_mf rfl rfl) ?_ | refine s_v (r_len rfl) ?_ | refine s_v (r_ex rfl) ?_ | refine s_v (r_fd rfl) ?_ | refine s_v (r_rem rfl rfl (by omega) (by omega)) ?_ | refine s_v (r_cvi rfl rfl rfl (wrap_in (by omega))) ?_ | refine s_v (r_cv rfl) ?_ | refine s_v (r_peq rfl rfl rfl) ?_ | refine s_v (r_pne rfl rfl rfl) ?_ | refine s_v (r_min rfl rfl) ?_ | refine s_v (r_max rfl rfl) ?_ | refine s_v (r_bd rfl) ?_ | refine s_v (r_pt rfl rfl) ?_ | refine s_v (r_pf rfl rfl) ?_))
    refine k_loop (σ := Nat × Value × List T3 × Nat) (fun t => [(0, .string s), (5, t.2.1), (6, .int .i64 t.1)])
      (fun t w' => t.1 ≤ s.size ∧ t.2.2.2 = s.size - t.1 + 1 ∧ w'.ownsRow w.heap.size 69 3 t.2.1 t.2.2.1.length (tc t.2.2.1) ∧ t.2.2.1.length ≤ t.1 ∧ Kp No w w' ∧
        (∃ f', s.size - t.1 + 1 ≤ f' ∧ R = (t.2.2.1 ++ (als f' t.1 ((B s).drop t.1)).1, (als f' t.1 ((B s).drop t.1)).2))) (fun t => s.size - t.1 + 1) (0, .slice none 0 0, [], s.size + 1) ⟨rfl, rfl, rfl, trivial⟩
      ⟨Nat.zero_le _, by simp, ⟨by simp [tc], .inl ⟨rfl, rfl⟩⟩, by simp, Kp.refl _ _, s.size + 1, by simp, by simp [hR]⟩ ?_
    rintro ⟨a, v, ts, fu⟩ l w1 ⟨ha, hfu, hown, htl, k1, f', hf', hals⟩
    simp only at ha hfu hown htl k1 hf' hals
    dsimp only
    have hnl := nx_le ((B s).drop a)
    rw [List.length_drop, B_len] at hnl
    obtain ⟨g, rfl⟩ : ∃ g, f' = g + 1 := ⟨f' - 1, by omega⟩
    obtain ⟨ok, k, n, m, hnx⟩ : ∃ ok k n m, nx ((B s).drop a) = ⟨ok, k, n, m⟩ := ⟨_, _, _, _, rfl⟩
    have hpos : ok = true → k ≠ 0 → 0 < m := fun h hk => by have := nx_pos (L := (B s).drop a) (by rw [hnx]; exact h) (by rw [hnx]; exact hk); rw [hnx] at this; exact this
    rw [hnx] at hnl
    simp only at hnl
    rw [als, hnx] at hals
    simp only at hals
    obtain ⟨av, cv, rfl, _, _, _⟩ := own_read hown
    (repeat (first | refine k_nil ?_ | refine k_n ?_ | refine k_r ?_ | refine k_x ?_ | refine b_n ?_ | refine b_r ?_ | refine b_y rfl ?_ | refine b_z rfl ?_ | refine l_r ?_ | refine l_x ?_ | refine k_seq ?_ | refine k_blk ?_ | refine k_reg ?_ | refine k_ret ?_ | refine k_exit ?_ | refine k_skip ?_ | refine s_v (r_mv rfl) ?_ | refine s_v (r_as rfl) ?_ | refine s_v (r_add rfl rfl (by omega)) ?_ | refine s_v (r_sub rfl rfl (by omega)) ?_ | refine s_v (r_mul rfl rfl (by omega)) ?_ | refine s_v (r_bin rfl) ?_ | refine s_v (r_fa rfl rfl) ?_ | refine s_v (r_ld rfl rfl (by first | assumption | exact cell_of_blk (by assumption) (by rfl))) ?_ | refine s_v (r_nc rfl) ?_ | refine s_v (r_not rfl) ?_ | refine s_v (r_mf rfl rfl) ?_ | refine s_v (r_len rfl) ?_ | refine s_v (r_ex rfl) ?_ | refine s_v (r_fd rfl) ?_ | refine s_v (r_rem rfl rfl (by omega) (by omega)) ?_ | refine s_v (r_cvi rfl rfl rfl (wrap_in (by omega))) ?_ | refine s_v (r_cv rfl) ?_ | refine s_v (r_peq rfl rfl rfl) ?_ | refine s_v (r_pne rfl rfl rfl) ?_ | refine s_v (r_min rfl rfl) ?_ | refine s_v (r_max rfl rfl) ?_ | refine s_v (r_bd rfl) ?_ | refine s_v (r_pt rfl rfl) ?_ | refine s_v (r_pf rfl rfl) ?_))
    refine s_call (us := []) (zs := []) (by kernel_rfl) rfl rfl (rNext s a w1 hs ha) ?_
    rintro _ w2 ⟨rfl, k2⟩
    rw [nxV, tokV, hnx]
    (repeat (first | refine k_nil ?_ | refine k_n ?_ | refine k_r ?_ | refine k_x ?_ | refine b_n ?_ | refine b_r ?_ | refine b_y rfl ?_ | refine b_z rfl ?_ | refine l_r ?_ | refine l_x ?_ | refine k_seq ?_ | refine k_blk ?_ | refine k_reg ?_ | refine k_ret ?_ | refine k_exit ?_ | refine k_skip ?_ | refine s_v (r_mv rfl) ?_ | refine s_v (r_as rfl) ?_ | refine s_v (r_add rfl rfl (by omega)) ?_ | refine s_v (r_sub rfl rfl (by omega)) ?_ | refine s_v (r_mul rfl rfl (by omega)) ?_ | refine s_v (r_bin rfl) ?_ | refine s_v (r_fa rfl rfl) ?_ | refine s_v (r_ld rfl rfl (by first | assumption | exact cell_of_blk (by assumption) (by rfl))) ?_ | refine s_v (r_nc rfl) ?_ | refine s_v (r_not rfl) ?_ | refine s_v (r_mf rfl rfl) ?_ | refine s_v (r_len rfl) ?_ | refine s_v (r_ex rfl) ?_ | refine s_v (r_fd rfl) ?_ | refine s_v (r_rem rfl rfl (by omega) (by omega)) ?_ | refine s_v (r_cvi rfl rfl rfl (wrap_in (by omega))) ?_ | refine s_v (r_cv rfl) ?_ | refine s_v (r_peq rfl rfl rfl) ?_ | refine s_v (r_pne rfl rfl rfl) ?_ | refine s_v (r_min rfl rfl) ?_ | refine s_v (r_max rfl rfl) ?_ | refine s_v (r_bd rfl) ?_ | refine s_v (r_pt rfl rfl) ?_ | refine s_v (r_pf rfl rfl) ?_))
    refine s_al rfl (fun b7 w3 n3 => ?_)
    refine s_st rfl rfl rfl rfl rfl n3.blk (Nat.le_of_ble_eq_true rfl) (fun w4 s4 => ?_)
    have y3 := n3.ge
    have z2 := k2.size
    have z3 := n3.kp.size
    have z4 := s4.sz
    have z1 := k1.size
    have hb7 := s4.blk
    have k4 : Kp No w1 w4 := (k2.no n3.kp).trans s4.kp (fun _ _ e => by omega)
    have kw4 := k1.no k4
    have own4 := own_kp hown k4 (fun _ _ => id)
    (repeat (first | refine k_nil ?_ | refine k_n ?_ | refine k_r ?_ | refine k_x ?_ | refine b_n ?_ | refine b_r ?_ | refine b_y rfl ?_ | refine b_z rfl ?_ | refine l_r ?_ | refine l_x ?_ | refine k_seq ?_ | refine k_blk ?_ | refine k_reg ?_ | refine k_ret ?_ | refine k_exit ?_ | refine k_skip ?_ | refine s_v (r_mv rfl) ?_ | refine s_v (r_as rfl) ?_ | refine s_v (r_add rfl rfl (by omega)) ?_ | refine s_v (r_sub rfl rfl (by omega)) ?_ | refine s_v (r_mul rfl rfl (by omega)) ?_ | refine s_v (r_bin rfl) ?_ | refine s_v (r_fa rfl rfl) ?_ | refine s_v (r_ld rfl rfl (by first | assumption | exact cell_of_blk (by assumption) (by rfl))) ?_ | refine s_v (r_nc rfl) ?_ | refine s_v (r_not rfl) ?_ | refine s_v (r_mf rfl rfl) ?_ | refine s_v (r_len rfl) ?_ | refine s_v (r_ex rfl) ?_ | refine s_v (r_fd rfl) ?_ | refine s_v (r_rem rfl rfl (by omega) (by omega)) ?_ | refine s_v (r_cvi rfl rfl rfl (wrap_in (by omega))) ?_ | refine s_v (r_cv rfl) ?_ | refine s_v (r_peq rfl rfl rfl) ?_ | refine s_v (r_pne rfl rfl rfl) ?_ | refine s_v (r_min rfl rfl) ?_ | refine s_v (r_max rfl rfl) ?_ | refine s_v (r_bd rfl) ?_ | refine s_v (r_pt rfl rfl) ?_ | refine s_v (r_pf rfl rfl) ?_))
    cases ok with
    | false =>
      refine k_re 19 (v' := .bool true) rfl rfl ?_
      refine c_t rfl ?_
      have hall : allT (B s) = ([], ((a + n : Nat) : Int), 2) := by
        rw [allT, if_neg (by omega), hlen, hR, hals]; rfl
      (repeat (first | refine k_nil ?_ | refine k_n ?_ | refine k_r ?_ | refine k_x ?_ | refine b_n ?_ | refine b_r ?_ | refine b_y rfl ?_ | refine b_z rfl ?_ | refine l_r ?_ | refine l_x ?_ | refine k_seq ?_ | refine k_blk ?_ | refine k_reg ?_ | refine k_ret ?_ | refine k_exit ?_ | refine k_skip ?_ | refine s_v (r_mv rfl) ?_ | refine s_v (r_as rfl) ?_ | refine s_v (r_add rfl rfl (by omega)) ?_ | refine s_v (r_sub rfl rfl (by omega)) ?_ | refine s_v (r_mul rfl rfl (by omega)) ?_ | refine s_v (r_bin rfl) ?_ | refine s_v (r_fa rfl rfl) ?_ | refine s_v (r_ld rfl rfl (by first | assumption | exact cell_of_blk (by assumption) (by rfl))) ?_ | refine s_v (r_nc rfl) ?_ | refine s_v (r_not rfl) ?_ | refine s_v (r_mf rfl rfl) ?_ | refine s_v (r_len rfl) ?_ | refine s_v (r_ex rfl) ?_ | refine s_v (r_fd rfl) ?_ | refine s_v (r_rem rfl rfl (by omega) (by omega)) ?_ | refine s_v (r_cvi rfl rfl rfl (wrap_in (by omega))) ?_ | refine s_v (r_cv rfl) ?_ | refine s_v (r_peq rfl rfl rfl) ?_ | refine s_v (r_pne rfl rfl rfl) ?_ | refine s_v (r_min rfl rfl) ?_ | refine s_v (r_max rfl rfl) ?_ | refine s_v (r_bd rfl) ?_ | refine s_v (r_pt rfl rfl) ?_ | refine s_v (r_pf rfl rfl) ?_))
      refine k_q (by kernel_rfl) (by kernel_rfl) ?_
      refine q_v (fun w' hw => r_fa rfl rfl) ?_
      refine q_v (fun w' hw => r_fa rfl rfl) ?_
      refine q_v (fun w' hw => r_ld rfl rfl (cell_of_blk (hw.get0 hb7) (by rfl))) ?_
      refine q_v (fun w' hw => r_mv rfl) ?_
      refine q_v (fun w' hw => r_as rfl) ?_
      refine q_v (fun w' hw => r_as rfl) ?_
      refine q_v (fun w' hw => r_as rfl) ?_
      refine q_nil (fun w5 k5 => ?_)
      (repeat (first | refine k_nil ?_ | refine k_n ?_ | refine k_r ?_ | refine k_x ?_ | refine b_n ?_ | refine b_r ?_ | refine b_y rfl ?_ | refine b_z rfl ?_ | refine l_r ?_ | refine l_x ?_ | refine k_seq ?_ | refine k_blk ?_ | refine k_reg ?_ | refine k_ret ?_ | refine k_exit ?_ | refine k_skip ?_ | refine s_v (r_mv rfl) ?_ | refine s_v (r_as rfl) ?_ | refine s_v (r_add rfl rfl (by omega)) ?_ | refine s_v (r_sub rfl rfl (by omega)) ?_ | refine s_v (r_mul rfl rfl (by omega)) ?_ | refine s_v (r_bin rfl) ?_ | refine s_v (r_fa rfl rfl) ?_ | refine s_v (r_ld rfl rfl (by first | assumption | exact cell_of_blk (by assumption) (by rfl))) ?_ | refine s_v (r_nc rfl) ?_ | refine s_v (r_not rfl) ?_ | refine s_v (r_mf rfl rfl) ?_ | refine s_v (r_len rfl) ?_ | refine s_v (r_ex rfl) ?_ | refine s_v (r_fd rfl) ?_ | refine s_v (r_rem rfl rfl (by omega) (by omega)) ?_ | refine s_v (r_cvi rfl rfl rfl (wrap_in (by omega))) ?_ | refine s_v (r_cv rfl) ?_ | refine s_v (r_peq rfl rfl rfl) ?_ | refine s_v (r_pne rfl rfl rfl) ?_ | refine s_v (r_min rfl rfl) ?_ | refine s_v (r_max rfl rfl) ?_ | refine s_v (r_bd rfl) ?_ | refine s_v (r_pt rfl rfl) ?_ | refine s_v (r_pf rfl rfl) ?_))
      refine ret_3 rfl rfl rfl rfl ⟨.slice none 0 0, by rw [hall]; rfl, ?_, kw4.no k5⟩
      rw [hall]
      exact ⟨by simp [tc], .inl ⟨rfl, rfl⟩⟩
    | true =>
      refine k_re 19 (v' := .bool false) rfl rfl ?_
      refine c_f rfl ?_
      (repeat (first | refine k_nil ?_ | refine k_n ?_ | refine k_r ?_ | refine k_x ?_ | refine b_n ?_ | refine b_r ?_ | refine b_y rfl ?_ | refine b_z rfl ?_ | refine l_r ?_ | refine l_x ?_ | refine k_seq ?_ | refine k_blk ?_ | refine k_reg ?_ | refine k_ret ?_ | refine k_exit ?_ | refine k_skip ?_ | refine s_v (r_mv rfl) ?_ | refine s_v (r_as rfl) ?_ | refine s_v (r_add rfl rfl (by omega)) ?_ | refine s_v (r_sub rfl rfl (by omega)) ?_ | refine s_v (r_mul rfl rfl (by omega)) ?_ | refine s_v (r_bin rfl) ?_ | refine s_v (r_fa rfl rfl) ?_ | refine s_v (r_ld rfl rfl (by first | assumption | exact cell_of_blk (by assumption) (by rfl))) ?_ | refine s_v (r_nc rfl) ?_ | refine s_v (r_not rfl) ?_ | refine s_v (r_mf rfl rfl) ?_ | refine s_v (r_len rfl) ?_ | refine s_v (r_ex rfl) ?_ | refine s_v (r_fd rfl) ?_ | refine s_v (r_rem rfl rfl (by omega) (by omega)) ?_ | refine s_v (r_cvi rfl rfl rfl (wrap_in (by omega))) ?_ | refine s_v (r_cv rfl) ?_ | refine s_v (r_peq rfl rfl rfl) ?_ | refine s_v (r_pne rfl rfl rfl) ?_ | refine s_v (r_min rfl rfl) ?_ | refine s_v (r_max rfl rfl) ?_ | refine s_v (r_bd rfl) ?_ | refine s_v (r_pt rfl rfl) ?_ | refine s_v (r_pf rfl rfl) ?_))
      refine s_v (r_ldb (vs := [.int .i64 k, .int .i64 ((a + n : Nat) : Int), .int .i64 ((a + n + m : Nat) : Int)]) rfl rfl rfl hb7 rfl rfl) ?_
      refine s_bs (cs := [.int .i64 k, .int .i64 ((a + n : Nat) : Int), .int .i64 ((a + n + m : Nat) : Int)]) rfl (fun b8 w5 n5 => ?_)
      have own5 := own_kp own4 n5.kp (fun _ _ => id)
      have z5 := n5.kp.size
      refine s_app (size := 3) (bytes := 24) (base := w.heap.size) (news := [.int .i64 k, .int .i64 ((a + n : Nat) : Int), .int .i64 ((a + n + m : Nat) : Int)]) rfl rfl rfl rfl rfl rfl rfl rfl own5 rfl (blk_cells n5.blk) rfl rfl (by omega) (by omega) (by omega) ?_
      intro v6 w6 a6
      have hbs : ∀ g, (Value.slice av ts.length cv).ownBlock = some g → w.heap.size ≤ g ∧ g < w1.heap.size := fun g e => own_lt hown e
      have hb7' := a6.kp.get (n5.kp.get0 hb7) (fun e => by have := hbs b7 e.symm; omega)
      have k6 : Kp No w w6 := (kw4.no n5.kp).trans a6.kp (fun i hi e => by have := hbs i e.symm; omega)
      have own6 : w6.ownsRow w.heap.size 69 3 v6 (ts ++ [(k, ((a + n : Nat) : Int), ((a + n + m : Nat) : Int))]).length (tc (ts ++ [(k, ((a + n : Nat) : Int), ((a + n + m : Nat) : Int))])) := by
        have := a6.own
        have e1 : tc (ts ++ [(k, ((a + n : Nat) : Int), ((a + n + m : Nat) : Int))]) = tc ts ++ [.int .i64 k, .int .i64 ((a + n : Nat) : Int), .int .i64 ((a + n + m : Nat) : Int)] := by simp [tc]
        rw [e1, List.length_append, List.length_singleton]
        exact this
      obtain ⟨a6', c6, rfl, _, _, _⟩ := own_read a6.own
      (repeat (first | refine k_nil ?_ | refine k_n ?_ | refine k_r ?_ | refine k_x ?_ | refine b_n ?_ | refine b_r ?_ | refine b_y rfl ?_ | refine b_z rfl ?_ | refine l_r ?_ | refine l_x ?_ | refine k_seq ?_ | refine k_blk ?_ | refine k_reg ?_ | refine k_ret ?_ | refine k_exit ?_ | refine k_skip ?_ | refine s_v (r_mv rfl) ?_ | refine s_v (r_as rfl) ?_ | refine s_v (r_add rfl rfl (by omega)) ?_ | refine s_v (r_sub rfl rfl (by omega)) ?_ | refine s_v (r_mul rfl rfl (by omega)) ?_ | refine s_v (r_bin rfl) ?_ | refine s_v (r_fa rfl rfl) ?_ | refine s_v (r_ld rfl rfl (by first | assumption | exact cell_of_blk (by assumption) (by rfl))) ?_ | refine s_v (r_nc rfl) ?_ | refine s_v (r_not rfl) ?_ | refine s_v (r_mf rfl rfl) ?_ | refine s_v (r_len rfl) ?_ | refine s_v (r_ex rfl) ?_ | refine s_v (r_fd rfl) ?_ | refine s_v (r_rem rfl rfl (by omega) (by omega)) ?_ | refine s_v (r_cvi rfl rfl rfl (wrap_in (by omega))) ?_ | refine s_v (r_cv rfl) ?_ | refine s_v (r_peq rfl rfl rfl) ?_ | refine s_v (r_pne rfl rfl rfl) ?_ | refine s_v (r_min rfl rfl) ?_ | refine s_v (r_max rfl rfl) ?_ | refine s_v (r_bd rfl) ?_ | refine s_v (r_pt rfl rfl) ?_ | refine s_v (r_pf rfl rfl) ?_))
      refine c_eq rfl (fun hk => ?_) (fun hk => ?_)
      · subst hk
        have hall : allT (B s) = (ts ++ [(0, ((a + n : Nat) : Int), ((a + n + m : Nat) : Int))], 0, 0) := by
          rw [allT, if_neg (by omega), hlen, hR, hals]; rfl
        (repeat (first | refine k_nil ?_ | refine k_n ?_ | refine k_r ?_ | refine k_x ?_ | refine b_n ?_ | refine b_r ?_ | refine b_y rfl ?_ | refine b_z rfl ?_ | refine l_r ?_ | refine l_x ?_ | refine k_seq ?_ | refine k_blk ?_ | refine k_reg ?_ | refine k_ret ?_ | refine k_exit ?_ | refine k_skip ?_ | refine s_v (r_mv rfl) ?_ | refine s_v (r_as rfl) ?_ | refine s_v (r_add rfl rfl (by omega)) ?_ | refine s_v (r_sub rfl rfl (by omega)) ?_ | refine s_v (r_mul rfl rfl (by omega)) ?_ | refine s_v (r_bin rfl) ?_ | refine s_v (r_fa rfl rfl) ?_ | refine s_v (r_ld rfl rfl (by first | assumption | exact cell_of_blk (by assumption) (by rfl))) ?_ | refine s_v (r_nc rfl) ?_ | refine s_v (r_not rfl) ?_ | refine s_v (r_mf rfl rfl) ?_ | refine s_v (r_len rfl) ?_ | refine s_v (r_ex rfl) ?_ | refine s_v (r_fd rfl) ?_ | refine s_v (r_rem rfl rfl (by omega) (by omega)) ?_ | refine s_v (r_cvi rfl rfl rfl (wrap_in (by omega))) ?_ | refine s_v (r_cv rfl) ?_ | refine s_v (r_peq rfl rfl rfl) ?_ | refine s_v (r_pne rfl rfl rfl) ?_ | refine s_v (r_min rfl rfl) ?_ | refine s_v (r_max rfl rfl) ?_ | refine s_v (r_bd rfl) ?_ | refine s_v (r_pt rfl rfl) ?_ | refine s_v (r_pf rfl rfl) ?_))
        refine ret_3 rfl rfl rfl rfl ⟨.slice a6' (ts.length + 1) c6, by rw [hall], ?_, k6⟩
        rw [hall]
        exact own6
      · have hm := hpos rfl hk
        (repeat (first | refine k_nil ?_ | refine k_n ?_ | refine k_r ?_ | refine k_x ?_ | refine b_n ?_ | refine b_r ?_ | refine b_y rfl ?_ | refine b_z rfl ?_ | refine l_r ?_ | refine l_x ?_ | refine k_seq ?_ | refine k_blk ?_ | refine k_reg ?_ | refine k_ret ?_ | refine k_exit ?_ | refine k_skip ?_ | refine s_v (r_mv rfl) ?_ | refine s_v (r_as rfl) ?_ | refine s_v (r_add rfl rfl (by omega)) ?_ | refine s_v (r_sub rfl rfl (by omega)) ?_ | refine s_v (r_mul rfl rfl (by omega)) ?_ | refine s_v (r_bin rfl) ?_ | refine s_v (r_fa rfl rfl) ?_ | refine s_v (r_ld rfl rfl (by first | assumption | exact cell_of_blk (by assumption) (by rfl))) ?_ | refine s_v (r_nc rfl) ?_ | refine s_v (r_not rfl) ?_ | refine s_v (r_mf rfl rfl) ?_ | refine s_v (r_len rfl) ?_ | refine s_v (r_ex rfl) ?_ | refine s_v (r_fd rfl) ?_ | refine s_v (r_rem rfl rfl (by omega) (by omega)) ?_ | refine s_v (r_cvi rfl rfl rfl (wrap_in (by omega))) ?_ | refine s_v (r_cv rfl) ?_ | refine s_v (r_peq rfl rfl rfl) ?_ | refine s_v (r_pne rfl rfl rfl) ?_ | refine s_v (r_min rfl rfl) ?_ | refine s_v (r_max rfl rfl) ?_ | refine s_v (r_bd rfl) ?_ | refine s_v (r_pt rfl rfl) ?_ | refine s_v (r_pf rfl rfl) ?_))
        refine l_next (a + n + m, .slice a6' (ts.length + 1) c6, ts ++ [(k, ((a + n : Nat) : Int), ((a + n + m : Nat) : Int))], s.size - (a + n + m) + 1) ⟨rfl, rfl, rfl, trivial⟩
          ⟨by show a + n + m ≤ s.size; omega, rfl, own6, by simp only [List.length_append, List.length_singleton]; omega, k6, g, by show s.size - (a + n + m) + 1 ≤ g; omega, ?_⟩ (by show s.size - (a + n + m) + 1 < s.size - a + 1; omega)
        show R = (ts ++ [(k, ((a + n : Nat) : Int), ((a + n + m : Nat) : Int))] ++ (als g (a + n + m) ((B s).drop (a + n + m))).1, (als g (a + n + m) ((B s).drop (a + n + m))).2)
        rw [hals]
        simp only [if_true, if_neg hk, List.drop_drop]
        rw [show a + (n + m) = a + n + m from by omega]
        simp
end Tk
end Go.Proofs.YtlkipdfipaipbaaDoor
