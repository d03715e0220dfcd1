/- Pages: a text's lines, as an iterator. -/
import Derived.Test.YtimgapkngjkagaaDoorPq
namespace Go.Proofs.YtimgapkngjkagaaDoor
open Go Go.RowKit Fw Sp Pp
set_option linter.unusedVariables false
set_option maxRecDepth 20000
namespace Pg
/-- The lines, as yield gets them. -/
def lns (L : List Int) : List (List Value) := (spl 10 L).mapIdx fun k p => [.int .i64 ((k : Int) + 1), .string (strOfNums p)]
theorem lns_len (L : List Int) : (lns L).length = (spl 10 L).length := by simp [lns]
theorem lns_get {L : List Int} {i : Nat} {p : List Int} (h : (spl 10 L)[i]? = some p) : (lns L)[i]? = some [.int .i64 ((i : Int) + 1), .string (strOfNums p)] := by
  rw [lns, List.getElem?_mapIdx, h]; rfl
theorem LinesF (s : ByteArray) (w : World) : Ret Tryd.prog 9 [.string s] w fun v w1 => ∃ bx, v = .func (.func 14) #[] #[.pointer (some ⟨bx, 0, none⟩)] ∧ Nb w bx [.string s] 9 w1 := by
  refine ret_enter Tryd.func9 rfl Tryd.ntmps9 rfl ?_
  (repeat (first | refine k_nil ?_ | refine k_n ?_ | refine k_r ?_ | refine k_x ?_ | refine b_n ?_ | refine b_r ?_ | refine b_y rfl ?_ | refine b_z rfl ?_ | refine l_r ?_ | refine l_x ?_ | refine k_seq ?_ | refine k_blk ?_ | refine k_reg ?_ | refine k_ret ?_ | refine k_exit ?_ | refine k_skip ?_ | refine s_v (r_mv rfl) ?_ | refine s_v (r_as rfl) ?_ | refine s_v (r_add rfl rfl (by omega)) ?_ | refine s_v (r_sub rfl rfl (by omega)) ?_ | refine s_v (r_mul rfl rfl (by omega)) ?_ | refine s_v (r_bin rfl) ?_ | refine s_v (r_fa rfl rfl) ?_ | refine s_v (r_ld rfl rfl (by first | assumption | exact cell_of_blk (by assumption) (by rfl))) ?_ | refine s_v (r_nc rfl) ?_ | refine s_v (r_not rfl) ?_ | refine s_v (r_mf rfl rfl) ?_ | refine s_v (r_len rfl) ?_ | refine s_v (r_ex rfl) ?_ | refine s_v (r_fd rfl) ?_ | refine s_v (r_rem rfl rfl (by omega) (by omega)) ?_ | refine s_v (r_cvi rfl rfl rfl (wrap_in (by omega))) ?_ | refine s_v (r_cv rfl) ?_ | refine s_v (r_peq rfl rfl rfl) ?_ | refine s_v (r_pne rfl rfl rfl) ?_ | refine s_v (r_min rfl rfl) ?_ | refine s_v (r_max rfl rfl) ?_ | refine s_v (r_bd rfl) ?_ | refine s_v (r_pt rfl rfl) ?_ | refine s_v (r_pf rfl rfl) ?_))
  refine s_box rfl rfl (fun bx w1 n1 => ?_)
  (repeat (first | refine k_nil ?_ | refine k_n ?_ | refine k_r ?_ | refine k_x ?_ | refine b_n ?_ | refine b_r ?_ | refine b_y rfl ?_ | refine b_z rfl ?_ | refine l_r ?_ | refine l_x ?_ | refine k_seq ?_ | refine k_blk ?_ | refine k_reg ?_ | refine k_ret ?_ | refine k_exit ?_ | refine k_skip ?_ | refine s_v (r_mv rfl) ?_ | refine s_v (r_as rfl) ?_ | refine s_v (r_add rfl rfl (by omega)) ?_ | refine s_v (r_sub rfl rfl (by omega)) ?_ | refine s_v (r_mul rfl rfl (by omega)) ?_ | refine s_v (r_bin rfl) ?_ | refine s_v (r_fa rfl rfl) ?_ | refine s_v (r_ld rfl rfl (by first | assumption | exact cell_of_blk (by assumption) (by rfl))) ?_ | refine s_v (r_nc rfl) ?_ | refine s_v (r_not rfl) ?_ | refine s_v (r_mf rfl rfl) ?_ | refine s_v (r_len rfl) ?_ | refine s_v (r_ex rfl) ?_ | refine s_v (r_fd rfl) ?_ | refine s_v (r_rem rfl rfl (by omega) (by omega)) ?_ | refine s_v (r_cvi rfl rfl rfl (wrap_in (by omega))) ?_ | refine s_v (r_cv rfl) ?_ | refine s_v (r_peq rfl rfl rfl) ?_ | refine s_v (r_pne rfl rfl rfl) ?_ | refine s_v (r_min rfl rfl) ?_ | refine s_v (r_max rfl rfl) ?_ | refine s_v (r_bd rfl) ?_ | refine s_v (r_pt rfl rfl) ?_ | refine s_v (r_pf rfl rfl) ?_))
  exact ret_1 rfl rfl ⟨bx, rfl, n1⟩
theorem Yc_fn {P : Program} {yv : Value} {vs : List Value} {w : World} {R : Value → World → Prop} (h : Yc P yv vs w R) : ∃ f us zs, yv = .func f us zs := by
  rcases h with ⟨f, us, zs, e, _⟩ | ⟨L, e, _⟩
  · exact ⟨_, _, _, e⟩
  · exact ⟨_, _, _, e⟩
set_option maxHeartbeats 4000000 in
theorem linesItr (s : ByteArray) (bx : Nat) (w0 : World) (hs : s.size ≤ 1000) (hbx : w0.heap[bx]? = some (.cells [Value.string s].toArray 9 (0, 0))) :
    Itr Tryd.prog 14 [.pointer (some ⟨bx, 0, none⟩)] (fun k => k = bx) (lns (B s)) w0 := by
  refine ⟨fun yv J Jx S0 W hyv k0 hJ hJx hS0 hy hj0 => ?_⟩
  obtain ⟨f, us, zs, rfl⟩ : ∃ f us zs, yv = .func f us zs := by
    have h1 := List.length_pos_iff.2 (spl_ne 10 (B s))
    exact Yc_fn (hy 0 S0 W _ (lns_get (List.getElem?_eq_getElem h1)) hj0 (fun k hk => (hS0 k hk).1) (Kp.refl _ _))
  clear hyv
  refine ret_enterM Tryd.func14 rfl Tryd.ntmps14 rfl ?_
  have c0 := k0.get0 hbx
  have l0 := lt_of_get c0
  (repeat (first | refine k_nil ?_ | refine k_n ?_ | refine k_r ?_ | refine k_x ?_ | refine b_n ?_ | refine b_r ?_ | refine b_y rfl ?_ | refine b_z rfl ?_ | refine l_r ?_ | refine l_x ?_ | refine k_seq ?_ | refine k_blk ?_ | refine k_reg ?_ | refine k_ret ?_ | refine k_exit ?_ | refine k_skip ?_ | refine s_v (r_mv rfl) ?_ | refine s_v (r_as rfl) ?_ | refine s_v (r_add rfl rfl (by omega)) ?_ | refine s_v (r_sub rfl rfl (by omega)) ?_ | refine s_v (r_mul rfl rfl (by omega)) ?_ | refine s_v (r_bin rfl) ?_ | refine s_v (r_fa rfl rfl) ?_ | refine s_v (r_ld rfl rfl (by first | assumption | exact cell_of_blk (by assumption) (by rfl))) ?_ | refine s_v (r_nc rfl) ?_ | refine s_v (r_not rfl) ?_ | refine s_v (r_mf rfl rfl) ?_ | refine s_v (r_len rfl) ?_ | refine s_v (r_ex rfl) ?_ | refine s_v (r_fd rfl) ?_ | refine s_v (r_rem rfl rfl (by omega) (by omega)) ?_ | refine s_v (r_cvi rfl rfl rfl (wrap_in (by omega))) ?_ | refine s_v (r_cv rfl) ?_ | refine s_v (r_peq rfl rfl rfl) ?_ | refine s_v (r_pne rfl rfl rfl) ?_ | refine s_v (r_min rfl rfl) ?_ | refine s_v (r_max rfl rfl) ?_ | refine s_v (r_bd rfl) ?_ | refine s_v (r_pt rfl rfl) ?_ | refine s_v (r_pf rfl rfl) ?_))
  refine s_box rfl rfl (fun bb w1 n1 => ?_)
  have g1 := n1.ge
  have z1 := n1.kp.size
  have y1 := n1.lt
  (repeat (first | refine k_nil ?_ | refine k_n ?_ | refine k_r ?_ | refine k_x ?_ | refine b_n ?_ | refine b_r ?_ | refine b_y rfl ?_ | refine b_z rfl ?_ | refine l_r ?_ | refine l_x ?_ | refine k_seq ?_ | refine k_blk ?_ | refine k_reg ?_ | refine k_ret ?_ | refine k_exit ?_ | refine k_skip ?_ | refine s_v (r_mv rfl) ?_ | refine s_v (r_as rfl) ?_ | refine s_v (r_add rfl rfl (by omega)) ?_ | refine s_v (r_sub rfl rfl (by omega)) ?_ | refine s_v (r_mul rfl rfl (by omega)) ?_ | refine s_v (r_bin rfl) ?_ | refine s_v (r_fa rfl rfl) ?_ | refine s_v (r_ld rfl rfl (by first | assumption | exact cell_of_blk (by assumption) (by rfl))) ?_ | refine s_v (r_nc rfl) ?_ | refine s_v (r_not rfl) ?_ | refine s_v (r_mf rfl rfl) ?_ | refine s_v (r_len rfl) ?_ | refine s_v (r_ex rfl) ?_ | refine s_v (r_fd rfl) ?_ | refine s_v (r_rem rfl rfl (by omega) (by omega)) ?_ | refine s_v (r_cvi rfl rfl rfl (wrap_in (by omega))) ?_ | refine s_v (r_cv rfl) ?_ | refine s_v (r_peq rfl rfl rfl) ?_ | refine s_v (r_pne rfl rfl rfl) ?_ | refine s_v (r_min rfl rfl) ?_ | refine s_v (r_max rfl rfl) ?_ | refine s_v (r_bd rfl) ?_ | refine s_v (r_pt rfl rfl) ?_ | refine s_v (r_pf rfl rfl) ?_))
  refine s_al rfl (fun b3 w2 n2 => ?_)
  have g2 := n2.ge
  have z2 := n2.kp.size
  refine s_st rfl rfl rfl rfl rfl n2.blk (Nat.le_of_ble_eq_true rfl) (fun w3 s3 => ?_)
  have z3 := s3.sz
  have y2 := n2.lt
  have k23 : Kp No w1 w3 := n2.kp.trans s3.kp (fun _ _ e => by omega)
  have k3 : Kp No W w3 := n1.kp.no k23
  have c3 := k3.get0 c0
  have hbb := k23.get0 n1.blk
  (repeat (first | refine k_nil ?_ | refine k_n ?_ | refine k_r ?_ | refine k_x ?_ | refine b_n ?_ | refine b_r ?_ | refine b_y rfl ?_ | refine b_z rfl ?_ | refine l_r ?_ | refine l_x ?_ | refine k_seq ?_ | refine k_blk ?_ | refine k_reg ?_ | refine k_ret ?_ | refine k_exit ?_ | refine k_skip ?_ | refine s_v (r_mv rfl) ?_ | refine s_v (r_as rfl) ?_ | refine s_v (r_add rfl rfl (by omega)) ?_ | refine s_v (r_sub rfl rfl (by omega)) ?_ | refine s_v (r_mul rfl rfl (by omega)) ?_ | refine s_v (r_bin rfl) ?_ | refine s_v (r_fa rfl rfl) ?_ | refine s_v (r_ld rfl rfl (by first | assumption | exact cell_of_blk (by assumption) (by rfl))) ?_ | refine s_v (r_nc rfl) ?_ | refine s_v (r_not rfl) ?_ | refine s_v (r_mf rfl rfl) ?_ | refine s_v (r_len rfl) ?_ | refine s_v (r_ex rfl) ?_ | refine s_v (r_fd rfl) ?_ | refine s_v (r_rem rfl rfl (by omega) (by omega)) ?_ | refine s_v (r_cvi rfl rfl rfl (wrap_in (by omega))) ?_ | refine s_v (r_cv rfl) ?_ | refine s_v (r_peq rfl rfl rfl) ?_ | refine s_v (r_pne rfl rfl rfl) ?_ | refine s_v (r_min rfl rfl) ?_ | refine s_v (r_max rfl rfl) ?_ | refine s_v (r_bd rfl) ?_ | refine s_v (r_pt rfl rfl) ?_ | refine s_v (r_pf rfl rfl) ?_))
  refine s_call (us := []) (zs := []) (by kernel_rfl) rfl rfl (Ss.splitSeq s 10 w3 (by omega)) ?_
  rintro _ w4 ⟨k4, i0, i1, i2, rfl, hi, hit⟩
  have z4 := k4.size
  have kw4 := k3.no k4
  have hbb4 := k4.get0 hbb
  have hb34 := k4.get0 s3.blk
  have hlen : (Ss.prt ((10 : UInt8).toNat : Int) (B s)).length = (lns (B s)).length := by rw [lns_len]; simp only [Ss.prt, List.length_map]; rfl
  have hsl := spl_length 10 (B s)
  rw [B_len] at hsl
  (repeat (first | refine k_nil ?_ | refine k_n ?_ | refine k_r ?_ | refine k_x ?_ | refine b_n ?_ | refine b_r ?_ | refine b_y rfl ?_ | refine b_z rfl ?_ | refine l_r ?_ | refine l_x ?_ | refine k_seq ?_ | refine k_blk ?_ | refine k_reg ?_ | refine k_ret ?_ | refine k_exit ?_ | refine k_skip ?_ | refine s_v (r_mv rfl) ?_ | refine s_v (r_as rfl) ?_ | refine s_v (r_add rfl rfl (by omega)) ?_ | refine s_v (r_sub rfl rfl (by omega)) ?_ | refine s_v (r_mul rfl rfl (by omega)) ?_ | refine s_v (r_bin rfl) ?_ | refine s_v (r_fa rfl rfl) ?_ | refine s_v (r_ld rfl rfl (by first | assumption | exact cell_of_blk (by assumption) (by rfl))) ?_ | refine s_v (r_nc rfl) ?_ | refine s_v (r_not rfl) ?_ | refine s_v (r_mf rfl rfl) ?_ | refine s_v (r_len rfl) ?_ | refine s_v (r_ex rfl) ?_ | refine s_v (r_fd rfl) ?_ | refine s_v (r_rem rfl rfl (by omega) (by omega)) ?_ | refine s_v (r_cvi rfl rfl rfl (wrap_in (by omega))) ?_ | refine s_v (r_cv rfl) ?_ | refine s_v (r_peq rfl rfl rfl) ?_ | refine s_v (r_pne rfl rfl rfl) ?_ | refine s_v (r_min rfl rfl) ?_ | refine s_v (r_max rfl rfl) ?_ | refine s_v (r_bd rfl) ?_ | refine s_v (r_pt rfl rfl) ?_ | refine s_v (r_pf rfl rfl) ?_))
  refine k_range (gf := 23) (lb := [.pointer (some ⟨i1, 0, none⟩), .pointer (some ⟨i0, 0, none⟩), .pointer (some ⟨i2, 0, none⟩)]) (S0 := fun k => S0 k ∨ k = b3) (ps := [7]) rfl (by kernel_rfl) hit
    (fun i S a => ∃ S1, (∀ k, S k ↔ S1 k ∨ k = b3) ∧ ¬ S1 b3 ∧ J i S1 a ∧ (∀ k, S0 k → S1 k) ∧ (∀ k, S1 k → S0 k ∨ (W.heap.size ≤ k ∧ k < a.heap.size)) ∧ a.heap[b3]? = some (.cells [Value.int .i64 (i : Int)].toArray 3 (0, 0)))
    (fun c i S a => c = .ret ∧ ∃ S1, (∀ k, S k ↔ S1 k ∨ k = b3) ∧ Jx i S1 a ∧ (∀ k, S0 k → S1 k) ∧ (∀ k, S1 k → S0 k ∨ (W.heap.size ≤ k ∧ k < a.heap.size)))
    ?_ ?_ ?_ ?_ ?_ ?_ ?_ ?_ ?_ ?_
  · rintro i S a b ⟨S1, h1, h2, hj, h3, h4, h5⟩ hk
    exact ⟨S1, h1, h2, hJ _ _ _ _ hj (hk.mono fun k _ h h' => h ((h1 k).2 (.inl h'))), h3, fun k hk' => (h4 k hk').imp_right fun ⟨h, h'⟩ => ⟨h, Nat.lt_of_lt_of_le h' hk.size⟩, hk.get h5 (fun h => h ((h1 _).2 (.inr rfl)))⟩
  · rintro c i S a b ⟨rfl, S1, h1, hj, h3, h4⟩ hk
    exact ⟨rfl, S1, h1, hJx _ _ _ _ hj (hk.mono fun k _ h h' => h ((h1 k).2 (.inl h'))), h3, fun k hk' => (h4 k hk').imp_right fun ⟨h, h'⟩ => ⟨h, Nat.lt_of_lt_of_le h' hk.size⟩⟩
  · intro k hk
    exact (hi k hk).2
  · rintro k (h | rfl)
    · have := (hS0 k h).1
      exact ⟨by omega, fun h => by have := hi _ h; omega⟩
    · exact ⟨by omega, fun h => by have := hi _ h; omega⟩
  · exact ⟨S0, fun _ => Iff.rfl, fun h => by have := (hS0 _ h).1; omega, hJ _ _ _ _ hj0 (kw4.mono fun _ _ h => h.elim), fun _ h => h, fun _ h => .inl h, hb34⟩
  · intro vs hvs
    obtain ⟨p, _, rfl⟩ := List.mem_map.1 hvs
    rfl
  · rintro L i S a vs hvs ⟨S1, h1, h2, hj, h3, h4, h5⟩ hSa ka hL hLa hwL
    rw [Ss.prt, List.getElem?_map, Option.map_eq_some_iff] at hvs
    obtain ⟨p, hpi, rfl⟩ := hvs
    have hil : i < (spl 10 (B s)).length := (List.getElem?_eq_some_iff.1 hpi).1
    have hSb3 := (h1 b3).2 (.inr rfl)
    have zka := ka.size
    refine i_reg ?_
    (repeat (first | refine i_nil ?_ | refine y_nil ?_ | refine i_n ?_ | refine i_r ?_ | refine i_x ?_ | refine j_n ?_ | refine j_r ?_ | refine j_y rfl ?_ | refine j_z rfl ?_ | refine i_seq ?_ | refine i_blk ?_ | refine i_reg ?_ | refine i_ret ?_ | refine i_exit ?_ | refine i_skip ?_ | refine i_v rfl (r_mv rfl) ?_ | refine i_v rfl (r_as rfl) ?_ | refine i_v rfl (r_add rfl rfl (by omega)) ?_ | refine i_v rfl (r_sub rfl rfl (by omega)) ?_ | refine i_v rfl (r_mul rfl rfl (by omega)) ?_ | refine i_v rfl (r_bin rfl) ?_ | refine i_v rfl (r_fa rfl rfl) ?_ | refine i_v rfl (r_ld rfl rfl (by first | assumption | exact cell_of_blk (by assumption) (by rfl))) ?_ | refine i_v rfl (r_nc rfl) ?_ | refine i_v rfl (r_not rfl) ?_ | refine i_v rfl (r_mf rfl rfl) ?_ | refine i_v rfl (r_len rfl) ?_ | refine i_v rfl (r_ex rfl) ?_ | refine i_v rfl (r_fd rfl) ?_ | refine i_v rfl (r_rem rfl rfl (by omega) (by omega)) ?_ | refine i_v rfl (r_cvi rfl rfl rfl (wrap_in (by omega))) ?_ | refine i_v rfl (r_cv rfl) ?_ | refine i_v rfl (r_peq rfl rfl rfl) ?_ | refine i_v rfl (r_pne rfl rfl rfl) ?_ | refine i_v rfl (r_min rfl rfl) ?_ | refine i_v rfl (r_max rfl rfl) ?_ | refine i_v rfl (r_bd rfl) ?_ | refine i_v rfl (r_pt rfl rfl) ?_ | refine i_v rfl (r_pf rfl rfl) ?_))
    refine i_begin (Kp.refl _ _) (fun a1 ka1 => ?_)
    have za1 := ka1.size
    have d3 := ka1.get h5 (fun h => hL (by rw [← h]; exact hSb3))
    have hj1 := hJ _ _ _ _ hj (ka1.mono fun k _ h h' => hL (by rw [← h]; exact (h1 k).2 (.inl h')))
    have kWa : Kp (fun k => S0 k ∨ k = bx) W a := kw4.mono (fun _ _ h => h.elim) |>.trans ka (fun k hk h => by
      rcases h with (h | h) | h
      · exact .inl h
      · omega
      · have := hi _ h; omega)
    have hbba := ka.get hbb4 (by
      rintro ((h | h) | h)
      · have := (hS0 _ h).1; omega
      · omega
      · have := hi _ h; omega)
    have hbb1 := ka1.get hbba (by show ¬ bb = L; omega)
    have kWa1 : Kp (fun k => S0 k ∨ k = bx) W a1 := kWa.trans ka1 (fun k _ e => by omega)
    (repeat (first | refine i_nil ?_ | refine y_nil ?_ | refine i_n ?_ | refine i_r ?_ | refine i_x ?_ | refine j_n ?_ | refine j_r ?_ | refine j_y rfl ?_ | refine j_z rfl ?_ | refine i_seq ?_ | refine i_blk ?_ | refine i_reg ?_ | refine i_ret ?_ | refine i_exit ?_ | refine i_skip ?_ | refine i_v rfl (r_mv rfl) ?_ | refine i_v rfl (r_as rfl) ?_ | refine i_v rfl (r_add rfl rfl (by omega)) ?_ | refine i_v rfl (r_sub rfl rfl (by omega)) ?_ | refine i_v rfl (r_mul rfl rfl (by omega)) ?_ | refine i_v rfl (r_bin rfl) ?_ | refine i_v rfl (r_fa rfl rfl) ?_ | refine i_v rfl (r_ld rfl rfl (by first | assumption | exact cell_of_blk (by assumption) (by rfl))) ?_ | refine i_v rfl (r_nc rfl) ?_ | refine i_v rfl (r_not rfl) ?_ | refine i_v rfl (r_mf rfl rfl) ?_ | refine i_v rfl (r_len rfl) ?_ | refine i_v rfl (r_ex rfl) ?_ | refine i_v rfl (r_fd rfl) ?_ | refine i_v rfl (r_rem rfl rfl (by omega) (by omega)) ?_ | refine i_v rfl (r_cvi rfl rfl rfl (wrap_in (by omega))) ?_ | refine i_v rfl (r_cv rfl) ?_ | refine i_v rfl (r_peq rfl rfl rfl) ?_ | refine i_v rfl (r_pne rfl rfl rfl) ?_ | refine i_v rfl (r_min rfl rfl) ?_ | refine i_v rfl (r_max rfl rfl) ?_ | refine i_v rfl (r_bd rfl) ?_ | refine i_v rfl (r_pt rfl rfl) ?_ | refine i_v rfl (r_pf rfl rfl) ?_))
    refine i_st rfl rfl rfl rfl rfl d3 (Nat.le_of_ble_eq_true rfl) (fun m2 s2 => ?_)
    have e3 := s2.blk
    have ebb := s2.kp.get hbb1 (by show ¬ bb = b3; omega)
    have zm2 := s2.sz
    have hj2 := hJ _ _ _ _ hj1 (s2.kp.mono fun k _ h h' => h2 (by rw [← h]; exact h'))
    have kWm2 : Kp (fun k => S0 k ∨ k = bx) W m2 := kWa1.trans s2.kp (fun k _ e => by omega)
    (repeat (first | refine i_nil ?_ | refine y_nil ?_ | refine i_n ?_ | refine i_r ?_ | refine i_x ?_ | refine j_n ?_ | refine j_r ?_ | refine j_y rfl ?_ | refine j_z rfl ?_ | refine i_seq ?_ | refine i_blk ?_ | refine i_reg ?_ | refine i_ret ?_ | refine i_exit ?_ | refine i_skip ?_ | refine i_v rfl (r_mv rfl) ?_ | refine i_v rfl (r_as rfl) ?_ | refine i_v rfl (r_add rfl rfl (by omega)) ?_ | refine i_v rfl (r_sub rfl rfl (by omega)) ?_ | refine i_v rfl (r_mul rfl rfl (by omega)) ?_ | refine i_v rfl (r_bin rfl) ?_ | refine i_v rfl (r_fa rfl rfl) ?_ | refine i_v rfl (r_ld rfl rfl (by first | assumption | exact cell_of_blk (by assumption) (by rfl))) ?_ | refine i_v rfl (r_nc rfl) ?_ | refine i_v rfl (r_not rfl) ?_ | refine i_v rfl (r_mf rfl rfl) ?_ | refine i_v rfl (r_len rfl) ?_ | refine i_v rfl (r_ex rfl) ?_ | refine i_v rfl (r_fd rfl) ?_ | refine i_v rfl (r_rem rfl rfl (by omega) (by omega)) ?_ | refine i_v rfl (r_cvi rfl rfl rfl (wrap_in (by omega))) ?_ | refine i_v rfl (r_cv rfl) ?_ | refine i_v rfl (r_peq rfl rfl rfl) ?_ | refine i_v rfl (r_pne rfl rfl rfl) ?_ | refine i_v rfl (r_min rfl rfl) ?_ | refine i_v rfl (r_max rfl rfl) ?_ | refine i_v rfl (r_bd rfl) ?_ | refine i_v rfl (r_pt rfl rfl) ?_ | refine i_v rfl (r_pf rfl rfl) ?_))
    refine i_yc (yv := .func f us zs) rfl rfl (hy i S1 m2 _ (lns_get hpi) hj2 (fun k hk => by have := hSa k ((h1 k).2 (.inl hk)); omega) kWm2) ?_
    rintro v m3 ⟨S1', hex, hor⟩
    have zm3 := hex.kp.size
    have hn3 : ¬ S1' b3 := fun h => by
      rcases hex.new _ h with h | ⟨h, _⟩
      · exact h2 h
      · omega
    have e33 := hex.kp.get e3 h2
    have hle : ∀ k, S0 k → S1' k := fun k h => hex.le k (h3 k h)
    have hnw : ∀ k, S1' k → S0 k ∨ (W.heap.size ≤ k ∧ k < m3.heap.size) := fun k h => by
      rcases hex.new k h with h | ⟨h, h'⟩
      · rcases h4 k h with h | ⟨h, h'⟩
        · exact .inl h
        · exact .inr ⟨h, by omega⟩
      · exact .inr ⟨by have := kWm2.size; omega, h'⟩
    have hEx : Ex S (fun k => S1' k ∨ k = b3) a1 m3 := ⟨fun k h => ((h1 k).1 h).imp_left (hex.le k), fun k h => by
      rcases h with h | h
      · rcases hex.new k h with h | ⟨h, h'⟩
        · exact .inl ((h1 k).2 (.inl h))
        · exact .inr ⟨by omega, h'⟩
      · exact .inl ((h1 k).2 (.inr h)), (s2.kp.mono fun k _ h => (h1 k).2 (.inr h) : Kp S a1 m2).trans hex.kp (fun k _ h => (h1 k).2 (.inl h))⟩
    rcases hor with ⟨rfl, hj3⟩ | ⟨rfl, hj3⟩
    · (repeat (first | refine i_nil ?_ | refine y_nil ?_ | refine i_n ?_ | refine i_r ?_ | refine i_x ?_ | refine j_n ?_ | refine j_r ?_ | refine j_y rfl ?_ | refine j_z rfl ?_ | refine i_seq ?_ | refine i_blk ?_ | refine i_reg ?_ | refine i_ret ?_ | refine i_exit ?_ | refine i_skip ?_ | refine i_v rfl (r_mv rfl) ?_ | refine i_v rfl (r_as rfl) ?_ | refine i_v rfl (r_add rfl rfl (by omega)) ?_ | refine i_v rfl (r_sub rfl rfl (by omega)) ?_ | refine i_v rfl (r_mul rfl rfl (by omega)) ?_ | refine i_v rfl (r_bin rfl) ?_ | refine i_v rfl (r_fa rfl rfl) ?_ | refine i_v rfl (r_ld rfl rfl (by first | assumption | exact cell_of_blk (by assumption) (by rfl))) ?_ | refine i_v rfl (r_nc rfl) ?_ | refine i_v rfl (r_not rfl) ?_ | refine i_v rfl (r_mf rfl rfl) ?_ | refine i_v rfl (r_len rfl) ?_ | refine i_v rfl (r_ex rfl) ?_ | refine i_v rfl (r_fd rfl) ?_ | refine i_v rfl (r_rem rfl rfl (by omega) (by omega)) ?_ | refine i_v rfl (r_cvi rfl rfl rfl (wrap_in (by omega))) ?_ | refine i_v rfl (r_cv rfl) ?_ | refine i_v rfl (r_peq rfl rfl rfl) ?_ | refine i_v rfl (r_pne rfl rfl rfl) ?_ | refine i_v rfl (r_min rfl rfl) ?_ | refine i_v rfl (r_max rfl rfl) ?_ | refine i_v rfl (r_bd rfl) ?_ | refine i_v rfl (r_pt rfl rfl) ?_ | refine i_v rfl (r_pf rfl rfl) ?_))
      refine ic_f rfl ?_
      (repeat (first | refine i_nil ?_ | refine y_nil ?_ | refine i_n ?_ | refine i_r ?_ | refine i_x ?_ | refine j_n ?_ | refine j_r ?_ | refine j_y rfl ?_ | refine j_z rfl ?_ | refine i_seq ?_ | refine i_blk ?_ | refine i_reg ?_ | refine i_ret ?_ | refine i_exit ?_ | refine i_skip ?_ | refine i_v rfl (r_mv rfl) ?_ | refine i_v rfl (r_as rfl) ?_ | refine i_v rfl (r_add rfl rfl (by omega)) ?_ | refine i_v rfl (r_sub rfl rfl (by omega)) ?_ | refine i_v rfl (r_mul rfl rfl (by omega)) ?_ | refine i_v rfl (r_bin rfl) ?_ | refine i_v rfl (r_fa rfl rfl) ?_ | refine i_v rfl (r_ld rfl rfl (by first | assumption | exact cell_of_blk (by assumption) (by rfl))) ?_ | refine i_v rfl (r_nc rfl) ?_ | refine i_v rfl (r_not rfl) ?_ | refine i_v rfl (r_mf rfl rfl) ?_ | refine i_v rfl (r_len rfl) ?_ | refine i_v rfl (r_ex rfl) ?_ | refine i_v rfl (r_fd rfl) ?_ | refine i_v rfl (r_rem rfl rfl (by omega) (by omega)) ?_ | refine i_v rfl (r_cvi rfl rfl rfl (wrap_in (by omega))) ?_ | refine i_v rfl (r_cv rfl) ?_ | refine i_v rfl (r_peq rfl rfl rfl) ?_ | refine i_v rfl (r_pne rfl rfl rfl) ?_ | refine i_v rfl (r_min rfl rfl) ?_ | refine i_v rfl (r_max rfl rfl) ?_ | refine i_v rfl (r_bd rfl) ?_ | refine i_v rfl (r_pt rfl rfl) ?_ | refine i_v rfl (r_pf rfl rfl) ?_))
      exact rq_n hEx ⟨S1', fun _ => Iff.rfl, hn3, hj3, hle, hnw, e33⟩
    · (repeat (first | refine i_nil ?_ | refine y_nil ?_ | refine i_n ?_ | refine i_r ?_ | refine i_x ?_ | refine j_n ?_ | refine j_r ?_ | refine j_y rfl ?_ | refine j_z rfl ?_ | refine i_seq ?_ | refine i_blk ?_ | refine i_reg ?_ | refine i_ret ?_ | refine i_exit ?_ | refine i_skip ?_ | refine i_v rfl (r_mv rfl) ?_ | refine i_v rfl (r_as rfl) ?_ | refine i_v rfl (r_add rfl rfl (by omega)) ?_ | refine i_v rfl (r_sub rfl rfl (by omega)) ?_ | refine i_v rfl (r_mul rfl rfl (by omega)) ?_ | refine i_v rfl (r_bin rfl) ?_ | refine i_v rfl (r_fa rfl rfl) ?_ | refine i_v rfl (r_ld rfl rfl (by first | assumption | exact cell_of_blk (by assumption) (by rfl))) ?_ | refine i_v rfl (r_nc rfl) ?_ | refine i_v rfl (r_not rfl) ?_ | refine i_v rfl (r_mf rfl rfl) ?_ | refine i_v rfl (r_len rfl) ?_ | refine i_v rfl (r_ex rfl) ?_ | refine i_v rfl (r_fd rfl) ?_ | refine i_v rfl (r_rem rfl rfl (by omega) (by omega)) ?_ | refine i_v rfl (r_cvi rfl rfl rfl (wrap_in (by omega))) ?_ | refine i_v rfl (r_cv rfl) ?_ | refine i_v rfl (r_peq rfl rfl rfl) ?_ | refine i_v rfl (r_pne rfl rfl rfl) ?_ | refine i_v rfl (r_min rfl rfl) ?_ | refine i_v rfl (r_max rfl rfl) ?_ | refine i_v rfl (r_bd rfl) ?_ | refine i_v rfl (r_pt rfl rfl) ?_ | refine i_v rfl (r_pf rfl rfl) ?_))
      refine ic_t rfl ?_
      (repeat (first | refine i_nil ?_ | refine y_nil ?_ | refine i_n ?_ | refine i_r ?_ | refine i_x ?_ | refine j_n ?_ | refine j_r ?_ | refine j_y rfl ?_ | refine j_z rfl ?_ | refine i_seq ?_ | refine i_blk ?_ | refine i_reg ?_ | refine i_ret ?_ | refine i_exit ?_ | refine i_skip ?_ | refine i_v rfl (r_mv rfl) ?_ | refine i_v rfl (r_as rfl) ?_ | refine i_v rfl (r_add rfl rfl (by omega)) ?_ | refine i_v rfl (r_sub rfl rfl (by omega)) ?_ | refine i_v rfl (r_mul rfl rfl (by omega)) ?_ | refine i_v rfl (r_bin rfl) ?_ | refine i_v rfl (r_fa rfl rfl) ?_ | refine i_v rfl (r_ld rfl rfl (by first | assumption | exact cell_of_blk (by assumption) (by rfl))) ?_ | refine i_v rfl (r_nc rfl) ?_ | refine i_v rfl (r_not rfl) ?_ | refine i_v rfl (r_mf rfl rfl) ?_ | refine i_v rfl (r_len rfl) ?_ | refine i_v rfl (r_ex rfl) ?_ | refine i_v rfl (r_fd rfl) ?_ | refine i_v rfl (r_rem rfl rfl (by omega) (by omega)) ?_ | refine i_v rfl (r_cvi rfl rfl rfl (wrap_in (by omega))) ?_ | refine i_v rfl (r_cv rfl) ?_ | refine i_v rfl (r_peq rfl rfl rfl) ?_ | refine i_v rfl (r_pne rfl rfl rfl) ?_ | refine i_v rfl (r_min rfl rfl) ?_ | refine i_v rfl (r_max rfl rfl) ?_ | refine i_v rfl (r_bd rfl) ?_ | refine i_v rfl (r_pt rfl rfl) ?_ | refine i_v rfl (r_pf rfl rfl) ?_))
      exact rq_r hEx ⟨rfl, S1', fun _ => Iff.rfl, hj3, hle, hnw⟩
  · rintro D S b ⟨S1, h1, h2, hj, h3, h4, h5⟩ kb hD hwD hSD
    rw [hlen] at hj
    (repeat (first | refine k_nil ?_ | refine k_n ?_ | refine k_r ?_ | refine k_x ?_ | refine b_n ?_ | refine b_r ?_ | refine b_y rfl ?_ | refine b_z rfl ?_ | refine l_r ?_ | refine l_x ?_ | refine k_seq ?_ | refine k_blk ?_ | refine k_reg ?_ | refine k_ret ?_ | refine k_exit ?_ | refine k_skip ?_ | refine s_v (r_mv rfl) ?_ | refine s_v (r_as rfl) ?_ | refine s_v (r_add rfl rfl (by omega)) ?_ | refine s_v (r_sub rfl rfl (by omega)) ?_ | refine s_v (r_mul rfl rfl (by omega)) ?_ | refine s_v (r_bin rfl) ?_ | refine s_v (r_fa rfl rfl) ?_ | refine s_v (r_ld rfl rfl (by first | assumption | exact cell_of_blk (by assumption) (by rfl))) ?_ | refine s_v (r_nc rfl) ?_ | refine s_v (r_not rfl) ?_ | refine s_v (r_mf rfl rfl) ?_ | refine s_v (r_len rfl) ?_ | refine s_v (r_ex rfl) ?_ | refine s_v (r_fd rfl) ?_ | refine s_v (r_rem rfl rfl (by omega) (by omega)) ?_ | refine s_v (r_cvi rfl rfl rfl (wrap_in (by omega))) ?_ | refine s_v (r_cv rfl) ?_ | refine s_v (r_peq rfl rfl rfl) ?_ | refine s_v (r_pne rfl rfl rfl) ?_ | refine s_v (r_min rfl rfl) ?_ | refine s_v (r_max rfl rfl) ?_ | refine s_v (r_bd rfl) ?_ | refine s_v (r_pt rfl rfl) ?_ | refine s_v (r_pf rfl rfl) ?_))
    refine postM_1n hD (fun m' hk => ⟨by rw [results_none rfl], rfl, ?_, S1, h3, fun k h => ?_, .inl (hJ _ _ _ _ hj (hk.mono fun k _ h h' => hSD (by rw [← h]; exact (h1 k).2 (.inl h'))))⟩)
    · exact ((kw4.mono fun _ _ h => h.elim : Kp (fun k => S0 k ∨ k = bx) W w4).trans kb (fun k hk h => by
        rcases h with (h | h) | h
        · exact .inl h
        · omega
        · have := hi _ h; omega)).trans hk (fun k _ e => by have := kw4.size; omega)
    · rcases h4 k h with h | ⟨h, h'⟩
      · exact .inl h
      · exact .inr ⟨h, by have := hk.size; omega⟩
  · rintro D S b i hi' ⟨_, S1, h1, hj, h3, h4⟩ kb hD hwD hSD
    rw [hlen] at hi'
    (repeat (first | refine k_nil ?_ | refine k_n ?_ | refine k_r ?_ | refine k_x ?_ | refine b_n ?_ | refine b_r ?_ | refine b_y rfl ?_ | refine b_z rfl ?_ | refine l_r ?_ | refine l_x ?_ | refine k_seq ?_ | refine k_blk ?_ | refine k_reg ?_ | refine k_ret ?_ | refine k_exit ?_ | refine k_skip ?_ | refine s_v (r_mv rfl) ?_ | refine s_v (r_as rfl) ?_ | refine s_v (r_add rfl rfl (by omega)) ?_ | refine s_v (r_sub rfl rfl (by omega)) ?_ | refine s_v (r_mul rfl rfl (by omega)) ?_ | refine s_v (r_bin rfl) ?_ | refine s_v (r_fa rfl rfl) ?_ | refine s_v (r_ld rfl rfl (by first | assumption | exact cell_of_blk (by assumption) (by rfl))) ?_ | refine s_v (r_nc rfl) ?_ | refine s_v (r_not rfl) ?_ | refine s_v (r_mf rfl rfl) ?_ | refine s_v (r_len rfl) ?_ | refine s_v (r_ex rfl) ?_ | refine s_v (r_fd rfl) ?_ | refine s_v (r_rem rfl rfl (by omega) (by omega)) ?_ | refine s_v (r_cvi rfl rfl rfl (wrap_in (by omega))) ?_ | refine s_v (r_cv rfl) ?_ | refine s_v (r_peq rfl rfl rfl) ?_ | refine s_v (r_pne rfl rfl rfl) ?_ | refine s_v (r_min rfl rfl) ?_ | refine s_v (r_max rfl rfl) ?_ | refine s_v (r_bd rfl) ?_ | refine s_v (r_pt rfl rfl) ?_ | refine s_v (r_pf rfl rfl) ?_))
    refine postM_1 hD (fun m' hk => ⟨by rw [results_none rfl], rfl, ?_, S1, h3, fun k h => ?_, .inr ⟨i, hi', hJx _ _ _ _ hj (hk.mono fun k _ h h' => hSD (by rw [← h]; exact (h1 k).2 (.inl h')))⟩⟩)
    · exact ((kw4.mono fun _ _ h => h.elim : Kp (fun k => S0 k ∨ k = bx) W w4).trans kb (fun k hk h => by
        rcases h with (h | h) | h
        · exact .inl h
        · omega
        · have := hi _ h; omega)).trans hk (fun k _ e => by have := kw4.size; omega)
    · rcases h4 k h with h | ⟨h, h'⟩
      · exact .inl h
      · exact .inr ⟨h, by have := hk.size; omega⟩
  · rintro id D S b i hi ⟨h, _⟩
    cases h
end Pg
end Go.Proofs.YtimgapkngjkagaaDoor
