/- Pages: Blank of one span. -/
import Derived.Test.YtimgapkngjkagaaQw
import Derived.Test.YtimgapkngjkagaaSh

import Derived.Lib.ConvBytes
import Derived.Lib.SmallJoins
namespace Go.Proofs.Ytimgapkngjkagaa
open Go Go.RowKit Fw Sp Pp
set_option linter.unusedVariables false
set_option maxRecDepth 20000
namespace Fw
section
variable {P : Program} {w : World} {q : Pst P} {S : World → Prop} {z fuel : Nat} {n : Nat} {l : Slots} {ds : List Deferred} {listed : Array Bool} {i d : Nat} {ty : TypeId} {pos : String} {af : Array Edge} {ops : Array Oper}
theorem waits_of_out {ops : Array Oper} {z : Nat} (h : Nat.ble ops.size z = true) : Waits ops z := by
  intro listed hd hr
  exfalso
  have h' := Nat.le_of_ble_eq_true h
  unfold Region.ready at hr
  simp at hr
  omega
theorem ts_call {f : FuncId} {c : Operand} {xs : List Operand} {vs us zs : List Value} {ats : Array TypeId} {R : Value → World → Prop} (hi : ops[i]? = some ⟨some d, .call ⟨.value c, xs.toArray, ats⟩, ty, pos, af, none⟩) (hf : callOk P f = true) (hcv : ev n l c = .func (.func f) us.toArray zs.toArray) (hxs : evs (ev n l) xs = some vs)
    (hc : Ret P f (us ++ vs ++ zs) w R) (h : ∀ v w1, R v w1 → (i ≠ z → S w1) ∧ Wt P ops q S z fuel (listed.setIfInBounds i true) n ((d, v) :: l) ds w1) : Ws P ops q S z fuel listed i n l ds w := by
  refine ⟨fun hd => ?_⟩
  unfold wpOp
  simp only [hi]
  rw [if_pos (by simp [Region.wanted])]
  refine .inl ?_
  unfold Oper.wp
  rw [eval_A, (run_call hf hcv hxs).eq, Oper.upon_enter]
  refine Calls.mono hc ?_
  rintro e w1 ⟨v, rfl, hR⟩
  simp only [put_A]
  exact ⟨(h _ _ hR).1, (h _ _ hR).2.up hd⟩
theorem Kp.bytes (w : World) (e : TypeId) (s : ByteArray) : Kp No w (Lib.bytesWorld w e s) :=
  ⟨by simp [Lib.bytesWorld, World.freeze, World.alloc, World.drew, -World.alloc_eq, -World.drew_eq], by simp [Lib.bytesWorld, World.freeze, World.alloc, World.drew, -World.alloc_eq, -World.drew_eq], by simp [Lib.bytesWorld, World.freeze, World.alloc, World.drew, -World.alloc_eq, -World.drew_eq], by rw [Lib.bytesWorld_size]; omega, fun k hk _ => Lib.bytesWorld_at_old w e s k hk⟩
theorem r_s2b {ρ : Operand → Value} {dst : Option Tmp} {g : Option (Nat × Bool)} {s d e : TypeId} {x : Operand} {t : ByteArray} {u : TypeDesc} (hx : ρ x = .string t) (hs : P.underlying s = some u) (hd : P.underlying d = some (.slice e)) (he : P.underlying e = some (.int .u8)) :
    Rn P ρ ⟨dst, .convert s d x, ty, pos, af, g⟩ w (.ok (.value (.slice (some ⟨w.heap.size, 0, none⟩) t.size (grownCap w t.size 0 e))) (Lib.bytesWorld w e t)) := by
  refine ⟨run_v ?_⟩
  rw [hx]
  exact Lib.run_convert_string_bytes w s d e t hs hd he
theorem s_s2b {rest : List Oper} {q : Pst P} {s d' e : TypeId} {x : Operand} {t : ByteArray} {u : TypeDesc} (hx : ev n l x = .string t) (hs : P.underlying s = some u) (hd : P.underlying d' = some (.slice e)) (he : P.underlying e = some (.int .u8))
    (h : ∀ c w1, Kp No w w1 → w1.heap.size = w.heap.size + 1 → (∀ (j : Nat) y, (B t)[j]? = some y → w1.cell? ⟨w.heap.size, 0 + j, none⟩ = some (.int .u8 y)) → Wl P ops q rest n ((d, .slice (some ⟨w.heap.size, 0, none⟩) t.size c) :: l) ds w1) :
    Wl P ops q (⟨some d, .convert s d' x, ty, pos, af, none⟩ :: rest) n l ds w := by
  refine s_go (r_s2b hx hs hd he) (h _ _ (Kp.bytes _ _ _) (Lib.bytesWorld_size _ _ _) (fun j y hj => ?_))
  have hlt := (List.getElem?_eq_some_iff.1 hj).1
  rw [B_len] at hlt
  rw [Nat.zero_add, Lib.bytesWorld_cell w e t j hlt]
  rw [B, List.getElem?_map] at hj
  congr 2
  simp only [Option.map_eq_some_iff] at hj
  obtain ⟨v, hv, rfl⟩ := hj
  rw [List.getD_eq_getElem?_getD, hv]; rfl
end
end Fw
namespace Pg
def ch (n : Int) : Int → List (Int × Int) → Prop
  | a, [] => a ≤ n
  | a, s :: r => a ≤ s.1 ∧ s.1 ≤ s.2 ∧ s.2 ≤ n ∧ ch n s.2 r
theorem ch_le {n : Int} : ∀ {L : List (Int × Int)} {a : Int}, ch n a L → a ≤ n
  | [], _, h => h
  | _ :: _, _, h => by have := h.1; have := h.2.1; have := h.2.2.1; omega
def rg (L : List Int) : Prop := ∀ c ∈ L, 0 ≤ c ∧ c < 256
theorem rg_app {A C : List Int} (h : rg A) (h' : rg C) : rg (A ++ C) := fun c hc => (List.mem_append.1 hc).elim (h c) (h' c)
theorem strCells_B (s : ByteArray) : Lib.strCells s = (B s).map (Value.int .u8) := by simp [Lib.strCells, B]
theorem byteCells_nums {xs : List Int} (h : rg xs) : Lib.byteCells (xs.map fun n => UInt8.ofNat n.toNat) = xs.map (Value.int .u8) := by
  rw [Lib.byteCells, List.map_map]
  refine List.map_congr_left fun c hc => ?_
  have := h c hc
  simp only [Function.comp]
  congr 1
  simp [UInt8.toNat_ofNat']
  omega
theorem rg_B (s : ByteArray) (i j : Nat) : rg (((B s).take i).drop j) := fun c hc => B_range (List.mem_of_mem_take (List.mem_of_mem_drop hc))
def bln (c : Int) : Int := if c = 10 then 10 else 32
theorem rg_bln (L : List Int) : rg (L.map bln) := fun c hc => by
  obtain ⟨x, _, rfl⟩ := List.mem_map.1 hc
  unfold bln
  split <;> omega
/-- What Blank writes, from a place on. -/
def wr (T : List Int) : Nat → List (Int × Int) → List Int
  | _, [] => []
  | a, s :: r => ((T.take s.1.toNat).drop a).map bln ++ (T.take s.2.toNat).drop s.1.toNat ++ wr T s.2.toNat r
theorem BStr (base b : Nat) (out : List Int) (w : World) (h : Bd base No b (out.map (Value.int .u8)) w) (hrg : rg out) (hbw : base ≤ w.heap.size) : Ret Try.prog 22 [.pointer (some ⟨b, 0, none⟩)] w fun v w1 => (∃ t, v = .string t ∧ B t = out) ∧ Kp (fun k => b ≤ k) w w1 := by
  obtain ⟨hb, q, a, cp, hq, hblk, own, hne, _⟩ := h
  have own' := Joins.ownsRow_le own (Nat.le_of_lt hb)
  refine Calls.mono (Try.Builder_String_any_k b b (out.map fun n => UInt8.ofNat n.toNat) w (Lib.IsBuilderF.of ?_) (by omega)) ?_
  · rw [byteCells_nums hrg]
    rcases hq with rfl | rfl
    · exact .inl ⟨Nat.le_refl _, _, hblk, own', hne⟩
    · exact .inr ⟨Nat.le_refl _, _, hblk, own', hne⟩
  · rintro e w1 ⟨rfl, _, hbel, _⟩
    exact ⟨_, rfl, ⟨_, rfl, B_nums hrg⟩, ⟨hbel.os, hbel.tape, hbel.output, hbel.size, fun k hk hs => hbel.block k (by have : ¬ b ≤ k := hs; omega)⟩⟩
set_option maxHeartbeats 2000000 in
theorem Blank (s : ByteArray) (xs : List (Int × Int)) (a : Option Addr) (cap : Nat) (w : World) (h : Rs w a xs) (hu : up xs) (hl : xs.length ≤ 11) (hcap : xs.length ≤ cap) (hs : s.size ≤ 1000) (hch : (∀ p ∈ xs, gs p s.size) → ch s.size 0 (cv xs ++ [((s.size : Int), (s.size : Int))])) :
    Ret Try.prog 10 [.string s, .slice a xs.length cap] w fun v w1 => Kp No w w1 ∧ ((¬ (∀ p ∈ xs, gs p s.size) ∧ v = .tuple #[.string .empty, .int .i64 15]) ∨
      ((∀ p ∈ xs, gs p s.size) ∧ ∃ t, v = .tuple #[.string t, .int .i64 0] ∧ B t = wr (B s) 0 (cv xs ++ [((s.size : Int), (s.size : Int))]))) := by
  refine ret_enter Try.func10 rfl Try.ntmps10 rfl ?_
  (repeat (first | refine k_nil ?_ | refine k_n ?_ | refine k_r ?_ | refine k_x ?_ | refine b_n ?_ | refine b_r ?_ | refine b_y rfl ?_ | refine b_z rfl ?_ | refine l_r ?_ | refine l_x ?_ | refine k_seq ?_ | refine k_blk ?_ | refine k_reg ?_ | refine k_ret ?_ | refine k_exit ?_ | refine k_skip ?_ | refine s_v (r_mv rfl) ?_ | refine s_v (r_as rfl) ?_ | refine s_v (r_add rfl rfl (by omega)) ?_ | refine s_v (r_sub rfl rfl (by omega)) ?_ | refine s_v (r_mul rfl rfl (by omega)) ?_ | refine s_v (r_bin rfl) ?_ | refine s_v (r_fa rfl rfl) ?_ | refine s_v (r_ld rfl rfl (by first | assumption | exact cell_of_blk (by assumption) (by rfl))) ?_ | refine s_v (r_nc rfl) ?_ | refine s_v (r_not rfl) ?_ | refine s_v (r_mf rfl rfl) ?_ | refine s_v (r_len rfl) ?_ | refine s_v (r_ex rfl) ?_ | refine s_v (r_fd rfl) ?_ | refine s_v (r_rem rfl rfl (by omega) (by omega)) ?_ | refine s_v (r_cvi rfl rfl rfl (wrap_in (by omega))) ?_ | refine s_v (r_cv rfl) ?_ | refine s_v (r_peq rfl rfl rfl) ?_ | refine s_v (r_pne rfl rfl rfl) ?_ | refine s_v (r_min rfl rfl) ?_ | refine s_v (r_max rfl rfl) ?_ | refine s_v (r_bd rfl) ?_ | refine s_v (r_pt rfl rfl) ?_ | refine s_v (r_pf rfl rfl) ?_))
  refine s_box rfl rfl (fun b2 w1 n1 => ?_)
  have e2 := n1.blk
  have g2 := n1.ge
  (repeat (first | refine k_nil ?_ | refine k_n ?_ | refine k_r ?_ | refine k_x ?_ | refine b_n ?_ | refine b_r ?_ | refine b_y rfl ?_ | refine b_z rfl ?_ | refine l_r ?_ | refine l_x ?_ | refine k_seq ?_ | refine k_blk ?_ | refine k_reg ?_ | refine k_ret ?_ | refine k_exit ?_ | refine k_skip ?_ | refine s_v (r_mv rfl) ?_ | refine s_v (r_as rfl) ?_ | refine s_v (r_add rfl rfl (by omega)) ?_ | refine s_v (r_sub rfl rfl (by omega)) ?_ | refine s_v (r_mul rfl rfl (by omega)) ?_ | refine s_v (r_bin rfl) ?_ | refine s_v (r_fa rfl rfl) ?_ | refine s_v (r_ld rfl rfl (by first | assumption | exact cell_of_blk (by assumption) (by rfl))) ?_ | refine s_v (r_nc rfl) ?_ | refine s_v (r_not rfl) ?_ | refine s_v (r_mf rfl rfl) ?_ | refine s_v (r_len rfl) ?_ | refine s_v (r_ex rfl) ?_ | refine s_v (r_fd rfl) ?_ | refine s_v (r_rem rfl rfl (by omega) (by omega)) ?_ | refine s_v (r_cvi rfl rfl rfl (wrap_in (by omega))) ?_ | refine s_v (r_cv rfl) ?_ | refine s_v (r_peq rfl rfl rfl) ?_ | refine s_v (r_pne rfl rfl rfl) ?_ | refine s_v (r_min rfl rfl) ?_ | refine s_v (r_max rfl rfl) ?_ | refine s_v (r_bd rfl) ?_ | refine s_v (r_pt rfl rfl) ?_ | refine s_v (r_pf rfl rfl) ?_))
  refine s_call (us := []) (zs := []) (by kernel_rfl) rfl rfl (cont s xs a cap b2 w1 (h.kp0 n1.kp) (by omega) e2) ?_
  rintro _ w2 ⟨⟨rfl, hbad⟩ | ⟨rfl, hgood⟩, k2⟩
  · (repeat (first | refine k_nil ?_ | refine k_n ?_ | refine k_r ?_ | refine k_x ?_ | refine b_n ?_ | refine b_r ?_ | refine b_y rfl ?_ | refine b_z rfl ?_ | refine l_r ?_ | refine l_x ?_ | refine k_seq ?_ | refine k_blk ?_ | refine k_reg ?_ | refine k_ret ?_ | refine k_exit ?_ | refine k_skip ?_ | refine s_v (r_mv rfl) ?_ | refine s_v (r_as rfl) ?_ | refine s_v (r_add rfl rfl (by omega)) ?_ | refine s_v (r_sub rfl rfl (by omega)) ?_ | refine s_v (r_mul rfl rfl (by omega)) ?_ | refine s_v (r_bin rfl) ?_ | refine s_v (r_fa rfl rfl) ?_ | refine s_v (r_ld rfl rfl (by first | assumption | exact cell_of_blk (by assumption) (by rfl))) ?_ | refine s_v (r_nc rfl) ?_ | refine s_v (r_not rfl) ?_ | refine s_v (r_mf rfl rfl) ?_ | refine s_v (r_len rfl) ?_ | refine s_v (r_ex rfl) ?_ | refine s_v (r_fd rfl) ?_ | refine s_v (r_rem rfl rfl (by omega) (by omega)) ?_ | refine s_v (r_cvi rfl rfl rfl (wrap_in (by omega))) ?_ | refine s_v (r_cv rfl) ?_ | refine s_v (r_peq rfl rfl rfl) ?_ | refine s_v (r_pne rfl rfl rfl) ?_ | refine s_v (r_min rfl rfl) ?_ | refine s_v (r_max rfl rfl) ?_ | refine s_v (r_bd rfl) ?_ | refine s_v (r_pt rfl rfl) ?_ | refine s_v (r_pf rfl rfl) ?_))
    refine c_t rfl ?_
    (repeat (first | refine k_nil ?_ | refine k_n ?_ | refine k_r ?_ | refine k_x ?_ | refine b_n ?_ | refine b_r ?_ | refine b_y rfl ?_ | refine b_z rfl ?_ | refine l_r ?_ | refine l_x ?_ | refine k_seq ?_ | refine k_blk ?_ | refine k_reg ?_ | refine k_ret ?_ | refine k_exit ?_ | refine k_skip ?_ | refine s_v (r_mv rfl) ?_ | refine s_v (r_as rfl) ?_ | refine s_v (r_add rfl rfl (by omega)) ?_ | refine s_v (r_sub rfl rfl (by omega)) ?_ | refine s_v (r_mul rfl rfl (by omega)) ?_ | refine s_v (r_bin rfl) ?_ | refine s_v (r_fa rfl rfl) ?_ | refine s_v (r_ld rfl rfl (by first | assumption | exact cell_of_blk (by assumption) (by rfl))) ?_ | refine s_v (r_nc rfl) ?_ | refine s_v (r_not rfl) ?_ | refine s_v (r_mf rfl rfl) ?_ | refine s_v (r_len rfl) ?_ | refine s_v (r_ex rfl) ?_ | refine s_v (r_fd rfl) ?_ | refine s_v (r_rem rfl rfl (by omega) (by omega)) ?_ | refine s_v (r_cvi rfl rfl rfl (wrap_in (by omega))) ?_ | refine s_v (r_cv rfl) ?_ | refine s_v (r_peq rfl rfl rfl) ?_ | refine s_v (r_pne rfl rfl rfl) ?_ | refine s_v (r_min rfl rfl) ?_ | refine s_v (r_max rfl rfl) ?_ | refine s_v (r_bd rfl) ?_ | refine s_v (r_pt rfl rfl) ?_ | refine s_v (r_pf rfl rfl) ?_))
    exact ret_2 rfl rfl rfl ⟨n1.kp.no k2, .inl ⟨hbad, rfl⟩⟩
  (repeat (first | refine k_nil ?_ | refine k_n ?_ | refine k_r ?_ | refine k_x ?_ | refine b_n ?_ | refine b_r ?_ | refine b_y rfl ?_ | refine b_z rfl ?_ | refine l_r ?_ | refine l_x ?_ | refine k_seq ?_ | refine k_blk ?_ | refine k_reg ?_ | refine k_ret ?_ | refine k_exit ?_ | refine k_skip ?_ | refine s_v (r_mv rfl) ?_ | refine s_v (r_as rfl) ?_ | refine s_v (r_add rfl rfl (by omega)) ?_ | refine s_v (r_sub rfl rfl (by omega)) ?_ | refine s_v (r_mul rfl rfl (by omega)) ?_ | refine s_v (r_bin rfl) ?_ | refine s_v (r_fa rfl rfl) ?_ | refine s_v (r_ld rfl rfl (by first | assumption | exact cell_of_blk (by assumption) (by rfl))) ?_ | refine s_v (r_nc rfl) ?_ | refine s_v (r_not rfl) ?_ | refine s_v (r_mf rfl rfl) ?_ | refine s_v (r_len rfl) ?_ | refine s_v (r_ex rfl) ?_ | refine s_v (r_fd rfl) ?_ | refine s_v (r_rem rfl rfl (by omega) (by omega)) ?_ | refine s_v (r_cvi rfl rfl rfl (wrap_in (by omega))) ?_ | refine s_v (r_cv rfl) ?_ | refine s_v (r_peq rfl rfl rfl) ?_ | refine s_v (r_pne rfl rfl rfl) ?_ | refine s_v (r_min rfl rfl) ?_ | refine s_v (r_max rfl rfl) ?_ | refine s_v (r_bd rfl) ?_ | refine s_v (r_pt rfl rfl) ?_ | refine s_v (r_pf rfl rfl) ?_))
  refine c_f rfl ?_
  (repeat (first | refine k_nil ?_ | refine k_n ?_ | refine k_r ?_ | refine k_x ?_ | refine b_n ?_ | refine b_r ?_ | refine b_y rfl ?_ | refine b_z rfl ?_ | refine l_r ?_ | refine l_x ?_ | refine k_seq ?_ | refine k_blk ?_ | refine k_reg ?_ | refine k_ret ?_ | refine k_exit ?_ | refine k_skip ?_ | refine s_v (r_mv rfl) ?_ | refine s_v (r_as rfl) ?_ | refine s_v (r_add rfl rfl (by omega)) ?_ | refine s_v (r_sub rfl rfl (by omega)) ?_ | refine s_v (r_mul rfl rfl (by omega)) ?_ | refine s_v (r_bin rfl) ?_ | refine s_v (r_fa rfl rfl) ?_ | refine s_v (r_ld rfl rfl (by first | assumption | exact cell_of_blk (by assumption) (by rfl))) ?_ | refine s_v (r_nc rfl) ?_ | refine s_v (r_not rfl) ?_ | refine s_v (r_mf rfl rfl) ?_ | refine s_v (r_len rfl) ?_ | refine s_v (r_ex rfl) ?_ | refine s_v (r_fd rfl) ?_ | refine s_v (r_rem rfl rfl (by omega) (by omega)) ?_ | refine s_v (r_cvi rfl rfl rfl (wrap_in (by omega))) ?_ | refine s_v (r_cv rfl) ?_ | refine s_v (r_peq rfl rfl rfl) ?_ | refine s_v (r_pne rfl rfl rfl) ?_ | refine s_v (r_min rfl rfl) ?_ | refine s_v (r_max rfl rfl) ?_ | refine s_v (r_bd rfl) ?_ | refine s_v (r_pt rfl rfl) ?_ | refine s_v (r_pf rfl rfl) ?_))
  refine s_al rfl (fun b6 w3 n3 => ?_)
  have e23 := n3.kp.get0 (k2.get0 e2)
  have g6 := n3.ge
  have kw3 := (n1.kp.no k2).no n3.kp
  have e6 := n3.blk
  have h3 := h.kp0 kw3
  have z3 := kw3.size
  (repeat (first | refine k_nil ?_ | refine k_n ?_ | refine k_r ?_ | refine k_x ?_ | refine b_n ?_ | refine b_r ?_ | refine b_y rfl ?_ | refine b_z rfl ?_ | refine l_r ?_ | refine l_x ?_ | refine k_seq ?_ | refine k_blk ?_ | refine k_reg ?_ | refine k_ret ?_ | refine k_exit ?_ | refine k_skip ?_ | refine s_v (r_mv rfl) ?_ | refine s_v (r_as rfl) ?_ | refine s_v (r_add rfl rfl (by omega)) ?_ | refine s_v (r_sub rfl rfl (by omega)) ?_ | refine s_v (r_mul rfl rfl (by omega)) ?_ | refine s_v (r_bin rfl) ?_ | refine s_v (r_fa rfl rfl) ?_ | refine s_v (r_ld rfl rfl (by first | assumption | exact cell_of_blk (by assumption) (by rfl))) ?_ | refine s_v (r_nc rfl) ?_ | refine s_v (r_not rfl) ?_ | refine s_v (r_mf rfl rfl) ?_ | refine s_v (r_len rfl) ?_ | refine s_v (r_ex rfl) ?_ | refine s_v (r_fd rfl) ?_ | refine s_v (r_rem rfl rfl (by omega) (by omega)) ?_ | refine s_v (r_cvi rfl rfl rfl (wrap_in (by omega))) ?_ | refine s_v (r_cv rfl) ?_ | refine s_v (r_peq rfl rfl rfl) ?_ | refine s_v (r_pne rfl rfl rfl) ?_ | refine s_v (r_min rfl rfl) ?_ | refine s_v (r_max rfl rfl) ?_ | refine s_v (r_bd rfl) ?_ | refine s_v (r_pt rfl rfl) ?_ | refine s_v (r_pf rfl rfl) ?_))
  have hcl := cv_len xs
  refine k_cutc (σ := Option Addr × Nat) (fun t => [(2, .pointer (some ⟨b2, 0, none⟩)), (6, .pointer (some ⟨b6, 0, none⟩)), (7, .int .i64 0), (23, .slice t.1 (cv xs ++ [((s.size : Int), (s.size : Int))]).length t.2), (24, .int .i64 (cv xs ++ [((s.size : Int), (s.size : Int))]).length), (25, .int .i64 0)])
    (fun t m => Rs m t.1 (cv xs ++ [((s.size : Int), (s.size : Int))]) ∧ Kp No w3 m) ?_ ?_
  · refine k_ht (fun w' => Kp No w3 w') 99 (by kernel_rfl) (fun m1 k1 _ => ?_)
    refine t_q (i := 0) (by exact waits_of_out (by kernel_rfl)) (by kernel_rfl) rfl (by kernel_rfl) (by kernel_rfl) k1 (fun w' hw => r_mv rfl) ?_
    refine t_q (i := 2) (by exact waits_of_out (by kernel_rfl)) (by kernel_rfl) rfl (by kernel_rfl) (by kernel_rfl) k1 (fun w' hw => r_ld rfl rfl (cell_of_blk (hw.get0 e23) rfl)) ?_
    refine t_q (i := 3) (by exact waits_of_out (by kernel_rfl)) (by kernel_rfl) rfl (by kernel_rfl) (by kernel_rfl) k1 (fun w' hw => r_len rfl) ?_
    refine t_q (i := 4) (by exact waits_of_out (by kernel_rfl)) (by kernel_rfl) rfl (by kernel_rfl) (by kernel_rfl) k1 (fun w' hw => r_ld rfl rfl (cell_of_blk (hw.get0 e23) rfl)) ?_
    refine t_q (i := 5) (by exact waits_of_out (by kernel_rfl)) (by kernel_rfl) rfl (by kernel_rfl) (by kernel_rfl) k1 (fun w' hw => r_len rfl) ?_
    refine t_q (i := 6) (by exact waits_of_out (by kernel_rfl)) (by kernel_rfl) rfl (by kernel_rfl) (by kernel_rfl) k1 (fun w' hw => r_bd rfl) ?_
    refine t_q (i := 10) (by exact waits_of_out (by kernel_rfl)) (by kernel_rfl) rfl (by kernel_rfl) (by kernel_rfl) k1 (fun w' hw => r_mv rfl) ?_
    have z1' := k1.size
    refine t_2 (i := 1) (i2 := 7) (by kernel_rfl) ?_ ?_
    · refine ts_call (us := []) (zs := []) rfl (by kernel_rfl) rfl rfl (Cover xs a cap m1 (h3.kp0 k1) hu (by omega) hcap) ?_
      rintro _ m2 ⟨a4, c4, rfl, ⟨base, hb1, hb2, own⟩, k2'⟩
      refine ⟨fun _ => k1.no k2', ?_⟩
      refine t_1 (i := 7) (by kernel_rfl) ?_
      refine ts_nb (r := fun a => .slice (some a) 1 1) (cs := [.int .i64 s.size, .int .i64 s.size]) rfl (r_bs rfl) (fun b7 m5 n5 => ⟨fun _ => (k1.no k2').no n5.kp, ?_⟩)
      have z5 := n5.kp.size
      obtain ⟨v, m6, hr, own6, k6, _, hrow⟩ := run_app (P := Try.prog) (ty := 27) (w := m5) (base := base) (k := (cv xs).length) (xs := fl (cv xs)) (c := 1) (ad := ⟨b7, 0, none⟩) (m := 1) (news := [.int .i64 s.size, .int .i64 s.size]) (size := 2) (bytes := 16) Try.underlying27 rfl rfl rfl rfl rfl rfl (own_kp own n5.kp (fun _ _ => id)) (fun j u hj => by
        rw [addr_add]
        exact blk_cells n5.blk j u hj) rfl rfl (by omega) (by omega) (by omega)
      have kall : Kp No w3 m6 := ((k1.no k2').no n5.kp).trans k6 (fun q hq hqe => by have := (own_lt (own_kp own n5.kp (fun _ _ => id)) hqe.symm).1; omega)
      refine t_o (ord := [(8, true), (9, false)]) (by exact waits_of_out (by kernel_rfl)) (by kernel_rfl) (by kernel_rfl) rfl rfl ?_
      refine h_go (r_app (e := 26) rfl rfl hr) ⟨fun _ => kall, ?_⟩
      have own7 := own6
      obtain ⟨a6, c6, rfl, hc6, _, _⟩ := own_read own6
      refine h_v kall (fun w' hw => r_len rfl) ?_
      refine h_nil ?_
      have e1 : fl (cv xs ++ [((s.size : Int), (s.size : Int))]) = fl (cv xs) ++ [.int .i64 s.size, .int .i64 s.size] := by rw [fl_app]; rfl
      have e2 : (cv xs ++ [((s.size : Int), (s.size : Int))]).length = (cv xs).length + 1 := by simp
      refine l_cut (a6, c6) ⟨rfl, rfl, rfl, by rw [e2]; rfl, by rw [e2]; rfl, rfl, trivial⟩ ⟨?_, kall⟩
      rw [← e1] at own7
      exact Rs_own own7
    · refine ts_nb (r := fun a => .slice (some a) 1 1) (cs := [.int .i64 s.size, .int .i64 s.size]) rfl (r_bs rfl) (fun b7 m5 n5 => ⟨fun _ => k1.no n5.kp, ?_⟩)
      have z5 := n5.kp.size
      refine t_1 (i := 1) (by kernel_rfl) ?_
      refine ts_call (us := []) (zs := []) rfl (by kernel_rfl) rfl rfl (Cover xs a cap m5 (h3.kp0 (k1.no n5.kp)) hu (by omega) hcap) ?_
      rintro _ m2 ⟨a4, c4, rfl, ⟨base, hb1, hb2, own⟩, k2'⟩
      refine ⟨fun _ => (k1.no n5.kp).no k2', ?_⟩
      obtain ⟨v, m6, hr, own6, k6, _, hrow⟩ := run_app (P := Try.prog) (ty := 27) (w := m2) (base := base) (k := (cv xs).length) (xs := fl (cv xs)) (c := 1) (ad := ⟨b7, 0, none⟩) (m := 1) (news := [.int .i64 s.size, .int .i64 s.size]) (size := 2) (bytes := 16) Try.underlying27 rfl rfl rfl rfl rfl rfl own (fun j u hj => by
        rw [addr_add]
        exact blk_cells (k2'.get0 n5.blk) j u hj) rfl rfl (by omega) (by omega) (by omega)
      have kall : Kp No w3 m6 := ((k1.no n5.kp).no k2').trans k6 (fun q hq hqe => by have := (own_lt own hqe.symm).1; omega)
      refine t_o (ord := [(8, true), (9, false)]) (by exact waits_of_out (by kernel_rfl)) (by kernel_rfl) (by kernel_rfl) rfl rfl ?_
      refine h_go (r_app (e := 26) rfl rfl hr) ⟨fun _ => kall, ?_⟩
      have own7 := own6
      obtain ⟨a6, c6, rfl, hc6, _, _⟩ := own_read own6
      refine h_v kall (fun w' hw => r_len rfl) ?_
      refine h_nil ?_
      have e1 : fl (cv xs ++ [((s.size : Int), (s.size : Int))]) = fl (cv xs) ++ [.int .i64 s.size, .int .i64 s.size] := by rw [fl_app]; rfl
      have e2 : (cv xs ++ [((s.size : Int), (s.size : Int))]).length = (cv xs).length + 1 := by simp
      refine l_cut (a6, c6) ⟨rfl, rfl, rfl, by rw [e2]; rfl, by rw [e2]; rfl, rfl, trivial⟩ ⟨?_, kall⟩
      rw [← e1] at own7
      exact Rs_own own7
  rintro ⟨a6, c6⟩ l m ⟨hm, km⟩
  simp only at hm
  try dsimp only
  have hch := hch hgood
  obtain ⟨L, hL⟩ : ∃ L, cv xs ++ [((s.size : Int), (s.size : Int))] = L := ⟨_, rfl⟩
  have hLl : L.length ≤ 12 := by rw [← hL, List.length_append]; simp; omega
  rw [hL] at hm hch ⊢
  have e6m : m.heap[b6]? = some (.cells [Value.pointer none, .slice none 0 0].toArray 50 (0, 0)) := km.get0 e6
  have e2m := km.get0 e23
  have lb6 := lt_of_get e6m
  have lb2 := lt_of_get e23
  obtain ⟨b, o, rfl, hbm, hcells⟩ : ∃ b o, a6 = some ⟨b, o, none⟩ ∧ b < m.heap.size ∧ ∀ (j : Nat) p, L[j]? = some p → m.cell? ⟨b, o + j * 2, none⟩ = some (.int .i64 p.1) ∧ m.cell? ⟨b, o + j * 2 + 1, none⟩ = some (.int .i64 p.2) := by
    rcases hm with h | h
    · rw [h] at hL; simp at hL
    · exact h
  have hne : b ≠ b6 := by
    rintro rfl
    obtain ⟨p, hp⟩ : ∃ p, L[0]? = some p := by
      cases L with
      | nil => simp at hL
      | cons p r => exact ⟨p, rfl⟩
    have h1 := (hcells 0 p hp).1
    rw [Lib.cell_of_heap e6m] at h1
    match o, h1 with
    | 0, h => cases h
    | 1, h => cases h
    | o + 2, h => simp at h
  have hb2 : b2 ≠ b6 := by have := lt_of_get (k2.get0 e2); omega
  have kb : Kp No w m := kw3.no km
  (repeat (first | refine k_nil ?_ | refine k_n ?_ | refine k_r ?_ | refine k_x ?_ | refine b_n ?_ | refine b_r ?_ | refine b_y rfl ?_ | refine b_z rfl ?_ | refine l_r ?_ | refine l_x ?_ | refine k_seq ?_ | refine k_blk ?_ | refine k_reg ?_ | refine k_ret ?_ | refine k_exit ?_ | refine k_skip ?_ | refine s_v (r_mv rfl) ?_ | refine s_v (r_as rfl) ?_ | refine s_v (r_add rfl rfl (by omega)) ?_ | refine s_v (r_sub rfl rfl (by omega)) ?_ | refine s_v (r_mul rfl rfl (by omega)) ?_ | refine s_v (r_bin rfl) ?_ | refine s_v (r_fa rfl rfl) ?_ | refine s_v (r_ld rfl rfl (by first | assumption | exact cell_of_blk (by assumption) (by rfl))) ?_ | refine s_v (r_nc rfl) ?_ | refine s_v (r_not rfl) ?_ | refine s_v (r_mf rfl rfl) ?_ | refine s_v (r_len rfl) ?_ | refine s_v (r_ex rfl) ?_ | refine s_v (r_fd rfl) ?_ | refine s_v (r_rem rfl rfl (by omega) (by omega)) ?_ | refine s_v (r_cvi rfl rfl rfl (wrap_in (by omega))) ?_ | refine s_v (r_cv rfl) ?_ | refine s_v (r_peq rfl rfl rfl) ?_ | refine s_v (r_pne rfl rfl rfl) ?_ | refine s_v (r_min rfl rfl) ?_ | refine s_v (r_max rfl rfl) ?_ | refine s_v (r_bd rfl) ?_ | refine s_v (r_pt rfl rfl) ?_ | refine s_v (r_pf rfl rfl) ?_))
  refine k_loop (σ := Nat × Int × List Int) (fun t => [(2, .pointer (some ⟨b2, 0, none⟩)), (6, .pointer (some ⟨b6, 0, none⟩)), (7, .int .i64 t.2.1), (23, .slice (some ⟨b, o, none⟩) L.length c6), (24, .int .i64 L.length), (25, .int .i64 t.1)])
    (fun t m' => t.1 ≤ L.length ∧ 0 ≤ t.2.1 ∧ ch s.size t.2.1 (L.drop t.1) ∧ (t.2.2.length : Int) = t.2.1 ∧ rg t.2.2 ∧ t.2.2 ++ wr (B s) t.2.1.toNat (L.drop t.1) = wr (B s) 0 L ∧ Bd m.heap.size No b6 (t.2.2.map (Value.int .u8)) m' ∧ Kp (fun k => k = b6 ∨ m.heap.size ≤ k) m m') (fun t => L.length - t.1) (0, 0, []) ⟨rfl, rfl, rfl, rfl, rfl, rfl, trivial⟩
    ⟨Nat.zero_le _, Int.le_refl _, hch, rfl, (fun _ h => by cases h), rfl, ⟨lb6, _, none, 0, .inl rfl, e6m, World.ownsRow_nil m _ _ _, (fun h => by cases h), (fun _ h => by cases h)⟩, (Kp.refl No m).mono (fun _ _ h => False.elim h)⟩ ?_
  rintro ⟨i, at', out⟩ l m1 ⟨hi, ha0, hc, hlen, hrg, heq, bd, k1⟩
  simp only at hi ha0 hc hlen hrg heq bd
  try dsimp only
  have z1 := k1.size
  have han := ch_le hc
  have e21 := k1.get e2m (by show ¬ (b2 = b6 ∨ m.heap.size ≤ b2); have := lt_of_get e2m; omega)
  have hcells1 : ∀ (j : Nat) p, L[j]? = some p → m1.cell? ⟨b, o + j * 2, none⟩ = some (.int .i64 p.1) ∧ m1.cell? ⟨b, o + j * 2 + 1, none⟩ = some (.int .i64 p.2) := fun j p hj =>
    ⟨k1.cell (hcells j p hj).1 (by show ¬ (b = b6 ∨ m.heap.size ≤ b); omega), k1.cell (hcells j p hj).2 (by show ¬ (b = b6 ∨ m.heap.size ≤ b); omega)⟩
  (repeat (first | refine k_nil ?_ | refine k_n ?_ | refine k_r ?_ | refine k_x ?_ | refine b_n ?_ | refine b_r ?_ | refine b_y rfl ?_ | refine b_z rfl ?_ | refine l_r ?_ | refine l_x ?_ | refine k_seq ?_ | refine k_blk ?_ | refine k_reg ?_ | refine k_ret ?_ | refine k_exit ?_ | refine k_skip ?_ | refine s_v (r_mv rfl) ?_ | refine s_v (r_as rfl) ?_ | refine s_v (r_add rfl rfl (by omega)) ?_ | refine s_v (r_sub rfl rfl (by omega)) ?_ | refine s_v (r_mul rfl rfl (by omega)) ?_ | refine s_v (r_bin rfl) ?_ | refine s_v (r_fa rfl rfl) ?_ | refine s_v (r_ld rfl rfl (by first | assumption | exact cell_of_blk (by assumption) (by rfl))) ?_ | refine s_v (r_nc rfl) ?_ | refine s_v (r_not rfl) ?_ | refine s_v (r_mf rfl rfl) ?_ | refine s_v (r_len rfl) ?_ | refine s_v (r_ex rfl) ?_ | refine s_v (r_fd rfl) ?_ | refine s_v (r_rem rfl rfl (by omega) (by omega)) ?_ | refine s_v (r_cvi rfl rfl rfl (wrap_in (by omega))) ?_ | refine s_v (r_cv rfl) ?_ | refine s_v (r_peq rfl rfl rfl) ?_ | refine s_v (r_pne rfl rfl rfl) ?_ | refine s_v (r_min rfl rfl) ?_ | refine s_v (r_max rfl rfl) ?_ | refine s_v (r_bd rfl) ?_ | refine s_v (r_pt rfl rfl) ?_ | refine s_v (r_pf rfl rfl) ?_))
  refine c_dec rfl (fun hlt => ?_) (fun hge => ?_)
  · obtain ⟨p, hp⟩ : ∃ p, L[i]? = some p := ⟨_, List.getElem?_eq_getElem (by omega)⟩
    have hdrop : L.drop i = p :: L.drop (i + 1) := by
      rw [List.drop_eq_getElem_cons (by omega)]
      congr 1
      exact (List.getElem?_eq_some_iff.1 hp).2
    rw [hdrop] at hc heq
    obtain ⟨hc1, hc2, hc3, hc4⟩ := hc
    have hcell : ∀ k, k < 2 → m1.cell? ⟨b, (o + (i : Int).toNat * 2) + k, none⟩ = [Value.int .i64 p.1, .int .i64 p.2][k]? := fun k hk => by
      rw [Int.toNat_natCast]
      match k, hk with
      | 0, _ => exact (hcells1 i p hp).1
      | 1, _ => exact (hcells1 i p hp).2
    (repeat (first | refine k_nil ?_ | refine k_n ?_ | refine k_r ?_ | refine k_x ?_ | refine b_n ?_ | refine b_r ?_ | refine b_y rfl ?_ | refine b_z rfl ?_ | refine l_r ?_ | refine l_x ?_ | refine k_seq ?_ | refine k_blk ?_ | refine k_reg ?_ | refine k_ret ?_ | refine k_exit ?_ | refine k_skip ?_ | refine s_v (r_mv rfl) ?_ | refine s_v (r_as rfl) ?_ | refine s_v (r_add rfl rfl (by omega)) ?_ | refine s_v (r_sub rfl rfl (by omega)) ?_ | refine s_v (r_mul rfl rfl (by omega)) ?_ | refine s_v (r_bin rfl) ?_ | refine s_v (r_fa rfl rfl) ?_ | refine s_v (r_ld rfl rfl (by first | assumption | exact cell_of_blk (by assumption) (by rfl))) ?_ | refine s_v (r_nc rfl) ?_ | refine s_v (r_not rfl) ?_ | refine s_v (r_mf rfl rfl) ?_ | refine s_v (r_len rfl) ?_ | refine s_v (r_ex rfl) ?_ | refine s_v (r_fd rfl) ?_ | refine s_v (r_rem rfl rfl (by omega) (by omega)) ?_ | refine s_v (r_cvi rfl rfl rfl (wrap_in (by omega))) ?_ | refine s_v (r_cv rfl) ?_ | refine s_v (r_peq rfl rfl rfl) ?_ | refine s_v (r_pne rfl rfl rfl) ?_ | refine s_v (r_min rfl rfl) ?_ | refine s_v (r_max rfl rfl) ?_ | refine s_v (r_bd rfl) ?_ | refine s_v (r_pt rfl rfl) ?_ | refine s_v (r_pf rfl rfl) ?_))
    refine s_v (r_ia rfl rfl rfl rfl (by omega) (by omega)) ?_
    refine s_v (r_lda (vs := [.int .i64 p.1, .int .i64 p.2]) rfl rfl rfl rfl hcell) ?_
    refine s_al rfl (fun b9 m2 n2 => ?_)
    have g9 := n2.ge
    have y9 := n2.lt
    refine s_st rfl rfl rfl rfl rfl n2.blk (Nat.le_of_ble_eq_true rfl) (fun m3 s3 => ?_)
    have k13 : Kp No m1 m3 := n2.kp.trans s3.kp (fun _ _ e => by omega)
    have z3 := k13.size
    have e9 := s3.blk
    have e23' := k13.get0 e21
    have y93 := lt_of_get e9
    (repeat (first | refine k_nil ?_ | refine k_n ?_ | refine k_r ?_ | refine k_x ?_ | refine b_n ?_ | refine b_r ?_ | refine b_y rfl ?_ | refine b_z rfl ?_ | refine l_r ?_ | refine l_x ?_ | refine k_seq ?_ | refine k_blk ?_ | refine k_reg ?_ | refine k_ret ?_ | refine k_exit ?_ | refine k_skip ?_ | refine s_v (r_mv rfl) ?_ | refine s_v (r_as rfl) ?_ | refine s_v (r_add rfl rfl (by omega)) ?_ | refine s_v (r_sub rfl rfl (by omega)) ?_ | refine s_v (r_mul rfl rfl (by omega)) ?_ | refine s_v (r_bin rfl) ?_ | refine s_v (r_fa rfl rfl) ?_ | refine s_v (r_ld rfl rfl (by first | assumption | exact cell_of_blk (by assumption) (by rfl))) ?_ | refine s_v (r_nc rfl) ?_ | refine s_v (r_not rfl) ?_ | refine s_v (r_mf rfl rfl) ?_ | refine s_v (r_len rfl) ?_ | refine s_v (r_ex rfl) ?_ | refine s_v (r_fd rfl) ?_ | refine s_v (r_rem rfl rfl (by omega) (by omega)) ?_ | refine s_v (r_cvi rfl rfl rfl (wrap_in (by omega))) ?_ | refine s_v (r_cv rfl) ?_ | refine s_v (r_peq rfl rfl rfl) ?_ | refine s_v (r_pne rfl rfl rfl) ?_ | refine s_v (r_min rfl rfl) ?_ | refine s_v (r_max rfl rfl) ?_ | refine s_v (r_bd rfl) ?_ | refine s_v (r_pt rfl rfl) ?_ | refine s_v (r_pf rfl rfl) ?_))
    refine s_v (r_ss rfl rfl rfl rfl ha0 hc1 (by omega)) ?_
    obtain ⟨tt, htt⟩ : ∃ tt, s.extract at'.toNat p.1.toNat = tt := ⟨_, rfl⟩
    rw [htt]
    have hts : (tt.size : Int) = p.1 - at' := by rw [← htt, ← B_len, B_extract, List.length_drop, List.length_take, B_len]; omega
    have hBt : B tt = ((B s).take p.1.toNat).drop at'.toNat := by rw [← htt, B_extract]
    refine s_s2b rfl rfl rfl rfl (fun c m4 k4 z4 hrow => ?_)
    obtain ⟨b10, hb10⟩ : ∃ b10, m3.heap.size = b10 := ⟨_, rfl⟩
    rw [hb10] at hrow z4 ⊢
    obtain ⟨X, hX⟩ : ∃ X : Nat → Prop, X = fun k => k < m.heap.size ∨ k = b9 ∨ k = b10 := ⟨_, rfl⟩
    have hXi : ∀ k, X k ↔ (k < m.heap.size ∨ k = b9 ∨ k = b10) := fun k => by rw [hX]
    have hXm : ∀ k, ¬ X k → m.heap.size ≤ k ∧ k ≠ b9 ∧ k ≠ b10 := fun k h => by rw [hXi] at h; simp only [not_or] at h; omega
    have hXs : ∀ k, X k → k < m4.heap.size := fun k h => by rw [hXi] at h; omega
    have bd4 : Bd m.heap.size X b6 (out.map (Value.int .u8)) m4 := bd.kp (k13.no k4) (fun g hg hlt _ => by rw [hXi]; simp only [not_or]; omega)
    have e9' := k4.get0 e9
    have e24 := k4.get0 e23'
    have x2 : X b2 := by rw [hXi]; exact .inl (lt_of_get e2m)
    have x9 : X b9 := by rw [hXi]; exact .inr (.inl rfl)
    have x10 : X b10 := by rw [hXi]; exact .inr (.inr rfl)
    clear hX n2 s3 e9 e23'
    have hout : out.length ≤ 1000 := by omega
    (repeat (first | refine k_nil ?_ | refine k_n ?_ | refine k_r ?_ | refine k_x ?_ | refine b_n ?_ | refine b_r ?_ | refine b_y rfl ?_ | refine b_z rfl ?_ | refine l_r ?_ | refine l_x ?_ | refine k_seq ?_ | refine k_blk ?_ | refine k_reg ?_ | refine k_ret ?_ | refine k_exit ?_ | refine k_skip ?_ | refine s_v (r_mv rfl) ?_ | refine s_v (r_as rfl) ?_ | refine s_v (r_add rfl rfl (by omega)) ?_ | refine s_v (r_sub rfl rfl (by omega)) ?_ | refine s_v (r_mul rfl rfl (by omega)) ?_ | refine s_v (r_bin rfl) ?_ | refine s_v (r_fa rfl rfl) ?_ | refine s_v (r_ld rfl rfl (by first | assumption | exact cell_of_blk (by assumption) (by rfl))) ?_ | refine s_v (r_nc rfl) ?_ | refine s_v (r_not rfl) ?_ | refine s_v (r_mf rfl rfl) ?_ | refine s_v (r_len rfl) ?_ | refine s_v (r_ex rfl) ?_ | refine s_v (r_fd rfl) ?_ | refine s_v (r_rem rfl rfl (by omega) (by omega)) ?_ | refine s_v (r_cvi rfl rfl rfl (wrap_in (by omega))) ?_ | refine s_v (r_cv rfl) ?_ | refine s_v (r_peq rfl rfl rfl) ?_ | refine s_v (r_pne rfl rfl rfl) ?_ | refine s_v (r_min rfl rfl) ?_ | refine s_v (r_max rfl rfl) ?_ | refine s_v (r_bd rfl) ?_ | refine s_v (r_pt rfl rfl) ?_ | refine s_v (r_pf rfl rfl) ?_))
    refine k_loop (σ := Nat) (fun k => [(2, .pointer (some ⟨b2, 0, none⟩)), (6, .pointer (some ⟨b6, 0, none⟩)), (9, .pointer (some ⟨b9, 0, none⟩)), (23, .slice (some ⟨b, o, none⟩) L.length c6), (24, .int .i64 L.length), (25, .int .i64 i), (34, .slice (some ⟨b10, 0, none⟩) tt.size c), (35, .int .i64 tt.size), (36, .int .i64 k)])
      (fun k m' => k ≤ tt.size ∧ Bd m.heap.size X b6 ((out ++ ((B tt).take k).map bln).map (Value.int .u8)) m' ∧ Kp (fun q => q = b6 ∨ ¬ X q) m4 m') (fun k => tt.size - k) 0 ⟨rfl, rfl, rfl, rfl, rfl, rfl, rfl, rfl, rfl, trivial⟩
      ⟨Nat.zero_le _, by simp only [List.take_zero, List.map_nil, List.append_nil]; exact bd4, (Kp.refl No m4).mono (fun _ _ h => False.elim h)⟩ ?_
    rintro k l m5 ⟨hk, bd5, k5⟩
    have z5 := k5.size
    have hl5 : ((out ++ ((B tt).take k).map bln).map (Value.int .u8)).length ≤ 1000000 := by
      rw [List.length_map, List.length_append, List.length_map, List.length_take, B_len]; omega
    (repeat (first | refine k_nil ?_ | refine k_n ?_ | refine k_r ?_ | refine k_x ?_ | refine b_n ?_ | refine b_r ?_ | refine b_y rfl ?_ | refine b_z rfl ?_ | refine l_r ?_ | refine l_x ?_ | refine k_seq ?_ | refine k_blk ?_ | refine k_reg ?_ | refine k_ret ?_ | refine k_exit ?_ | refine k_skip ?_ | refine s_v (r_mv rfl) ?_ | refine s_v (r_as rfl) ?_ | refine s_v (r_add rfl rfl (by omega)) ?_ | refine s_v (r_sub rfl rfl (by omega)) ?_ | refine s_v (r_mul rfl rfl (by omega)) ?_ | refine s_v (r_bin rfl) ?_ | refine s_v (r_fa rfl rfl) ?_ | refine s_v (r_ld rfl rfl (by first | assumption | exact cell_of_blk (by assumption) (by rfl))) ?_ | refine s_v (r_nc rfl) ?_ | refine s_v (r_not rfl) ?_ | refine s_v (r_mf rfl rfl) ?_ | refine s_v (r_len rfl) ?_ | refine s_v (r_ex rfl) ?_ | refine s_v (r_fd rfl) ?_ | refine s_v (r_rem rfl rfl (by omega) (by omega)) ?_ | refine s_v (r_cvi rfl rfl rfl (wrap_in (by omega))) ?_ | refine s_v (r_cv rfl) ?_ | refine s_v (r_peq rfl rfl rfl) ?_ | refine s_v (r_pne rfl rfl rfl) ?_ | refine s_v (r_min rfl rfl) ?_ | refine s_v (r_max rfl rfl) ?_ | refine s_v (r_bd rfl) ?_ | refine s_v (r_pt rfl rfl) ?_ | refine s_v (r_pf rfl rfl) ?_))
    refine c_dec rfl (fun hlt2 => ?_) (fun hge2 => ?_)
    · obtain ⟨x, hx⟩ : ∃ x, (B tt)[k]? = some x := ⟨_, List.getElem?_eq_getElem (by rw [B_len]; omega)⟩
      have hcx := k5.cell (hrow k x hx) (by show ¬ (b10 = b6 ∨ ¬ X b10); simp only [x10, not_true, or_false]; omega)
      have hsn : (out ++ ((B tt).take (k + 1)).map bln).map (Value.int .u8) = (out ++ ((B tt).take k).map bln).map (Value.int .u8) ++ [.int .u8 (bln x)] := by
        rw [take_snoc hx]; simp
      (repeat (first | refine k_nil ?_ | refine k_n ?_ | refine k_r ?_ | refine k_x ?_ | refine b_n ?_ | refine b_r ?_ | refine b_y rfl ?_ | refine b_z rfl ?_ | refine l_r ?_ | refine l_x ?_ | refine k_seq ?_ | refine k_blk ?_ | refine k_reg ?_ | refine k_ret ?_ | refine k_exit ?_ | refine k_skip ?_ | refine s_v (r_mv rfl) ?_ | refine s_v (r_as rfl) ?_ | refine s_v (r_add rfl rfl (by omega)) ?_ | refine s_v (r_sub rfl rfl (by omega)) ?_ | refine s_v (r_mul rfl rfl (by omega)) ?_ | refine s_v (r_bin rfl) ?_ | refine s_v (r_fa rfl rfl) ?_ | refine s_v (r_ld rfl rfl (by first | assumption | exact cell_of_blk (by assumption) (by rfl))) ?_ | refine s_v (r_nc rfl) ?_ | refine s_v (r_not rfl) ?_ | refine s_v (r_mf rfl rfl) ?_ | refine s_v (r_len rfl) ?_ | refine s_v (r_ex rfl) ?_ | refine s_v (r_fd rfl) ?_ | refine s_v (r_rem rfl rfl (by omega) (by omega)) ?_ | refine s_v (r_cvi rfl rfl rfl (wrap_in (by omega))) ?_ | refine s_v (r_cv rfl) ?_ | refine s_v (r_peq rfl rfl rfl) ?_ | refine s_v (r_pne rfl rfl rfl) ?_ | refine s_v (r_min rfl rfl) ?_ | refine s_v (r_max rfl rfl) ?_ | refine s_v (r_bd rfl) ?_ | refine s_v (r_pt rfl rfl) ?_ | refine s_v (r_pf rfl rfl) ?_))
      refine s_v (r_ia rfl rfl rfl rfl (by omega) (by omega)) ?_
      refine s_v (r_ld rfl rfl (by rw [Int.toNat_natCast, Nat.mul_one]; exact hcx)) ?_
      (repeat (first | refine k_nil ?_ | refine k_n ?_ | refine k_r ?_ | refine k_x ?_ | refine b_n ?_ | refine b_r ?_ | refine b_y rfl ?_ | refine b_z rfl ?_ | refine l_r ?_ | refine l_x ?_ | refine k_seq ?_ | refine k_blk ?_ | refine k_reg ?_ | refine k_ret ?_ | refine k_exit ?_ | refine k_skip ?_ | refine s_v (r_mv rfl) ?_ | refine s_v (r_as rfl) ?_ | refine s_v (r_add rfl rfl (by omega)) ?_ | refine s_v (r_sub rfl rfl (by omega)) ?_ | refine s_v (r_mul rfl rfl (by omega)) ?_ | refine s_v (r_bin rfl) ?_ | refine s_v (r_fa rfl rfl) ?_ | refine s_v (r_ld rfl rfl (by first | assumption | exact cell_of_blk (by assumption) (by rfl))) ?_ | refine s_v (r_nc rfl) ?_ | refine s_v (r_not rfl) ?_ | refine s_v (r_mf rfl rfl) ?_ | refine s_v (r_len rfl) ?_ | refine s_v (r_ex rfl) ?_ | refine s_v (r_fd rfl) ?_ | refine s_v (r_rem rfl rfl (by omega) (by omega)) ?_ | refine s_v (r_cvi rfl rfl rfl (wrap_in (by omega))) ?_ | refine s_v (r_cv rfl) ?_ | refine s_v (r_peq rfl rfl rfl) ?_ | refine s_v (r_pne rfl rfl rfl) ?_ | refine s_v (r_min rfl rfl) ?_ | refine s_v (r_max rfl rfl) ?_ | refine s_v (r_bd rfl) ?_ | refine s_v (r_pt rfl rfl) ?_ | refine s_v (r_pf rfl rfl) ?_))
      refine c_ne rfl (fun hxe => ?_) (fun hxe => ?_)
      · (repeat (first | refine k_nil ?_ | refine k_n ?_ | refine k_r ?_ | refine k_x ?_ | refine b_n ?_ | refine b_r ?_ | refine b_y rfl ?_ | refine b_z rfl ?_ | refine l_r ?_ | refine l_x ?_ | refine k_seq ?_ | refine k_blk ?_ | refine k_reg ?_ | refine k_ret ?_ | refine k_exit ?_ | refine k_skip ?_ | refine s_v (r_mv rfl) ?_ | refine s_v (r_as rfl) ?_ | refine s_v (r_add rfl rfl (by omega)) ?_ | refine s_v (r_sub rfl rfl (by omega)) ?_ | refine s_v (r_mul rfl rfl (by omega)) ?_ | refine s_v (r_bin rfl) ?_ | refine s_v (r_fa rfl rfl) ?_ | refine s_v (r_ld rfl rfl (by first | assumption | exact cell_of_blk (by assumption) (by rfl))) ?_ | refine s_v (r_nc rfl) ?_ | refine s_v (r_not rfl) ?_ | refine s_v (r_mf rfl rfl) ?_ | refine s_v (r_len rfl) ?_ | refine s_v (r_ex rfl) ?_ | refine s_v (r_fd rfl) ?_ | refine s_v (r_rem rfl rfl (by omega) (by omega)) ?_ | refine s_v (r_cvi rfl rfl rfl (wrap_in (by omega))) ?_ | refine s_v (r_cv rfl) ?_ | refine s_v (r_peq rfl rfl rfl) ?_ | refine s_v (r_pne rfl rfl rfl) ?_ | refine s_v (r_min rfl rfl) ?_ | refine s_v (r_max rfl rfl) ?_ | refine s_v (r_bd rfl) ?_ | refine s_v (r_pt rfl rfl) ?_ | refine s_v (r_pf rfl rfl) ?_))
        refine s_call (us := []) (zs := []) (by kernel_rfl) rfl rfl (wbyte m.heap.size X b6 _ 32 m5 bd5 hl5 (by omega) (fun q hq => Nat.lt_of_lt_of_le (hXs q hq) z5)) ?_
        rintro _ m6 ⟨bd6, k6⟩
        rw [show (32 : Int) = bln x from by rw [bln, if_neg hxe], ← hsn] at bd6
        (repeat (first | refine k_nil ?_ | refine k_n ?_ | refine k_r ?_ | refine k_x ?_ | refine b_n ?_ | refine b_r ?_ | refine b_y rfl ?_ | refine b_z rfl ?_ | refine l_r ?_ | refine l_x ?_ | refine k_seq ?_ | refine k_blk ?_ | refine k_reg ?_ | refine k_ret ?_ | refine k_exit ?_ | refine k_skip ?_ | refine s_v (r_mv rfl) ?_ | refine s_v (r_as rfl) ?_ | refine s_v (r_add rfl rfl (by omega)) ?_ | refine s_v (r_sub rfl rfl (by omega)) ?_ | refine s_v (r_mul rfl rfl (by omega)) ?_ | refine s_v (r_bin rfl) ?_ | refine s_v (r_fa rfl rfl) ?_ | refine s_v (r_ld rfl rfl (by first | assumption | exact cell_of_blk (by assumption) (by rfl))) ?_ | refine s_v (r_nc rfl) ?_ | refine s_v (r_not rfl) ?_ | refine s_v (r_mf rfl rfl) ?_ | refine s_v (r_len rfl) ?_ | refine s_v (r_ex rfl) ?_ | refine s_v (r_fd rfl) ?_ | refine s_v (r_rem rfl rfl (by omega) (by omega)) ?_ | refine s_v (r_cvi rfl rfl rfl (wrap_in (by omega))) ?_ | refine s_v (r_cv rfl) ?_ | refine s_v (r_peq rfl rfl rfl) ?_ | refine s_v (r_pne rfl rfl rfl) ?_ | refine s_v (r_min rfl rfl) ?_ | refine s_v (r_max rfl rfl) ?_ | refine s_v (r_bd rfl) ?_ | refine s_v (r_pt rfl rfl) ?_ | refine s_v (r_pf rfl rfl) ?_))
        exact l_next (k + 1) ⟨rfl, rfl, rfl, rfl, rfl, rfl, rfl, rfl, rfl, trivial⟩ ⟨by omega, bd6, k5.trans k6 (fun _ _ h => h)⟩ (by show tt.size - (k + 1) < tt.size - k; omega)
      · subst hxe
        (repeat (first | refine k_nil ?_ | refine k_n ?_ | refine k_r ?_ | refine k_x ?_ | refine b_n ?_ | refine b_r ?_ | refine b_y rfl ?_ | refine b_z rfl ?_ | refine l_r ?_ | refine l_x ?_ | refine k_seq ?_ | refine k_blk ?_ | refine k_reg ?_ | refine k_ret ?_ | refine k_exit ?_ | refine k_skip ?_ | refine s_v (r_mv rfl) ?_ | refine s_v (r_as rfl) ?_ | refine s_v (r_add rfl rfl (by omega)) ?_ | refine s_v (r_sub rfl rfl (by omega)) ?_ | refine s_v (r_mul rfl rfl (by omega)) ?_ | refine s_v (r_bin rfl) ?_ | refine s_v (r_fa rfl rfl) ?_ | refine s_v (r_ld rfl rfl (by first | assumption | exact cell_of_blk (by assumption) (by rfl))) ?_ | refine s_v (r_nc rfl) ?_ | refine s_v (r_not rfl) ?_ | refine s_v (r_mf rfl rfl) ?_ | refine s_v (r_len rfl) ?_ | refine s_v (r_ex rfl) ?_ | refine s_v (r_fd rfl) ?_ | refine s_v (r_rem rfl rfl (by omega) (by omega)) ?_ | refine s_v (r_cvi rfl rfl rfl (wrap_in (by omega))) ?_ | refine s_v (r_cv rfl) ?_ | refine s_v (r_peq rfl rfl rfl) ?_ | refine s_v (r_pne rfl rfl rfl) ?_ | refine s_v (r_min rfl rfl) ?_ | refine s_v (r_max rfl rfl) ?_ | refine s_v (r_bd rfl) ?_ | refine s_v (r_pt rfl rfl) ?_ | refine s_v (r_pf rfl rfl) ?_))
        refine s_call (us := []) (zs := []) (by kernel_rfl) rfl rfl (wbyte m.heap.size X b6 _ 10 m5 bd5 hl5 (by omega) (fun q hq => Nat.lt_of_lt_of_le (hXs q hq) z5)) ?_
        rintro _ m6 ⟨bd6, k6⟩
        rw [show (10 : Int) = bln 10 from rfl, ← hsn] at bd6
        (repeat (first | refine k_nil ?_ | refine k_n ?_ | refine k_r ?_ | refine k_x ?_ | refine b_n ?_ | refine b_r ?_ | refine b_y rfl ?_ | refine b_z rfl ?_ | refine l_r ?_ | refine l_x ?_ | refine k_seq ?_ | refine k_blk ?_ | refine k_reg ?_ | refine k_ret ?_ | refine k_exit ?_ | refine k_skip ?_ | refine s_v (r_mv rfl) ?_ | refine s_v (r_as rfl) ?_ | refine s_v (r_add rfl rfl (by omega)) ?_ | refine s_v (r_sub rfl rfl (by omega)) ?_ | refine s_v (r_mul rfl rfl (by omega)) ?_ | refine s_v (r_bin rfl) ?_ | refine s_v (r_fa rfl rfl) ?_ | refine s_v (r_ld rfl rfl (by first | assumption | exact cell_of_blk (by assumption) (by rfl))) ?_ | refine s_v (r_nc rfl) ?_ | refine s_v (r_not rfl) ?_ | refine s_v (r_mf rfl rfl) ?_ | refine s_v (r_len rfl) ?_ | refine s_v (r_ex rfl) ?_ | refine s_v (r_fd rfl) ?_ | refine s_v (r_rem rfl rfl (by omega) (by omega)) ?_ | refine s_v (r_cvi rfl rfl rfl (wrap_in (by omega))) ?_ | refine s_v (r_cv rfl) ?_ | refine s_v (r_peq rfl rfl rfl) ?_ | refine s_v (r_pne rfl rfl rfl) ?_ | refine s_v (r_min rfl rfl) ?_ | refine s_v (r_max rfl rfl) ?_ | refine s_v (r_bd rfl) ?_ | refine s_v (r_pt rfl rfl) ?_ | refine s_v (r_pf rfl rfl) ?_))
        exact l_next (k + 1) ⟨rfl, rfl, rfl, rfl, rfl, rfl, rfl, rfl, rfl, trivial⟩ ⟨by omega, bd6, k5.trans k6 (fun _ _ h => h)⟩ (by show tt.size - (k + 1) < tt.size - k; omega)
    · obtain rfl : k = tt.size := by omega
      rw [List.take_of_length_le (by rw [B_len]; exact Nat.le_refl _)] at bd5
      have e25 := k5.get e24 (by show ¬ (b2 = b6 ∨ ¬ X b2); simp only [x2, not_true, or_false]; exact hb2)
      have e95 := k5.get e9' (by show ¬ (b9 = b6 ∨ ¬ X b9); simp only [x9, not_true, or_false]; omega)
      (repeat (first | refine k_nil ?_ | refine k_n ?_ | refine k_r ?_ | refine k_x ?_ | refine b_n ?_ | refine b_r ?_ | refine b_y rfl ?_ | refine b_z rfl ?_ | refine l_r ?_ | refine l_x ?_ | refine k_seq ?_ | refine k_blk ?_ | refine k_reg ?_ | refine k_ret ?_ | refine k_exit ?_ | refine k_skip ?_ | refine s_v (r_mv rfl) ?_ | refine s_v (r_as rfl) ?_ | refine s_v (r_add rfl rfl (by omega)) ?_ | refine s_v (r_sub rfl rfl (by omega)) ?_ | refine s_v (r_mul rfl rfl (by omega)) ?_ | refine s_v (r_bin rfl) ?_ | refine s_v (r_fa rfl rfl) ?_ | refine s_v (r_ld rfl rfl (by first | assumption | exact cell_of_blk (by assumption) (by rfl))) ?_ | refine s_v (r_nc rfl) ?_ | refine s_v (r_not rfl) ?_ | refine s_v (r_mf rfl rfl) ?_ | refine s_v (r_len rfl) ?_ | refine s_v (r_ex rfl) ?_ | refine s_v (r_fd rfl) ?_ | refine s_v (r_rem rfl rfl (by omega) (by omega)) ?_ | refine s_v (r_cvi rfl rfl rfl (wrap_in (by omega))) ?_ | refine s_v (r_cv rfl) ?_ | refine s_v (r_peq rfl rfl rfl) ?_ | refine s_v (r_pne rfl rfl rfl) ?_ | refine s_v (r_min rfl rfl) ?_ | refine s_v (r_max rfl rfl) ?_ | refine s_v (r_bd rfl) ?_ | refine s_v (r_pt rfl rfl) ?_ | refine s_v (r_pf rfl rfl) ?_))
      refine s_v (r_ldb (vs := [.int .i64 p.1, .int .i64 p.2]) rfl rfl rfl e95 rfl rfl) ?_
      refine s_call (us := []) (zs := []) (by kernel_rfl) rfl rfl (CutS s p m5 (by omega) hc2 hc3) ?_
      rintro _ m6 ⟨rfl, k6⟩
      have e96 := k6.get0 e95
      have z6 := k6.size
      have bd6 := bd5.kp (Y := X) k6 (fun _ _ _ h => h)
      have hml : (B (s.extract p.1.toNat p.2.toNat)).length = p.2.toNat - p.1.toNat := by rw [B_extract, List.length_drop, List.length_take, B_len]; omega
      (repeat (first | refine k_nil ?_ | refine k_n ?_ | refine k_r ?_ | refine k_x ?_ | refine b_n ?_ | refine b_r ?_ | refine b_y rfl ?_ | refine b_z rfl ?_ | refine l_r ?_ | refine l_x ?_ | refine k_seq ?_ | refine k_blk ?_ | refine k_reg ?_ | refine k_ret ?_ | refine k_exit ?_ | refine k_skip ?_ | refine s_v (r_mv rfl) ?_ | refine s_v (r_as rfl) ?_ | refine s_v (r_add rfl rfl (by omega)) ?_ | refine s_v (r_sub rfl rfl (by omega)) ?_ | refine s_v (r_mul rfl rfl (by omega)) ?_ | refine s_v (r_bin rfl) ?_ | refine s_v (r_fa rfl rfl) ?_ | refine s_v (r_ld rfl rfl (by first | assumption | exact cell_of_blk (by assumption) (by rfl))) ?_ | refine s_v (r_nc rfl) ?_ | refine s_v (r_not rfl) ?_ | refine s_v (r_mf rfl rfl) ?_ | refine s_v (r_len rfl) ?_ | refine s_v (r_ex rfl) ?_ | refine s_v (r_fd rfl) ?_ | refine s_v (r_rem rfl rfl (by omega) (by omega)) ?_ | refine s_v (r_cvi rfl rfl rfl (wrap_in (by omega))) ?_ | refine s_v (r_cv rfl) ?_ | refine s_v (r_peq rfl rfl rfl) ?_ | refine s_v (r_pne rfl rfl rfl) ?_ | refine s_v (r_min rfl rfl) ?_ | refine s_v (r_max rfl rfl) ?_ | refine s_v (r_bd rfl) ?_ | refine s_v (r_pt rfl rfl) ?_ | refine s_v (r_pf rfl rfl) ?_))
      refine s_call (us := []) (zs := []) (by kernel_rfl) rfl rfl (wstr m.heap.size X b6 _ (s.extract p.1.toNat p.2.toNat) m6 bd6 (by rw [List.length_map, List.length_append, List.length_map, B_len]; omega) (by rw [← B_len]; omega) (by omega)) ?_
      rintro _ m7 ⟨bd7, k7⟩
      have e97 := k7.get e96 (by show ¬ (b9 = b6 ∨ ¬ X b9); simp only [x9, not_true, or_false]; omega)
      rw [strCells_B, ← List.map_append, List.append_assoc] at bd7
      (repeat (first | refine k_nil ?_ | refine k_n ?_ | refine k_r ?_ | refine k_x ?_ | refine b_n ?_ | refine b_r ?_ | refine b_y rfl ?_ | refine b_z rfl ?_ | refine l_r ?_ | refine l_x ?_ | refine k_seq ?_ | refine k_blk ?_ | refine k_reg ?_ | refine k_ret ?_ | refine k_exit ?_ | refine k_skip ?_ | refine s_v (r_mv rfl) ?_ | refine s_v (r_as rfl) ?_ | refine s_v (r_add rfl rfl (by omega)) ?_ | refine s_v (r_sub rfl rfl (by omega)) ?_ | refine s_v (r_mul rfl rfl (by omega)) ?_ | refine s_v (r_bin rfl) ?_ | refine s_v (r_fa rfl rfl) ?_ | refine s_v (r_ld rfl rfl (by first | assumption | exact cell_of_blk (by assumption) (by rfl))) ?_ | refine s_v (r_nc rfl) ?_ | refine s_v (r_not rfl) ?_ | refine s_v (r_mf rfl rfl) ?_ | refine s_v (r_len rfl) ?_ | refine s_v (r_ex rfl) ?_ | refine s_v (r_fd rfl) ?_ | refine s_v (r_rem rfl rfl (by omega) (by omega)) ?_ | refine s_v (r_cvi rfl rfl rfl (wrap_in (by omega))) ?_ | refine s_v (r_cv rfl) ?_ | refine s_v (r_peq rfl rfl rfl) ?_ | refine s_v (r_pne rfl rfl rfl) ?_ | refine s_v (r_min rfl rfl) ?_ | refine s_v (r_max rfl rfl) ?_ | refine s_v (r_bd rfl) ?_ | refine s_v (r_pt rfl rfl) ?_ | refine s_v (r_pf rfl rfl) ?_))
      refine l_next (i + 1, p.2, out ++ ((B tt).map bln ++ B (s.extract p.1.toNat p.2.toNat))) ⟨rfl, rfl, rfl, rfl, rfl, rfl, trivial⟩ ⟨by show i + 1 ≤ L.length; omega, by show 0 ≤ p.2; omega, hc4, ?_, rg_app hrg (rg_app (rg_bln _) (fun c hc => B_range hc)), ?_, bd7, ?_⟩ (by show L.length - (i + 1) < L.length - i; omega)
      · show (((out ++ ((B tt).map bln ++ B (s.extract p.1.toNat p.2.toNat))).length : Nat) : Int) = p.2
        rw [List.length_append, List.length_append, List.length_map, B_len, hml]; omega
      · show (out ++ ((B tt).map bln ++ B (s.extract p.1.toNat p.2.toNat))) ++ wr (B s) p.2.toNat (L.drop (i + 1)) = wr (B s) 0 L
        rw [← heq, wr, B_extract, hBt]; simp only [List.append_assoc]
      · refine (((k1.no (k13.no k4)).trans k5 (fun q hq hs => ?_)).no k6).trans k7 (fun q hq hs => ?_)
        · rcases hs with h | h
          · exact .inl h
          · exact .inr (hXm q h).1
        · rcases hs with h | h
          · exact .inl h
          · exact .inr (hXm q h).1
  · obtain rfl : i = L.length := by omega
    rw [List.drop_length, wr, List.append_nil] at heq
    (repeat (first | refine k_nil ?_ | refine k_n ?_ | refine k_r ?_ | refine k_x ?_ | refine b_n ?_ | refine b_r ?_ | refine b_y rfl ?_ | refine b_z rfl ?_ | refine l_r ?_ | refine l_x ?_ | refine k_seq ?_ | refine k_blk ?_ | refine k_reg ?_ | refine k_ret ?_ | refine k_exit ?_ | refine k_skip ?_ | refine s_v (r_mv rfl) ?_ | refine s_v (r_as rfl) ?_ | refine s_v (r_add rfl rfl (by omega)) ?_ | refine s_v (r_sub rfl rfl (by omega)) ?_ | refine s_v (r_mul rfl rfl (by omega)) ?_ | refine s_v (r_bin rfl) ?_ | refine s_v (r_fa rfl rfl) ?_ | refine s_v (r_ld rfl rfl (by first | assumption | exact cell_of_blk (by assumption) (by rfl))) ?_ | refine s_v (r_nc rfl) ?_ | refine s_v (r_not rfl) ?_ | refine s_v (r_mf rfl rfl) ?_ | refine s_v (r_len rfl) ?_ | refine s_v (r_ex rfl) ?_ | refine s_v (r_fd rfl) ?_ | refine s_v (r_rem rfl rfl (by omega) (by omega)) ?_ | refine s_v (r_cvi rfl rfl rfl (wrap_in (by omega))) ?_ | refine s_v (r_cv rfl) ?_ | refine s_v (r_peq rfl rfl rfl) ?_ | refine s_v (r_pne rfl rfl rfl) ?_ | refine s_v (r_min rfl rfl) ?_ | refine s_v (r_max rfl rfl) ?_ | refine s_v (r_bd rfl) ?_ | refine s_v (r_pt rfl rfl) ?_ | refine s_v (r_pf rfl rfl) ?_))
    refine s_call (us := []) (zs := []) (by kernel_rfl) rfl rfl (BStr _ b6 out m1 bd hrg z1) ?_
    rintro _ m8 ⟨⟨t, rfl, ht⟩, k8⟩
    (repeat (first | refine k_nil ?_ | refine k_n ?_ | refine k_r ?_ | refine k_x ?_ | refine b_n ?_ | refine b_r ?_ | refine b_y rfl ?_ | refine b_z rfl ?_ | refine l_r ?_ | refine l_x ?_ | refine k_seq ?_ | refine k_blk ?_ | refine k_reg ?_ | refine k_ret ?_ | refine k_exit ?_ | refine k_skip ?_ | refine s_v (r_mv rfl) ?_ | refine s_v (r_as rfl) ?_ | refine s_v (r_add rfl rfl (by omega)) ?_ | refine s_v (r_sub rfl rfl (by omega)) ?_ | refine s_v (r_mul rfl rfl (by omega)) ?_ | refine s_v (r_bin rfl) ?_ | refine s_v (r_fa rfl rfl) ?_ | refine s_v (r_ld rfl rfl (by first | assumption | exact cell_of_blk (by assumption) (by rfl))) ?_ | refine s_v (r_nc rfl) ?_ | refine s_v (r_not rfl) ?_ | refine s_v (r_mf rfl rfl) ?_ | refine s_v (r_len rfl) ?_ | refine s_v (r_ex rfl) ?_ | refine s_v (r_fd rfl) ?_ | refine s_v (r_rem rfl rfl (by omega) (by omega)) ?_ | refine s_v (r_cvi rfl rfl rfl (wrap_in (by omega))) ?_ | refine s_v (r_cv rfl) ?_ | refine s_v (r_peq rfl rfl rfl) ?_ | refine s_v (r_pne rfl rfl rfl) ?_ | refine s_v (r_min rfl rfl) ?_ | refine s_v (r_max rfl rfl) ?_ | refine s_v (r_bd rfl) ?_ | refine s_v (r_pt rfl rfl) ?_ | refine s_v (r_pf rfl rfl) ?_))
    have hwb : w.heap.size ≤ b6 := by have := n1.kp.size; have := k2.size; omega
    have zwm := kb.size
    refine ret_2 rfl rfl rfl ⟨(kb.trans k1 (fun q hq h => ?_)).trans k8 (fun q hq h => ?_), .inr ⟨hgood, t, rfl, ?_⟩⟩
    · rcases h with h | h <;> omega
    · have h : b6 ≤ q := h
      omega
    · rw [ht, heq]
end Pg
end Go.Proofs.Ytimgapkngjkagaa
