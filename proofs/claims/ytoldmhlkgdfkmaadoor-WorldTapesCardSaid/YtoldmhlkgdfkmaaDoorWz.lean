/- Worlds: the program's Parse. -/
import Derived.Test.YtoldmhlkgdfkmaaDoorWy
namespace Go.Proofs.YtoldmhlkgdfkmaaDoor
open Go Go.RowKit Fw Nu Sp Lb
set_option linter.unusedVariables false
set_option maxRecDepth 20000
namespace Wo
theorem isPrefixOf_map (f : UInt8 → Int) (hf : ∀ x y, f x = f y → x = y) : ∀ (p l : List UInt8), (p.map f).isPrefixOf (l.map f) = p.isPrefixOf l := by
  intro p
  induction p with
  | nil => intro l; cases l <;> rfl
  | cons a p ih =>
    intro l
    cases l with
    | nil => rfl
    | cons b l =>
      simp only [List.map_cons, List.isPrefixOf, ih]
      have : (f a == f b) = (a == b) := by
        by_cases h : a = b
        · subst h; rw [beq_self_eq_true, beq_self_eq_true]
        · rw [beq_eq_false_iff_ne.2 (fun e => h (hf _ _ e)), beq_eq_false_iff_ne.2 h]
      rw [this]
theorem nat_inj (x y : UInt8) (h : ((x.toNat : Nat) : Int) = y.toNat) : x = y := UInt8.toNat_inj.1 (by omega)
/-- strings.CutPrefix at "steps ". -/
theorem cutP (s : ByteArray) (w : World) : Ret Tryd.prog 25 [.string s, .string ⟨#[115, 116, 101, 112, 115, 32]⟩] w fun v w1 => w1 = w ∧ ∃ r, v = .tuple [Value.string r, .bool (stepsL.isPrefixOf (B s))].toArray ∧ (stepsL.isPrefixOf (B s) = true → B r = (B s).drop 6) ∧ r.size ≤ s.size := by
  refine Calls.mono (Tryd.strings_CutPrefix s ⟨#[115, 116, 101, 112, 115, 32]⟩ w) ?_
  rintro e w1 ⟨rfl, rfl⟩
  have hp : Lib.hasPrefix s.data.toList [115, 116, 101, 112, 115, 32] = stepsL.isPrefixOf (B s) := by
    rw [Lib.hasPrefix, B, ← isPrefixOf_map (fun b => (b.toNat : Int)) nat_inj]; rfl
  refine ⟨_, rfl, rfl, ⟨(Lib.trimPrefix s.data.toList [115, 116, 101, 112, 115, 32]).toArray⟩, by rw [← hp], fun h => ?_, ?_⟩
  · rw [B]
    show ((Lib.trimPrefix s.data.toList [115, 116, 101, 112, 115, 32]).toArray.toList.map fun b => (b.toNat : Int)) = _
    rw [Lib.trimPrefix, if_pos (by rw [hp]; exact h), B, ← List.map_drop]
    rfl
  · have := Lib.trimPrefix_le s.data.toList [115, 116, 101, 112, 115, 32]
    show (Lib.trimPrefix s.data.toList [115, 116, 101, 112, 115, 32]).toArray.size ≤ s.size
    rw [Lib.size_eq, List.size_toArray]; exact this
/-- strings.CutSuffix at a line end. -/
theorem cutS (s : ByteArray) (w : World) (hs : s.size ≤ 9223372036854775807) : Ret Tryd.prog 26 [.string s, .string ⟨#[10]⟩] w fun v w1 => w1 = w ∧ ∃ r b, v = .tuple [Value.string r, .bool b].toArray ∧ (b = true ↔ (B s).getLast? = some 10) ∧ (b = true → B r = (B s).dropLast) ∧ r.size ≤ s.size := by
  refine Calls.mono (Tryd.strings_CutSuffix s ⟨#[10]⟩ w hs) ?_
  rintro e w1 ⟨rfl, rfl⟩
  have hb : Lib.hasSuffix s.data.toList [10] = true ↔ (B s).getLast? = some 10 := by
    rw [Lib.hasSuffix, List.isSuffixOf_iff_suffix, B, List.getLast?_map]
    constructor
    · rintro ⟨t, ht⟩
      rw [← ht]; simp
    · intro h
      simp only [Option.map_eq_some_iff] at h
      obtain ⟨x, hx, hx2⟩ := h
      have : x = 10 := nat_inj x 10 hx2
      subst this
      have hne : s.data.toList ≠ [] := by intro e; rw [e] at hx; cases hx
      refine ⟨s.data.toList.dropLast, ?_⟩
      have h1 := List.dropLast_concat_getLast hne
      rw [List.getLast?_eq_some_getLast hne] at hx
      rw [Option.some.inj hx] at h1
      exact h1
  refine ⟨_, rfl, rfl, _, _, rfl, hb, fun h => ?_, ?_⟩
  · show ((Lib.trimSuffix s.data.toList [10]).toArray.toList.map fun b => (b.toNat : Int)) = _
    rw [Lib.trimSuffix, if_pos h, B, List.dropLast_eq_take, List.length_map, ← List.map_take]
    rfl
  · have := Lib.trimSuffix_le s.data.toList [10]
    show (Lib.trimSuffix s.data.toList [10]).toArray.size ≤ s.size
    rw [Lib.size_eq, List.size_toArray]; exact this
set_option maxHeartbeats 4000000 in
/-- The program's Parse. -/
theorem Parse (s : ByteArray) (w : World) (hg : Glob w) (hs : s.size ≤ 100000) : Ret Tryd.prog 17 [.string s] w fun v w1 =>
    (∃ n a l c e, pw (B s) = (n, l, e) ∧ v = .tuple [wv n a l.length c, .int .i64 e].toArray ∧ l.length ≤ c ∧ Ri w1 a l) ∧ Kp No w w1 := by
  refine ret_enterM Tryd.func17 rfl Tryd.ntmps17 rfl ?_
  (repeat (first | refine k_nil ?_ | refine k_n ?_ | refine k_r ?_ | refine k_x ?_ | refine b_n ?_ | refine b_r ?_ | refine b_y rfl ?_ | refine b_z rfl ?_ | refine l_r ?_ | refine l_x ?_ | refine k_seq ?_ | refine k_blk ?_ | refine k_reg ?_ | refine k_ret ?_ | refine k_exit ?_ | refine k_skip ?_ | refine s_v (r_mv rfl) ?_ | refine s_v (r_as rfl) ?_ | refine s_v (r_add rfl rfl (by omega)) ?_ | refine s_v (r_sub rfl rfl (by omega)) ?_ | refine s_v (r_mul rfl rfl (by omega)) ?_ | refine s_v (r_bin rfl) ?_ | refine s_v (r_fa rfl rfl) ?_ | refine s_v (r_ld rfl rfl (by first | assumption | exact cell_of_blk (by assumption) (by rfl))) ?_ | refine s_v (r_nc rfl) ?_ | refine s_v (r_not rfl) ?_ | refine s_v (r_mf rfl rfl) ?_ | refine s_v (r_len rfl) ?_ | refine s_v (r_ex rfl) ?_ | refine s_v (r_fd rfl) ?_ | refine s_v (r_rem rfl rfl (by omega) (by omega)) ?_ | refine s_v (r_cvi rfl rfl rfl (wrap_in (by omega))) ?_ | refine s_v (r_cv rfl) ?_ | refine s_v (r_peq rfl rfl rfl) ?_ | refine s_v (r_pne rfl rfl rfl) ?_ | refine s_v (r_min rfl rfl) ?_ | refine s_v (r_max rfl rfl) ?_ | refine s_v (r_bd rfl) ?_ | refine s_v (r_pt rfl rfl) ?_ | refine s_v (r_pf rfl rfl) ?_))
  refine s_al rfl (fun b2 w1 n1 => ?_)
  refine s_al rfl (fun b3 w2 n2 => ?_)
  have x1 := n1.ge
  have x2 := n2.ge
  have y1 := n1.lt
  have y2 := n2.lt
  have z1 := n1.kp.size
  have z2 := n2.kp.size
  have h2 := n2.kp.get0 n1.blk
  have h3 := n2.blk
  have kw2 := n1.kp.no n2.kp
  (repeat (first | refine k_nil ?_ | refine k_n ?_ | refine k_r ?_ | refine k_x ?_ | refine b_n ?_ | refine b_r ?_ | refine b_y rfl ?_ | refine b_z rfl ?_ | refine l_r ?_ | refine l_x ?_ | refine k_seq ?_ | refine k_blk ?_ | refine k_reg ?_ | refine k_ret ?_ | refine k_exit ?_ | refine k_skip ?_ | refine s_v (r_mv rfl) ?_ | refine s_v (r_as rfl) ?_ | refine s_v (r_add rfl rfl (by omega)) ?_ | refine s_v (r_sub rfl rfl (by omega)) ?_ | refine s_v (r_mul rfl rfl (by omega)) ?_ | refine s_v (r_bin rfl) ?_ | refine s_v (r_fa rfl rfl) ?_ | refine s_v (r_ld rfl rfl (by first | assumption | exact cell_of_blk (by assumption) (by rfl))) ?_ | refine s_v (r_nc rfl) ?_ | refine s_v (r_not rfl) ?_ | refine s_v (r_mf rfl rfl) ?_ | refine s_v (r_len rfl) ?_ | refine s_v (r_ex rfl) ?_ | refine s_v (r_fd rfl) ?_ | refine s_v (r_rem rfl rfl (by omega) (by omega)) ?_ | refine s_v (r_cvi rfl rfl rfl (wrap_in (by omega))) ?_ | refine s_v (r_cv rfl) ?_ | refine s_v (r_peq rfl rfl rfl) ?_ | refine s_v (r_pne rfl rfl rfl) ?_ | refine s_v (r_min rfl rfl) ?_ | refine s_v (r_max rfl rfl) ?_ | refine s_v (r_bd rfl) ?_ | refine s_v (r_pt rfl rfl) ?_ | refine s_v (r_pf rfl rfl) ?_))
  refine s_call (us := []) (zs := []) (by kernel_rfl) rfl rfl (cutP s w2) ?_
  rintro _ w3 ⟨rfl, r1, rfl, hr1, hr1s⟩
  (repeat (first | refine k_nil ?_ | refine k_n ?_ | refine k_r ?_ | refine k_x ?_ | refine b_n ?_ | refine b_r ?_ | refine b_y rfl ?_ | refine b_z rfl ?_ | refine l_r ?_ | refine l_x ?_ | refine k_seq ?_ | refine k_blk ?_ | refine k_reg ?_ | refine k_ret ?_ | refine k_exit ?_ | refine k_skip ?_ | refine s_v (r_mv rfl) ?_ | refine s_v (r_as rfl) ?_ | refine s_v (r_add rfl rfl (by omega)) ?_ | refine s_v (r_sub rfl rfl (by omega)) ?_ | refine s_v (r_mul rfl rfl (by omega)) ?_ | refine s_v (r_bin rfl) ?_ | refine s_v (r_fa rfl rfl) ?_ | refine s_v (r_ld rfl rfl (by first | assumption | exact cell_of_blk (by assumption) (by rfl))) ?_ | refine s_v (r_nc rfl) ?_ | refine s_v (r_not rfl) ?_ | refine s_v (r_mf rfl rfl) ?_ | refine s_v (r_len rfl) ?_ | refine s_v (r_ex rfl) ?_ | refine s_v (r_fd rfl) ?_ | refine s_v (r_rem rfl rfl (by omega) (by omega)) ?_ | refine s_v (r_cvi rfl rfl rfl (wrap_in (by omega))) ?_ | refine s_v (r_cv rfl) ?_ | refine s_v (r_peq rfl rfl rfl) ?_ | refine s_v (r_pne rfl rfl rfl) ?_ | refine s_v (r_min rfl rfl) ?_ | refine s_v (r_max rfl rfl) ?_ | refine s_v (r_bd rfl) ?_ | refine s_v (r_pt rfl rfl) ?_ | refine s_v (r_pf rfl rfl) ?_))
  refine s_call (us := []) (zs := []) (by kernel_rfl) rfl rfl (cutS r1 w3 (by omega)) ?_
  rintro _ w4 ⟨rfl, r2, bs, rfl, hbs, hr2, hr2s⟩
  (repeat (first | refine k_nil ?_ | refine k_n ?_ | refine k_r ?_ | refine k_x ?_ | refine b_n ?_ | refine b_r ?_ | refine b_y rfl ?_ | refine b_z rfl ?_ | refine l_r ?_ | refine l_x ?_ | refine k_seq ?_ | refine k_blk ?_ | refine k_ret ?_ | refine k_exit ?_ | refine k_skip ?_ | refine s_v (r_mv rfl) ?_ | refine s_v (r_as rfl) ?_ | refine s_v (r_add rfl rfl (by omega)) ?_ | refine s_v (r_sub rfl rfl (by omega)) ?_ | refine s_v (r_mul rfl rfl (by omega)) ?_ | refine s_v (r_bin rfl) ?_ | refine s_v (r_fa rfl rfl) ?_ | refine s_v (r_ld rfl rfl (by first | assumption | exact cell_of_blk (by assumption) (by rfl))) ?_ | refine s_v (r_nc rfl) ?_ | refine s_v (r_not rfl) ?_ | refine s_v (r_mf rfl rfl) ?_ | refine s_v (r_len rfl) ?_ | refine s_v (r_ex rfl) ?_ | refine s_v (r_fd rfl) ?_ | refine s_v (r_rem rfl rfl (by omega) (by omega)) ?_ | refine s_v (r_cvi rfl rfl rfl (wrap_in (by omega))) ?_ | refine s_v (r_cv rfl) ?_ | refine s_v (r_peq rfl rfl rfl) ?_ | refine s_v (r_pne rfl rfl rfl) ?_ | refine s_v (r_min rfl rfl) ?_ | refine s_v (r_max rfl rfl) ?_ | refine s_v (r_bd rfl) ?_ | refine s_v (r_pt rfl rfl) ?_ | refine s_v (r_pf rfl rfl) ?_))
  have zero : pw (B s) = (0, [], 3) → ∀ m, Kp No w m → (∃ n a l c e, pw (B s) = (n, l, e) ∧ Value.tuple [wv 0 none 0 0, .int .i64 3].toArray = .tuple [wv n a l.length c, .int .i64 e].toArray ∧ l.length ≤ c ∧ Ri m a l) ∧ Kp No w m :=
    fun h m km => ⟨⟨0, none, [], 0, 3, h, rfl, Nat.le_refl _, .inl rfl⟩, km⟩
  have hb23 : b2 ≠ b3 := by omega
  have err : ∀ (l : Slots) (m1 m2 : World), pw (B s) = (0, [], 3) → Sb w4 b2 [.int .i64 0, .slice none 0 0] 24 m1 → Sb m1 b3 [.int .i64 3] 26 m2 → lk 64 l 2 = .pointer (some ⟨b2, 0, none⟩) → lk 64 l 3 = .pointer (some ⟨b3, 0, none⟩) →
      Po (FinM Tryd.prog Tryd.f17 fun v w1 => (∃ n a l c e, pw (B s) = (n, l, e) ∧ v = .tuple [wv n a l.length c, .int .i64 e].toArray ∧ l.length ≤ c ∧ Ri w1 a l) ∧ Kp No w w1) .ret 64 l [] m2 := by
    intro l m1 m2 hpw s1 s2 e2 e3
    exact postM_0 (res_n (rs := [.cell 2 24, .cell 3 26]) (vs := [wv 0 none 0 0, .int .i64 3]) rfl rfl ⟨rv_ag (vs := [.int .i64 0, .slice none 0 0]) e2 rfl rfl (s2.kp.get s1.blk hb23) rfl rfl, rv_1 e3 rfl (cell_of_blk s2.blk rfl), trivial⟩) (zero hpw m2 ((kw2.trans s1.kp (fun _ _ e => by omega)).trans s2.kp (fun _ _ e => by omega)))
  refine k_cut2 (σ := Unit) (fun _ => [(2, .pointer (some ⟨b2, 0, none⟩)), (3, .pointer (some ⟨b3, 0, none⟩)), (4, .string r2)]) (fun _ m => m = w4 ∧ stepsL.isPrefixOf (B s) = true ∧ bs = true) ?_ ?_
  · (repeat (first | refine k_nil ?_ | refine k_n ?_ | refine k_r ?_ | refine k_x ?_ | refine b_n ?_ | refine b_r ?_ | refine b_y rfl ?_ | refine b_z rfl ?_ | refine l_r ?_ | refine l_x ?_ | refine k_seq ?_ | refine k_blk ?_ | refine k_reg ?_ | refine k_ret ?_ | refine k_exit ?_ | refine k_skip ?_ | refine s_v (r_mv rfl) ?_ | refine s_v (r_as rfl) ?_ | refine s_v (r_add rfl rfl (by omega)) ?_ | refine s_v (r_sub rfl rfl (by omega)) ?_ | refine s_v (r_mul rfl rfl (by omega)) ?_ | refine s_v (r_bin rfl) ?_ | refine s_v (r_fa rfl rfl) ?_ | refine s_v (r_ld rfl rfl (by first | assumption | exact cell_of_blk (by assumption) (by rfl))) ?_ | refine s_v (r_nc rfl) ?_ | refine s_v (r_not rfl) ?_ | refine s_v (r_mf rfl rfl) ?_ | refine s_v (r_len rfl) ?_ | refine s_v (r_ex rfl) ?_ | refine s_v (r_fd rfl) ?_ | refine s_v (r_rem rfl rfl (by omega) (by omega)) ?_ | refine s_v (r_cvi rfl rfl rfl (wrap_in (by omega))) ?_ | refine s_v (r_cv rfl) ?_ | refine s_v (r_peq rfl rfl rfl) ?_ | refine s_v (r_pne rfl rfl rfl) ?_ | refine s_v (r_min rfl rfl) ?_ | refine s_v (r_max rfl rfl) ?_ | refine s_v (r_bd rfl) ?_ | refine s_v (r_pt rfl rfl) ?_ | refine s_v (r_pf rfl rfl) ?_))
    by_cases hp : stepsL.isPrefixOf (B s) = true
    case neg =>
      refine s_set 25 true rfl (by rw [Bool.eq_false_iff.2 hp]; rfl) ?_
      (repeat (first | refine k_nil ?_ | refine k_n ?_ | refine k_r ?_ | refine k_x ?_ | refine b_n ?_ | refine b_r ?_ | refine b_y rfl ?_ | refine b_z rfl ?_ | refine l_r ?_ | refine l_x ?_ | refine k_seq ?_ | refine k_blk ?_ | refine k_reg ?_ | refine k_ret ?_ | refine k_exit ?_ | refine k_skip ?_ | refine s_v (r_mv rfl) ?_ | refine s_v (r_as rfl) ?_ | refine s_v (r_add rfl rfl (by omega)) ?_ | refine s_v (r_sub rfl rfl (by omega)) ?_ | refine s_v (r_mul rfl rfl (by omega)) ?_ | refine s_v (r_bin rfl) ?_ | refine s_v (r_fa rfl rfl) ?_ | refine s_v (r_ld rfl rfl (by first | assumption | exact cell_of_blk (by assumption) (by rfl))) ?_ | refine s_v (r_nc rfl) ?_ | refine s_v (r_not rfl) ?_ | refine s_v (r_mf rfl rfl) ?_ | refine s_v (r_len rfl) ?_ | refine s_v (r_ex rfl) ?_ | refine s_v (r_fd rfl) ?_ | refine s_v (r_rem rfl rfl (by omega) (by omega)) ?_ | refine s_v (r_cvi rfl rfl rfl (wrap_in (by omega))) ?_ | refine s_v (r_cv rfl) ?_ | refine s_v (r_peq rfl rfl rfl) ?_ | refine s_v (r_pne rfl rfl rfl) ?_ | refine s_v (r_min rfl rfl) ?_ | refine s_v (r_max rfl rfl) ?_ | refine s_v (r_bd rfl) ?_ | refine s_v (r_pt rfl rfl) ?_ | refine s_v (r_pf rfl rfl) ?_ | refine s_gn rfl rfl ?_ | refine s_gu rfl ?_ | refine s_gv rfl (r_mv rfl) ?_ | refine s_gv rfl (r_add rfl rfl (by omega)) ?_ | refine s_gv rfl (r_sub rfl rfl (by omega)) ?_ | refine s_gv rfl (r_mul rfl rfl (by omega)) ?_ | refine s_gv rfl (r_bin rfl) ?_ | refine s_gv rfl (r_not rfl) ?_ | refine s_gv rfl (r_len rfl) ?_ | refine s_gv rfl (r_pt rfl rfl) ?_ | refine s_gv rfl (r_pf rfl rfl) ?_ | refine s_gv rfl (r_nc rfl) ?_ | refine s_gv rfl (r_fa rfl rfl) ?_ | refine s_gv rfl (r_ld rfl rfl (by first | assumption | exact cell_of_blk (by assumption) (by rfl))) ?_ | refine s_gv rfl (r_cvi rfl rfl rfl (wrap_in (by omega))) ?_ | refine s_gv rfl (r_cv rfl) ?_ | refine s_gv rfl (r_peq rfl rfl rfl) ?_ | refine s_gv rfl (r_fd rfl) ?_ | refine s_gv rfl (r_ex rfl) ?_ | refine s_gv rfl (r_bd rfl) ?_))
      refine c_t rfl ?_
      (repeat (first | refine k_nil ?_ | refine k_n ?_ | refine k_r ?_ | refine k_x ?_ | refine b_n ?_ | refine b_r ?_ | refine b_y rfl ?_ | refine b_z rfl ?_ | refine l_r ?_ | refine l_x ?_ | refine k_seq ?_ | refine k_blk ?_ | refine k_reg ?_ | refine k_ret ?_ | refine k_exit ?_ | refine k_skip ?_ | refine s_v (r_mv rfl) ?_ | refine s_v (r_as rfl) ?_ | refine s_v (r_add rfl rfl (by omega)) ?_ | refine s_v (r_sub rfl rfl (by omega)) ?_ | refine s_v (r_mul rfl rfl (by omega)) ?_ | refine s_v (r_bin rfl) ?_ | refine s_v (r_fa rfl rfl) ?_ | refine s_v (r_ld rfl rfl (by first | assumption | exact cell_of_blk (by assumption) (by rfl))) ?_ | refine s_v (r_nc rfl) ?_ | refine s_v (r_not rfl) ?_ | refine s_v (r_mf rfl rfl) ?_ | refine s_v (r_len rfl) ?_ | refine s_v (r_ex rfl) ?_ | refine s_v (r_fd rfl) ?_ | refine s_v (r_rem rfl rfl (by omega) (by omega)) ?_ | refine s_v (r_cvi rfl rfl rfl (wrap_in (by omega))) ?_ | refine s_v (r_cv rfl) ?_ | refine s_v (r_peq rfl rfl rfl) ?_ | refine s_v (r_pne rfl rfl rfl) ?_ | refine s_v (r_min rfl rfl) ?_ | refine s_v (r_max rfl rfl) ?_ | refine s_v (r_bd rfl) ?_ | refine s_v (r_pt rfl rfl) ?_ | refine s_v (r_pf rfl rfl) ?_))
      refine s_st rfl rfl rfl rfl rfl h2 (Nat.le_of_ble_eq_true rfl) (fun m1 s1 => ?_)
      refine s_st rfl rfl rfl rfl rfl (s1.kp.get h3 (Ne.symm hb23)) (Nat.le_of_ble_eq_true rfl) (fun m2 s2 => ?_)
      (repeat (first | refine k_nil ?_ | refine k_n ?_ | refine k_r ?_ | refine k_x ?_ | refine b_n ?_ | refine b_r ?_ | refine b_y rfl ?_ | refine b_z rfl ?_ | refine l_r ?_ | refine l_x ?_ | refine k_seq ?_ | refine k_blk ?_ | refine k_reg ?_ | refine k_ret ?_ | refine k_exit ?_ | refine k_skip ?_ | refine s_v (r_mv rfl) ?_ | refine s_v (r_as rfl) ?_ | refine s_v (r_add rfl rfl (by omega)) ?_ | refine s_v (r_sub rfl rfl (by omega)) ?_ | refine s_v (r_mul rfl rfl (by omega)) ?_ | refine s_v (r_bin rfl) ?_ | refine s_v (r_fa rfl rfl) ?_ | refine s_v (r_ld rfl rfl (by first | assumption | exact cell_of_blk (by assumption) (by rfl))) ?_ | refine s_v (r_nc rfl) ?_ | refine s_v (r_not rfl) ?_ | refine s_v (r_mf rfl rfl) ?_ | refine s_v (r_len rfl) ?_ | refine s_v (r_ex rfl) ?_ | refine s_v (r_fd rfl) ?_ | refine s_v (r_rem rfl rfl (by omega) (by omega)) ?_ | refine s_v (r_cvi rfl rfl rfl (wrap_in (by omega))) ?_ | refine s_v (r_cv rfl) ?_ | refine s_v (r_peq rfl rfl rfl) ?_ | refine s_v (r_pne rfl rfl rfl) ?_ | refine s_v (r_min rfl rfl) ?_ | refine s_v (r_max rfl rfl) ?_ | refine s_v (r_bd rfl) ?_ | refine s_v (r_pt rfl rfl) ?_ | refine s_v (r_pf rfl rfl) ?_))
      exact err _ m1 m2 (pw_bad fun h => hp h.1) s1 s2 rfl rfl
    refine s_set 25 false rfl (by rw [hp]; rfl) ?_
    (repeat (first | refine k_nil ?_ | refine k_n ?_ | refine k_r ?_ | refine k_x ?_ | refine b_n ?_ | refine b_r ?_ | refine b_y rfl ?_ | refine b_z rfl ?_ | refine l_r ?_ | refine l_x ?_ | refine k_seq ?_ | refine k_blk ?_ | refine k_reg ?_ | refine k_ret ?_ | refine k_exit ?_ | refine k_skip ?_ | refine s_v (r_mv rfl) ?_ | refine s_v (r_as rfl) ?_ | refine s_v (r_add rfl rfl (by omega)) ?_ | refine s_v (r_sub rfl rfl (by omega)) ?_ | refine s_v (r_mul rfl rfl (by omega)) ?_ | refine s_v (r_bin rfl) ?_ | refine s_v (r_fa rfl rfl) ?_ | refine s_v (r_ld rfl rfl (by first | assumption | exact cell_of_blk (by assumption) (by rfl))) ?_ | refine s_v (r_nc rfl) ?_ | refine s_v (r_not rfl) ?_ | refine s_v (r_mf rfl rfl) ?_ | refine s_v (r_len rfl) ?_ | refine s_v (r_ex rfl) ?_ | refine s_v (r_fd rfl) ?_ | refine s_v (r_rem rfl rfl (by omega) (by omega)) ?_ | refine s_v (r_cvi rfl rfl rfl (wrap_in (by omega))) ?_ | refine s_v (r_cv rfl) ?_ | refine s_v (r_peq rfl rfl rfl) ?_ | refine s_v (r_pne rfl rfl rfl) ?_ | refine s_v (r_min rfl rfl) ?_ | refine s_v (r_max rfl rfl) ?_ | refine s_v (r_bd rfl) ?_ | refine s_v (r_pt rfl rfl) ?_ | refine s_v (r_pf rfl rfl) ?_ | refine s_gn rfl rfl ?_ | refine s_gu rfl ?_ | refine s_gv rfl (r_mv rfl) ?_ | refine s_gv rfl (r_add rfl rfl (by omega)) ?_ | refine s_gv rfl (r_sub rfl rfl (by omega)) ?_ | refine s_gv rfl (r_mul rfl rfl (by omega)) ?_ | refine s_gv rfl (r_bin rfl) ?_ | refine s_gv rfl (r_not rfl) ?_ | refine s_gv rfl (r_len rfl) ?_ | refine s_gv rfl (r_pt rfl rfl) ?_ | refine s_gv rfl (r_pf rfl rfl) ?_ | refine s_gv rfl (r_nc rfl) ?_ | refine s_gv rfl (r_fa rfl rfl) ?_ | refine s_gv rfl (r_ld rfl rfl (by first | assumption | exact cell_of_blk (by assumption) (by rfl))) ?_ | refine s_gv rfl (r_cvi rfl rfl rfl (wrap_in (by omega))) ?_ | refine s_gv rfl (r_cv rfl) ?_ | refine s_gv rfl (r_peq rfl rfl rfl) ?_ | refine s_gv rfl (r_fd rfl) ?_ | refine s_gv rfl (r_ex rfl) ?_ | refine s_gv rfl (r_bd rfl) ?_))
    refine c_b rfl (fun hbf => ?_) (fun hbt => ?_)
    · (repeat (first | refine k_nil ?_ | refine k_n ?_ | refine k_r ?_ | refine k_x ?_ | refine b_n ?_ | refine b_r ?_ | refine b_y rfl ?_ | refine b_z rfl ?_ | refine l_r ?_ | refine l_x ?_ | refine k_seq ?_ | refine k_blk ?_ | refine k_reg ?_ | refine k_ret ?_ | refine k_exit ?_ | refine k_skip ?_ | refine s_v (r_mv rfl) ?_ | refine s_v (r_as rfl) ?_ | refine s_v (r_add rfl rfl (by omega)) ?_ | refine s_v (r_sub rfl rfl (by omega)) ?_ | refine s_v (r_mul rfl rfl (by omega)) ?_ | refine s_v (r_bin rfl) ?_ | refine s_v (r_fa rfl rfl) ?_ | refine s_v (r_ld rfl rfl (by first | assumption | exact cell_of_blk (by assumption) (by rfl))) ?_ | refine s_v (r_nc rfl) ?_ | refine s_v (r_not rfl) ?_ | refine s_v (r_mf rfl rfl) ?_ | refine s_v (r_len rfl) ?_ | refine s_v (r_ex rfl) ?_ | refine s_v (r_fd rfl) ?_ | refine s_v (r_rem rfl rfl (by omega) (by omega)) ?_ | refine s_v (r_cvi rfl rfl rfl (wrap_in (by omega))) ?_ | refine s_v (r_cv rfl) ?_ | refine s_v (r_peq rfl rfl rfl) ?_ | refine s_v (r_pne rfl rfl rfl) ?_ | refine s_v (r_min rfl rfl) ?_ | refine s_v (r_max rfl rfl) ?_ | refine s_v (r_bd rfl) ?_ | refine s_v (r_pt rfl rfl) ?_ | refine s_v (r_pf rfl rfl) ?_))
      refine s_st rfl rfl rfl rfl rfl h2 (Nat.le_of_ble_eq_true rfl) (fun m1 s1 => ?_)
      refine s_st rfl rfl rfl rfl rfl (s1.kp.get h3 (Ne.symm hb23)) (Nat.le_of_ble_eq_true rfl) (fun m2 s2 => ?_)
      (repeat (first | refine k_nil ?_ | refine k_n ?_ | refine k_r ?_ | refine k_x ?_ | refine b_n ?_ | refine b_r ?_ | refine b_y rfl ?_ | refine b_z rfl ?_ | refine l_r ?_ | refine l_x ?_ | refine k_seq ?_ | refine k_blk ?_ | refine k_reg ?_ | refine k_ret ?_ | refine k_exit ?_ | refine k_skip ?_ | refine s_v (r_mv rfl) ?_ | refine s_v (r_as rfl) ?_ | refine s_v (r_add rfl rfl (by omega)) ?_ | refine s_v (r_sub rfl rfl (by omega)) ?_ | refine s_v (r_mul rfl rfl (by omega)) ?_ | refine s_v (r_bin rfl) ?_ | refine s_v (r_fa rfl rfl) ?_ | refine s_v (r_ld rfl rfl (by first | assumption | exact cell_of_blk (by assumption) (by rfl))) ?_ | refine s_v (r_nc rfl) ?_ | refine s_v (r_not rfl) ?_ | refine s_v (r_mf rfl rfl) ?_ | refine s_v (r_len rfl) ?_ | refine s_v (r_ex rfl) ?_ | refine s_v (r_fd rfl) ?_ | refine s_v (r_rem rfl rfl (by omega) (by omega)) ?_ | refine s_v (r_cvi rfl rfl rfl (wrap_in (by omega))) ?_ | refine s_v (r_cv rfl) ?_ | refine s_v (r_peq rfl rfl rfl) ?_ | refine s_v (r_pne rfl rfl rfl) ?_ | refine s_v (r_min rfl rfl) ?_ | refine s_v (r_max rfl rfl) ?_ | refine s_v (r_bd rfl) ?_ | refine s_v (r_pt rfl rfl) ?_ | refine s_v (r_pf rfl rfl) ?_))
      have hbf' : bs = false := by simpa using hbf
      exact err _ m1 m2 (pw_bad fun h => by
        rw [← hr1 hp] at h
        rw [hbs.2 h.2] at hbf'; cases hbf') s1 s2 rfl rfl
    · (repeat (first | refine k_nil ?_ | refine k_n ?_ | refine k_r ?_ | refine k_x ?_ | refine b_n ?_ | refine b_r ?_ | refine b_y rfl ?_ | refine b_z rfl ?_ | refine l_r ?_ | refine l_x ?_ | refine k_seq ?_ | refine k_blk ?_ | refine k_reg ?_ | refine k_ret ?_ | refine k_exit ?_ | refine k_skip ?_ | refine s_v (r_mv rfl) ?_ | refine s_v (r_as rfl) ?_ | refine s_v (r_add rfl rfl (by omega)) ?_ | refine s_v (r_sub rfl rfl (by omega)) ?_ | refine s_v (r_mul rfl rfl (by omega)) ?_ | refine s_v (r_bin rfl) ?_ | refine s_v (r_fa rfl rfl) ?_ | refine s_v (r_ld rfl rfl (by first | assumption | exact cell_of_blk (by assumption) (by rfl))) ?_ | refine s_v (r_nc rfl) ?_ | refine s_v (r_not rfl) ?_ | refine s_v (r_mf rfl rfl) ?_ | refine s_v (r_len rfl) ?_ | refine s_v (r_ex rfl) ?_ | refine s_v (r_fd rfl) ?_ | refine s_v (r_rem rfl rfl (by omega) (by omega)) ?_ | refine s_v (r_cvi rfl rfl rfl (wrap_in (by omega))) ?_ | refine s_v (r_cv rfl) ?_ | refine s_v (r_peq rfl rfl rfl) ?_ | refine s_v (r_pne rfl rfl rfl) ?_ | refine s_v (r_min rfl rfl) ?_ | refine s_v (r_max rfl rfl) ?_ | refine s_v (r_bd rfl) ?_ | refine s_v (r_pt rfl rfl) ?_ | refine s_v (r_pf rfl rfl) ?_))
      exact l_cut () ⟨rfl, rfl, rfl, trivial⟩ ⟨rfl, hp, by simpa using hbt⟩
  rintro _ l m ⟨rfl, hp, rfl⟩
  have hbody := hr2 rfl
  have hok : stepsL.isPrefixOf (B s) = true ∧ ((B s).drop 6).getLast? = some 10 := ⟨hp, by rw [← hr1 hp]; exact hbs.1 rfl⟩
  rw [hr1 hp] at hbody
  (repeat (first | refine k_nil ?_ | refine k_n ?_ | refine k_r ?_ | refine k_x ?_ | refine b_n ?_ | refine b_r ?_ | refine b_y rfl ?_ | refine b_z rfl ?_ | refine l_r ?_ | refine l_x ?_ | refine k_seq ?_ | refine k_blk ?_ | refine k_reg ?_ | refine k_ret ?_ | refine k_exit ?_ | refine k_skip ?_ | refine s_v (r_mv rfl) ?_ | refine s_v (r_as rfl) ?_ | refine s_v (r_add rfl rfl (by omega)) ?_ | refine s_v (r_sub rfl rfl (by omega)) ?_ | refine s_v (r_mul rfl rfl (by omega)) ?_ | refine s_v (r_bin rfl) ?_ | refine s_v (r_fa rfl rfl) ?_ | refine s_v (r_ld rfl rfl (by first | assumption | exact cell_of_blk (by assumption) (by rfl))) ?_ | refine s_v (r_nc rfl) ?_ | refine s_v (r_not rfl) ?_ | refine s_v (r_mf rfl rfl) ?_ | refine s_v (r_len rfl) ?_ | refine s_v (r_ex rfl) ?_ | refine s_v (r_fd rfl) ?_ | refine s_v (r_rem rfl rfl (by omega) (by omega)) ?_ | refine s_v (r_cvi rfl rfl rfl (wrap_in (by omega))) ?_ | refine s_v (r_cv rfl) ?_ | refine s_v (r_peq rfl rfl rfl) ?_ | refine s_v (r_pne rfl rfl rfl) ?_ | refine s_v (r_min rfl rfl) ?_ | refine s_v (r_max rfl rfl) ?_ | refine s_v (r_bd rfl) ?_ | refine s_v (r_pt rfl rfl) ?_ | refine s_v (r_pf rfl rfl) ?_))
  refine s_al rfl (fun b7 w5 n7 => ?_)
  have x7 := n7.ge
  have y7 := n7.lt
  have z7 := n7.kp.size
  have kw5 := kw2.no n7.kp
  (repeat (first | refine k_nil ?_ | refine k_n ?_ | refine k_r ?_ | refine k_x ?_ | refine b_n ?_ | refine b_r ?_ | refine b_y rfl ?_ | refine b_z rfl ?_ | refine l_r ?_ | refine l_x ?_ | refine k_seq ?_ | refine k_blk ?_ | refine k_reg ?_ | refine k_ret ?_ | refine k_exit ?_ | refine k_skip ?_ | refine s_v (r_mv rfl) ?_ | refine s_v (r_as rfl) ?_ | refine s_v (r_add rfl rfl (by omega)) ?_ | refine s_v (r_sub rfl rfl (by omega)) ?_ | refine s_v (r_mul rfl rfl (by omega)) ?_ | refine s_v (r_bin rfl) ?_ | refine s_v (r_fa rfl rfl) ?_ | refine s_v (r_ld rfl rfl (by first | assumption | exact cell_of_blk (by assumption) (by rfl))) ?_ | refine s_v (r_nc rfl) ?_ | refine s_v (r_not rfl) ?_ | refine s_v (r_mf rfl rfl) ?_ | refine s_v (r_len rfl) ?_ | refine s_v (r_ex rfl) ?_ | refine s_v (r_fd rfl) ?_ | refine s_v (r_rem rfl rfl (by omega) (by omega)) ?_ | refine s_v (r_cvi rfl rfl rfl (wrap_in (by omega))) ?_ | refine s_v (r_cv rfl) ?_ | refine s_v (r_peq rfl rfl rfl) ?_ | refine s_v (r_pne rfl rfl rfl) ?_ | refine s_v (r_min rfl rfl) ?_ | refine s_v (r_max rfl rfl) ?_ | refine s_v (r_bd rfl) ?_ | refine s_v (r_pt rfl rfl) ?_ | refine s_v (r_pf rfl rfl) ?_))
  refine s_call (us := []) (zs := []) (by kernel_rfl) rfl rfl (Ss.splitSeq r2 32 w5 (by omega)) ?_
  rintro _ w6 ⟨k6, i0, i1, i2, rfl, hi, hit⟩
  have z6 := k6.size
  have kw6 := kw5.no k6
  have h26 := k6.get0 (n7.kp.get0 h2)
  have h36 := k6.get0 (n7.kp.get0 h3)
  have h76 := k6.get0 n7.blk
  obtain ⟨parts, hparts⟩ : ∃ parts, spl 32 (((B s).drop 6).dropLast) = parts := ⟨_, rfl⟩
  have hprt : Ss.prt 32 (B r2) = parts.map fun p => [.string (strOfNums p)] := by rw [← hparts, ← hbody]; rfl
  have hit' : Itr Tryd.prog 46 [.pointer (some ⟨i1, 0, none⟩), .pointer (some ⟨i0, 0, none⟩), .pointer (some ⟨i2, 0, none⟩)] (fun k => k = i0 ∨ k = i1 ∨ k = i2) (parts.map fun p => [.string (strOfNums p)]) w6 := by rw [← hprt]; exact hit
  (repeat (first | refine k_nil ?_ | refine k_n ?_ | refine k_r ?_ | refine k_x ?_ | refine b_n ?_ | refine b_r ?_ | refine b_y rfl ?_ | refine b_z rfl ?_ | refine l_r ?_ | refine l_x ?_ | refine k_seq ?_ | refine k_blk ?_ | refine k_reg ?_ | refine k_ret ?_ | refine k_exit ?_ | refine k_skip ?_ | refine s_v (r_mv rfl) ?_ | refine s_v (r_as rfl) ?_ | refine s_v (r_add rfl rfl (by omega)) ?_ | refine s_v (r_sub rfl rfl (by omega)) ?_ | refine s_v (r_mul rfl rfl (by omega)) ?_ | refine s_v (r_bin rfl) ?_ | refine s_v (r_fa rfl rfl) ?_ | refine s_v (r_ld rfl rfl (by first | assumption | exact cell_of_blk (by assumption) (by rfl))) ?_ | refine s_v (r_nc rfl) ?_ | refine s_v (r_not rfl) ?_ | refine s_v (r_mf rfl rfl) ?_ | refine s_v (r_len rfl) ?_ | refine s_v (r_ex rfl) ?_ | refine s_v (r_fd rfl) ?_ | refine s_v (r_rem rfl rfl (by omega) (by omega)) ?_ | refine s_v (r_cvi rfl rfl rfl (wrap_in (by omega))) ?_ | refine s_v (r_cv rfl) ?_ | refine s_v (r_peq rfl rfl rfl) ?_ | refine s_v (r_pne rfl rfl rfl) ?_ | refine s_v (r_min rfl rfl) ?_ | refine s_v (r_max rfl rfl) ?_ | refine s_v (r_bd rfl) ?_ | refine s_v (r_pt rfl rfl) ?_ | refine s_v (r_pf rfl rfl) ?_))
  refine k_range (gf := 46) (lb := [.pointer (some ⟨i1, 0, none⟩), .pointer (some ⟨i0, 0, none⟩), .pointer (some ⟨i2, 0, none⟩)]) (S0 := fun k => k = b2 ∨ k = b3 ∨ k = b7) (ps := [32]) rfl (by kernel_rfl) hit'
    (fun i S a => S b2 ∧ S b3 ∧ S b7 ∧ a.heap[b2]? = some (.cells [Value.int .i64 0, .slice none 0 0].toArray 24 (0, 0)) ∧ a.heap[b3]? = some (.cells [Value.int .i64 0].toArray 26 (0, 0)) ∧
      ∃ out a' c', (parts.take i).mapM num = some out ∧ a.heap[b7]? = some (.cells [Value.slice a' i c'].toArray 22 (0, 0)) ∧ a.ownsRow w5.heap.size 3 1 (.slice a' i c') i (out.map (.int .i64)) ∧ (∀ g, (Value.slice a' i c').ownBlock = some g → S g))
    (fun c i S a => c = .ret ∧ S b2 ∧ S b3 ∧ a.heap[b2]? = some (.cells [Value.int .i64 0, .slice none 0 0].toArray 24 (0, 0)) ∧ a.heap[b3]? = some (.cells [Value.int .i64 3].toArray 26 (0, 0)) ∧ parts.mapM num = none)
    ?_ ?_ ?_ ?_ ?_ ?_ ?_ ?_ ?_ ?_
  · rintro i S a b ⟨q2, q3, q7, e2, e3, out, a', c', eo, e7, own, hS⟩ hk
    exact ⟨q2, q3, q7, hk.get e2 (fun h => h q2), hk.get e3 (fun h => h q3), out, a', c', eo, hk.get e7 (fun h => h q7), own_kp own hk (fun g hg h => h (hS g hg)), hS⟩
  · rintro c i S a b ⟨rfl, q2, q3, e2, e3, hn⟩ hk
    exact ⟨rfl, q2, q3, hk.get e2 (fun h => h q2), hk.get e3 (fun h => h q3), hn⟩
  · intro k hk
    exact (hi k hk).2
  · rintro k (rfl | rfl | rfl)
    · exact ⟨by omega, fun h => by have := hi _ h; omega⟩
    · exact ⟨by omega, fun h => by have := hi _ h; omega⟩
    · exact ⟨by omega, fun h => by have := hi _ h; omega⟩
  · exact ⟨.inl rfl, .inr (.inl rfl), .inr (.inr rfl), h26, h36, [], none, 0, rfl, h76, World.ownsRow_nil w6 _ _ _, fun g hg => by (cases hg)⟩
  · intro vs hvs
    obtain ⟨p, _, rfl⟩ := List.mem_map.1 hvs
    rfl
  · rintro L i S a vs hvs ⟨q2, q3, q7, e2, e3, out, a', c', eo, e7, own, hSg⟩ hSa ka hL hLa hwL
    rw [List.getElem?_map, Option.map_eq_some_iff] at hvs
    obtain ⟨p, hpi, rfl⟩ := hvs
    have hpm := List.mem_of_getElem? hpi
    rw [← hparts] at hpm
    obtain ⟨hpl, hpx⟩ := spl_sub _ _ p hpm
    have hBp : B (strOfNums p) = p := B_nums fun c hc => B_range (s := s) (List.mem_of_mem_drop (List.dropLast_subset _ (hpx c hc)))
    have hps : (strOfNums p).size ≤ 100000 := by
      rw [← B_len, hBp]
      rw [List.length_dropLast, List.length_drop, B_len] at hpl
      omega
    have hol : out.length = i ∧ i ≤ 100000 := by
      have h1 := (mapM_some eo).1
      have h2 := (List.getElem?_eq_some_iff.1 hpi).1
      have h3 := own.1
      rw [List.length_map, Nat.mul_one] at h3
      have h4 := spl_length 32 (((B s).drop 6).dropLast)
      rw [hparts, List.length_dropLast, List.length_drop, B_len] at h4
      exact ⟨h3, by omega⟩
    refine i_reg ?_
    (repeat (first | refine i_nil ?_ | refine y_nil ?_ | refine i_n ?_ | refine i_r ?_ | refine i_x ?_ | refine j_n ?_ | refine j_r ?_ | refine j_y rfl ?_ | refine j_z rfl ?_ | refine i_seq ?_ | refine i_blk ?_ | refine i_reg ?_ | refine i_ret ?_ | refine i_exit ?_ | refine i_skip ?_ | refine i_v rfl (r_mv rfl) ?_ | refine i_v rfl (r_as rfl) ?_ | refine i_v rfl (r_add rfl rfl (by omega)) ?_ | refine i_v rfl (r_sub rfl rfl (by omega)) ?_ | refine i_v rfl (r_mul rfl rfl (by omega)) ?_ | refine i_v rfl (r_bin rfl) ?_ | refine i_v rfl (r_fa rfl rfl) ?_ | refine i_v rfl (r_ld rfl rfl (by first | assumption | exact cell_of_blk (by assumption) (by rfl))) ?_ | refine i_v rfl (r_nc rfl) ?_ | refine i_v rfl (r_not rfl) ?_ | refine i_v rfl (r_mf rfl rfl) ?_ | refine i_v rfl (r_len rfl) ?_ | refine i_v rfl (r_ex rfl) ?_ | refine i_v rfl (r_fd rfl) ?_ | refine i_v rfl (r_rem rfl rfl (by omega) (by omega)) ?_ | refine i_v rfl (r_cvi rfl rfl rfl (wrap_in (by omega))) ?_ | refine i_v rfl (r_cv rfl) ?_ | refine i_v rfl (r_peq rfl rfl rfl) ?_ | refine i_v rfl (r_pne rfl rfl rfl) ?_ | refine i_v rfl (r_min rfl rfl) ?_ | refine i_v rfl (r_max rfl rfl) ?_ | refine i_v rfl (r_bd rfl) ?_ | refine i_v rfl (r_pt rfl rfl) ?_ | refine i_v rfl (r_pf rfl rfl) ?_))
    refine i_begin (Kp.refl _ _) (fun a1 ka1 => ?_)
    have za1 := ka1.size
    have zka := ka.size
    have d2 := ka1.get e2 (fun h => hL (by rw [← h]; exact q2))
    have d3 := ka1.get e3 (fun h => hL (by rw [← h]; exact q3))
    have d7 := ka1.get e7 (fun h => hL (by rw [← h]; exact q7))
    have downs := own_kp own ka1 (fun g hg h => hL (by rw [← h]; exact hSg g hg))
    have kw1 : Kp No w a1 := (kw6.trans ka (fun k hk h => by
      rcases h with (rfl | rfl | rfl) | h
      · omega
      · omega
      · omega
      · have := hi _ h; omega)).trans ka1 (fun k hk h => by omega)
    have hS1 : ∀ k, S k → k < a1.heap.size := fun k hk => by have := hSa k hk; omega
    (repeat (first | refine i_nil ?_ | refine y_nil ?_ | refine i_n ?_ | refine i_r ?_ | refine i_x ?_ | refine j_n ?_ | refine j_r ?_ | refine j_y rfl ?_ | refine j_z rfl ?_ | refine i_seq ?_ | refine i_blk ?_ | refine i_reg ?_ | refine i_ret ?_ | refine i_exit ?_ | refine i_skip ?_ | refine i_v rfl (r_mv rfl) ?_ | refine i_v rfl (r_as rfl) ?_ | refine i_v rfl (r_add rfl rfl (by omega)) ?_ | refine i_v rfl (r_sub rfl rfl (by omega)) ?_ | refine i_v rfl (r_mul rfl rfl (by omega)) ?_ | refine i_v rfl (r_bin rfl) ?_ | refine i_v rfl (r_fa rfl rfl) ?_ | refine i_v rfl (r_ld rfl rfl (by first | assumption | exact cell_of_blk (by assumption) (by rfl))) ?_ | refine i_v rfl (r_nc rfl) ?_ | refine i_v rfl (r_not rfl) ?_ | refine i_v rfl (r_mf rfl rfl) ?_ | refine i_v rfl (r_len rfl) ?_ | refine i_v rfl (r_ex rfl) ?_ | refine i_v rfl (r_fd rfl) ?_ | refine i_v rfl (r_rem rfl rfl (by omega) (by omega)) ?_ | refine i_v rfl (r_cvi rfl rfl rfl (wrap_in (by omega))) ?_ | refine i_v rfl (r_cv rfl) ?_ | refine i_v rfl (r_peq rfl rfl rfl) ?_ | refine i_v rfl (r_pne rfl rfl rfl) ?_ | refine i_v rfl (r_min rfl rfl) ?_ | refine i_v rfl (r_max rfl rfl) ?_ | refine i_v rfl (r_bd rfl) ?_ | refine i_v rfl (r_pt rfl rfl) ?_ | refine i_v rfl (r_pf rfl rfl) ?_))
    refine i_call (us := []) (zs := []) (by kernel_rfl) rfl rfl (Atoi (strOfNums p) a1 (hg.kp kw1) (by omega)) ?_
    rintro _ m2 ⟨k2, hres⟩
    have zm2 := k2.size
    have bad : num p = none → parts.mapM num = none := by
      intro h
      have : parts = parts.take i ++ p :: parts.drop (i + 1) := by
        conv => lhs; rw [← List.take_append_drop i parts]
        rw [List.drop_eq_getElem_cons (List.getElem?_eq_some_iff.1 hpi).1, (List.getElem?_eq_some_iff.1 hpi).2]
      rw [this]; exact mapM_bad h _ _
    rcases hres with ⟨n, rfl, hat, hn⟩ | ⟨n, t, pp, rfl, hat⟩
    · have hnum := num_ok hat
      rw [hBp] at hnum
      (repeat (first | refine i_nil ?_ | refine y_nil ?_ | refine i_n ?_ | refine i_r ?_ | refine i_x ?_ | refine j_n ?_ | refine j_r ?_ | refine j_y rfl ?_ | refine j_z rfl ?_ | refine i_seq ?_ | refine i_blk ?_ | refine i_reg ?_ | refine i_ret ?_ | refine i_exit ?_ | refine i_skip ?_ | refine i_v rfl (r_mv rfl) ?_ | refine i_v rfl (r_as rfl) ?_ | refine i_v rfl (r_add rfl rfl (by omega)) ?_ | refine i_v rfl (r_sub rfl rfl (by omega)) ?_ | refine i_v rfl (r_mul rfl rfl (by omega)) ?_ | refine i_v rfl (r_bin rfl) ?_ | refine i_v rfl (r_fa rfl rfl) ?_ | refine i_v rfl (r_ld rfl rfl (by first | assumption | exact cell_of_blk (by assumption) (by rfl))) ?_ | refine i_v rfl (r_nc rfl) ?_ | refine i_v rfl (r_not rfl) ?_ | refine i_v rfl (r_mf rfl rfl) ?_ | refine i_v rfl (r_len rfl) ?_ | refine i_v rfl (r_ex rfl) ?_ | refine i_v rfl (r_fd rfl) ?_ | refine i_v rfl (r_rem rfl rfl (by omega) (by omega)) ?_ | refine i_v rfl (r_cvi rfl rfl rfl (wrap_in (by omega))) ?_ | refine i_v rfl (r_cv rfl) ?_ | refine i_v rfl (r_peq rfl rfl rfl) ?_ | refine i_v rfl (r_pne rfl rfl rfl) ?_ | refine i_v rfl (r_min rfl rfl) ?_ | refine i_v rfl (r_max rfl rfl) ?_ | refine i_v rfl (r_bd rfl) ?_ | refine i_v rfl (r_pt rfl rfl) ?_ | refine i_v rfl (r_pf rfl rfl) ?_))
      refine i_v rfl (r_ine rfl rfl rfl rfl) ?_
      (repeat (first | refine i_nil ?_ | refine y_nil ?_ | refine i_n ?_ | refine i_r ?_ | refine i_x ?_ | refine j_n ?_ | refine j_r ?_ | refine j_y rfl ?_ | refine j_z rfl ?_ | refine i_seq ?_ | refine i_blk ?_ | refine i_reg ?_ | refine i_ret ?_ | refine i_exit ?_ | refine i_skip ?_ | refine i_v rfl (r_mv rfl) ?_ | refine i_v rfl (r_as rfl) ?_ | refine i_v rfl (r_add rfl rfl (by omega)) ?_ | refine i_v rfl (r_sub rfl rfl (by omega)) ?_ | refine i_v rfl (r_mul rfl rfl (by omega)) ?_ | refine i_v rfl (r_bin rfl) ?_ | refine i_v rfl (r_fa rfl rfl) ?_ | refine i_v rfl (r_ld rfl rfl (by first | assumption | exact cell_of_blk (by assumption) (by rfl))) ?_ | refine i_v rfl (r_nc rfl) ?_ | refine i_v rfl (r_not rfl) ?_ | refine i_v rfl (r_mf rfl rfl) ?_ | refine i_v rfl (r_len rfl) ?_ | refine i_v rfl (r_ex rfl) ?_ | refine i_v rfl (r_fd rfl) ?_ | refine i_v rfl (r_rem rfl rfl (by omega) (by omega)) ?_ | refine i_v rfl (r_cvi rfl rfl rfl (wrap_in (by omega))) ?_ | refine i_v rfl (r_cv rfl) ?_ | refine i_v rfl (r_peq rfl rfl rfl) ?_ | refine i_v rfl (r_pne rfl rfl rfl) ?_ | refine i_v rfl (r_min rfl rfl) ?_ | refine i_v rfl (r_max rfl rfl) ?_ | refine i_v rfl (r_bd rfl) ?_ | refine i_v rfl (r_pt rfl rfl) ?_ | refine i_v rfl (r_pf rfl rfl) ?_ | refine i_gn rfl rfl ?_ | refine i_gv rfl rfl (r_mv rfl) ?_ | refine i_gv rfl rfl (r_add rfl rfl (by omega)) ?_ | refine i_gv rfl rfl (r_sub rfl rfl (by omega)) ?_ | refine i_gv rfl rfl (r_mul rfl rfl (by omega)) ?_ | refine i_gv rfl rfl (r_bin rfl) ?_ | refine i_gv rfl rfl (r_not rfl) ?_ | refine i_gv rfl rfl (r_len rfl) ?_ | refine i_gv rfl rfl (r_pt rfl rfl) ?_ | refine i_gv rfl rfl (r_pf rfl rfl) ?_ | refine i_gv rfl rfl (r_nc rfl) ?_ | refine i_gv rfl rfl (r_fa rfl rfl) ?_ | refine i_gv rfl rfl (r_ld rfl rfl (by first | assumption | exact cell_of_blk (by assumption) (by rfl))) ?_ | refine i_gv rfl rfl (r_cvi rfl rfl rfl (wrap_in (by omega))) ?_ | refine i_gv rfl rfl (r_cv rfl) ?_ | refine i_gv rfl rfl (r_peq rfl rfl rfl) ?_ | refine i_gv rfl rfl (r_fd rfl) ?_ | refine i_gv rfl rfl (r_ex rfl) ?_ | refine i_gv rfl rfl (r_bd rfl) ?_))
      refine i_gcall rfl (by kernel_rfl) rfl rfl (Itoa n m2 (hg.kp (kw1.no k2)) hn) ?_
      rintro _ m3 ⟨⟨d, rfl, hd⟩, k3⟩
      have k23 := k2.no k3
      have z23 := k23.size
      (repeat (first | refine i_nil ?_ | refine y_nil ?_ | refine i_n ?_ | refine i_r ?_ | refine i_x ?_ | refine j_n ?_ | refine j_r ?_ | refine j_y rfl ?_ | refine j_z rfl ?_ | refine i_seq ?_ | refine i_blk ?_ | refine i_reg ?_ | refine i_ret ?_ | refine i_exit ?_ | refine i_skip ?_ | refine i_v rfl (r_mv rfl) ?_ | refine i_v rfl (r_as rfl) ?_ | refine i_v rfl (r_add rfl rfl (by omega)) ?_ | refine i_v rfl (r_sub rfl rfl (by omega)) ?_ | refine i_v rfl (r_mul rfl rfl (by omega)) ?_ | refine i_v rfl (r_bin rfl) ?_ | refine i_v rfl (r_fa rfl rfl) ?_ | refine i_v rfl (r_ld rfl rfl (by first | assumption | exact cell_of_blk (by assumption) (by rfl))) ?_ | refine i_v rfl (r_nc rfl) ?_ | refine i_v rfl (r_not rfl) ?_ | refine i_v rfl (r_mf rfl rfl) ?_ | refine i_v rfl (r_len rfl) ?_ | refine i_v rfl (r_ex rfl) ?_ | refine i_v rfl (r_fd rfl) ?_ | refine i_v rfl (r_rem rfl rfl (by omega) (by omega)) ?_ | refine i_v rfl (r_cvi rfl rfl rfl (wrap_in (by omega))) ?_ | refine i_v rfl (r_cv rfl) ?_ | refine i_v rfl (r_peq rfl rfl rfl) ?_ | refine i_v rfl (r_pne rfl rfl rfl) ?_ | refine i_v rfl (r_min rfl rfl) ?_ | refine i_v rfl (r_max rfl rfl) ?_ | refine i_v rfl (r_bd rfl) ?_ | refine i_v rfl (r_pt rfl rfl) ?_ | refine i_v rfl (r_pf rfl rfl) ?_ | refine i_gn rfl rfl ?_ | refine i_gv rfl rfl (r_mv rfl) ?_ | refine i_gv rfl rfl (r_add rfl rfl (by omega)) ?_ | refine i_gv rfl rfl (r_sub rfl rfl (by omega)) ?_ | refine i_gv rfl rfl (r_mul rfl rfl (by omega)) ?_ | refine i_gv rfl rfl (r_bin rfl) ?_ | refine i_gv rfl rfl (r_not rfl) ?_ | refine i_gv rfl rfl (r_len rfl) ?_ | refine i_gv rfl rfl (r_pt rfl rfl) ?_ | refine i_gv rfl rfl (r_pf rfl rfl) ?_ | refine i_gv rfl rfl (r_nc rfl) ?_ | refine i_gv rfl rfl (r_fa rfl rfl) ?_ | refine i_gv rfl rfl (r_ld rfl rfl (by first | assumption | exact cell_of_blk (by assumption) (by rfl))) ?_ | refine i_gv rfl rfl (r_cvi rfl rfl rfl (wrap_in (by omega))) ?_ | refine i_gv rfl rfl (r_cv rfl) ?_ | refine i_gv rfl rfl (r_peq rfl rfl rfl) ?_ | refine i_gv rfl rfl (r_fd rfl) ?_ | refine i_gv rfl rfl (r_ex rfl) ?_ | refine i_gv rfl rfl (r_bd rfl) ?_))
      refine ic_b rfl (fun hne => ?_) (fun heq => ?_)
      · have hne' : ¬ dc n = p := fun e => by
          have h1 := (str_eq d (strOfNums p)).trans (decide_eq_true (by rw [hd, hBp, e]))
          rw [h1] at hne
          cases hne
        rw [if_neg hne'] at hnum
        (repeat (first | refine i_nil ?_ | refine y_nil ?_ | refine i_n ?_ | refine i_r ?_ | refine i_x ?_ | refine j_n ?_ | refine j_r ?_ | refine j_y rfl ?_ | refine j_z rfl ?_ | refine i_seq ?_ | refine i_blk ?_ | refine i_reg ?_ | refine i_ret ?_ | refine i_exit ?_ | refine i_skip ?_ | refine i_v rfl (r_mv rfl) ?_ | refine i_v rfl (r_as rfl) ?_ | refine i_v rfl (r_add rfl rfl (by omega)) ?_ | refine i_v rfl (r_sub rfl rfl (by omega)) ?_ | refine i_v rfl (r_mul rfl rfl (by omega)) ?_ | refine i_v rfl (r_bin rfl) ?_ | refine i_v rfl (r_fa rfl rfl) ?_ | refine i_v rfl (r_ld rfl rfl (by first | assumption | exact cell_of_blk (by assumption) (by rfl))) ?_ | refine i_v rfl (r_nc rfl) ?_ | refine i_v rfl (r_not rfl) ?_ | refine i_v rfl (r_mf rfl rfl) ?_ | refine i_v rfl (r_len rfl) ?_ | refine i_v rfl (r_ex rfl) ?_ | refine i_v rfl (r_fd rfl) ?_ | refine i_v rfl (r_rem rfl rfl (by omega) (by omega)) ?_ | refine i_v rfl (r_cvi rfl rfl rfl (wrap_in (by omega))) ?_ | refine i_v rfl (r_cv rfl) ?_ | refine i_v rfl (r_peq rfl rfl rfl) ?_ | refine i_v rfl (r_pne rfl rfl rfl) ?_ | refine i_v rfl (r_min rfl rfl) ?_ | refine i_v rfl (r_max rfl rfl) ?_ | refine i_v rfl (r_bd rfl) ?_ | refine i_v rfl (r_pt rfl rfl) ?_ | refine i_v rfl (r_pf rfl rfl) ?_))
        refine i_st rfl rfl rfl rfl rfl (k23.get0 d2) (Nat.le_of_ble_eq_true rfl) (fun m4 s3 => ?_)
        refine i_st rfl rfl rfl rfl rfl (s3.kp.get (k23.get0 d3) (Ne.symm hb23)) (Nat.le_of_ble_eq_true rfl) (fun m5 s4 => ?_)
        (repeat (first | refine i_nil ?_ | refine y_nil ?_ | refine i_n ?_ | refine i_r ?_ | refine i_x ?_ | refine j_n ?_ | refine j_r ?_ | refine j_y rfl ?_ | refine j_z rfl ?_ | refine i_seq ?_ | refine i_blk ?_ | refine i_reg ?_ | refine i_ret ?_ | refine i_exit ?_ | refine i_skip ?_ | refine i_v rfl (r_mv rfl) ?_ | refine i_v rfl (r_as rfl) ?_ | refine i_v rfl (r_add rfl rfl (by omega)) ?_ | refine i_v rfl (r_sub rfl rfl (by omega)) ?_ | refine i_v rfl (r_mul rfl rfl (by omega)) ?_ | refine i_v rfl (r_bin rfl) ?_ | refine i_v rfl (r_fa rfl rfl) ?_ | refine i_v rfl (r_ld rfl rfl (by first | assumption | exact cell_of_blk (by assumption) (by rfl))) ?_ | refine i_v rfl (r_nc rfl) ?_ | refine i_v rfl (r_not rfl) ?_ | refine i_v rfl (r_mf rfl rfl) ?_ | refine i_v rfl (r_len rfl) ?_ | refine i_v rfl (r_ex rfl) ?_ | refine i_v rfl (r_fd rfl) ?_ | refine i_v rfl (r_rem rfl rfl (by omega) (by omega)) ?_ | refine i_v rfl (r_cvi rfl rfl rfl (wrap_in (by omega))) ?_ | refine i_v rfl (r_cv rfl) ?_ | refine i_v rfl (r_peq rfl rfl rfl) ?_ | refine i_v rfl (r_pne rfl rfl rfl) ?_ | refine i_v rfl (r_min rfl rfl) ?_ | refine i_v rfl (r_max rfl rfl) ?_ | refine i_v rfl (r_bd rfl) ?_ | refine i_v rfl (r_pt rfl rfl) ?_ | refine i_v rfl (r_pf rfl rfl) ?_))
        refine rq_r (S' := S) ⟨fun _ h => h, fun _ h => .inl h, ?_⟩ ⟨rfl, q2, q3, s4.kp.get s3.blk hb23, s4.blk, bad hnum⟩
        exact ((k23.mono fun _ _ h => h.elim : Kp S a1 m3).trans s3.kp (fun k _ e => by rw [e]; exact q2)).trans s4.kp (fun k _ e => by rw [e]; exact q3)
      · have heq' : dc n = p := by
          have h1 : (d.toList == (strOfNums p).toList) = true := by
            cases h2 : (d.toList == (strOfNums p).toList) with
            | true => rfl
            | false => rw [h2] at heq; cases heq
          rw [str_eq] at h1
          rw [← hd, of_decide_eq_true h1, hBp]
        rw [if_pos heq'] at hnum
        have f7 := k23.get0 d7
        (repeat (first | refine i_nil ?_ | refine y_nil ?_ | refine i_n ?_ | refine i_r ?_ | refine i_x ?_ | refine j_n ?_ | refine j_r ?_ | refine j_y rfl ?_ | refine j_z rfl ?_ | refine i_seq ?_ | refine i_blk ?_ | refine i_reg ?_ | refine i_ret ?_ | refine i_exit ?_ | refine i_skip ?_ | refine i_v rfl (r_mv rfl) ?_ | refine i_v rfl (r_as rfl) ?_ | refine i_v rfl (r_add rfl rfl (by omega)) ?_ | refine i_v rfl (r_sub rfl rfl (by omega)) ?_ | refine i_v rfl (r_mul rfl rfl (by omega)) ?_ | refine i_v rfl (r_bin rfl) ?_ | refine i_v rfl (r_fa rfl rfl) ?_ | refine i_v rfl (r_ld rfl rfl (by first | assumption | exact cell_of_blk (by assumption) (by rfl))) ?_ | refine i_v rfl (r_nc rfl) ?_ | refine i_v rfl (r_not rfl) ?_ | refine i_v rfl (r_mf rfl rfl) ?_ | refine i_v rfl (r_len rfl) ?_ | refine i_v rfl (r_ex rfl) ?_ | refine i_v rfl (r_fd rfl) ?_ | refine i_v rfl (r_rem rfl rfl (by omega) (by omega)) ?_ | refine i_v rfl (r_cvi rfl rfl rfl (wrap_in (by omega))) ?_ | refine i_v rfl (r_cv rfl) ?_ | refine i_v rfl (r_peq rfl rfl rfl) ?_ | refine i_v rfl (r_pne rfl rfl rfl) ?_ | refine i_v rfl (r_min rfl rfl) ?_ | refine i_v rfl (r_max rfl rfl) ?_ | refine i_v rfl (r_bd rfl) ?_ | refine i_v rfl (r_pt rfl rfl) ?_ | refine i_v rfl (r_pf rfl rfl) ?_))
        refine i_bs (cs := [.int .i64 n]) (e := 3) rfl (fun b8 m4 n8 => ?_)
        have own4 := own_kp (own_kp downs k23 (fun _ _ => id)) n8.kp (fun _ _ => id)
        have z8 := n8.kp.size
        have g8 := n8.ge
        obtain ⟨v, m5, hr, own5, k5, _, hrow⟩ := run_app (P := Tryd.prog) (ty := 22) (w := m4) (base := w5.heap.size) (k := i) (c := 1) (ad := ⟨b8, 0, none⟩) (m := 1) (news := [.int .i64 n]) (size := 1) (bytes := 8) Tryd.underlying22 rfl rfl rfl rfl rfl rfl own4 (fun j u hj => by
          rw [addr_add]
          exact blk_cells n8.blk j u hj) rfl rfl (by omega) (by omega) (by omega)
        refine i_go rfl (r_app (e := 3) rfl rfl hr) ?_
        have own6 := own5
        obtain ⟨a'', c'', rfl, hc, hnn, hcell⟩ := own_read own5
        have f7' := k5.get (n8.kp.get0 f7) (fun e => by
          have := own_lt own4 e.symm; omega)
        refine i_st rfl rfl rfl rfl rfl f7' (Nat.le_of_ble_eq_true rfl) (fun m6 s6 => ?_)
        (repeat (first | refine i_nil ?_ | refine y_nil ?_ | refine i_n ?_ | refine i_r ?_ | refine i_x ?_ | refine j_n ?_ | refine j_r ?_ | refine j_y rfl ?_ | refine j_z rfl ?_ | refine i_seq ?_ | refine i_blk ?_ | refine i_reg ?_ | refine i_ret ?_ | refine i_exit ?_ | refine i_skip ?_ | refine i_v rfl (r_mv rfl) ?_ | refine i_v rfl (r_as rfl) ?_ | refine i_v rfl (r_add rfl rfl (by omega)) ?_ | refine i_v rfl (r_sub rfl rfl (by omega)) ?_ | refine i_v rfl (r_mul rfl rfl (by omega)) ?_ | refine i_v rfl (r_bin rfl) ?_ | refine i_v rfl (r_fa rfl rfl) ?_ | refine i_v rfl (r_ld rfl rfl (by first | assumption | exact cell_of_blk (by assumption) (by rfl))) ?_ | refine i_v rfl (r_nc rfl) ?_ | refine i_v rfl (r_not rfl) ?_ | refine i_v rfl (r_mf rfl rfl) ?_ | refine i_v rfl (r_len rfl) ?_ | refine i_v rfl (r_ex rfl) ?_ | refine i_v rfl (r_fd rfl) ?_ | refine i_v rfl (r_rem rfl rfl (by omega) (by omega)) ?_ | refine i_v rfl (r_cvi rfl rfl rfl (wrap_in (by omega))) ?_ | refine i_v rfl (r_cv rfl) ?_ | refine i_v rfl (r_peq rfl rfl rfl) ?_ | refine i_v rfl (r_pne rfl rfl rfl) ?_ | refine i_v rfl (r_min rfl rfl) ?_ | refine i_v rfl (r_max rfl rfl) ?_ | refine i_v rfl (r_bd rfl) ?_ | refine i_v rfl (r_pt rfl rfl) ?_ | refine i_v rfl (r_pf rfl rfl) ?_))
        have hrg : ∀ g, (Value.slice a'' (i + 1) c'').ownBlock = some g → S g ∨ a1.heap.size ≤ g := fun g hg => by
          rcases hrow g hg with h | h
          · exact .inl (hSg g h)
          · exact .inr (by omega)
        have hgl : ∀ g, (Value.slice a'' (i + 1) c'').ownBlock = some g → w5.heap.size ≤ g ∧ g < m5.heap.size := fun g hg => own_lt own6 hg
        have zs6 := s6.sz
        have kS : Kp S a1 m6 := (((k23.mono fun _ _ h => h.elim : Kp S a1 m3).no n8.kp).trans k5 (fun k _ e => hSg k e.symm)).trans s6.kp (fun k _ e => by rw [e]; exact q7)
        refine rq_n (S' := fun k => S k ∨ (Value.slice a'' (i + 1) c'').ownBlock = some k) ⟨fun _ h => .inl h, fun k hk => ?_, kS⟩ ⟨.inl q2, .inl q3, .inl q7, ?_, ?_, out ++ [n], a'', c'', ?_, s6.blk, ?_, fun g hg => .inr hg⟩
        · rcases hk with h | h
          · exact .inl h
          · rcases hrg k h with h1 | h1
            · exact .inl h1
            · exact .inr ⟨h1, by have := (hgl k h).2; omega⟩
        · exact s6.kp.get (k5.get (n8.kp.get0 (k23.get0 d2)) (fun e => by have := own_lt own4 e.symm; omega)) (by show ¬ b2 = b7; omega)
        · exact s6.kp.get (k5.get (n8.kp.get0 (k23.get0 d3)) (fun e => by have := own_lt own4 e.symm; omega)) (by show ¬ b3 = b7; omega)
        · rw [List.take_add_one, hpi]
          exact mapM_app eo (mapM_one hnum)
        · have e1 : (out ++ [n]).map (Value.int .i64) = out.map (.int .i64) ++ [.int .i64 n] := by simp
          rw [e1]
          exact own_kp own6 s6.kp (fun g hg e => by have := (hgl g hg).1; omega)
    · have hnum := num_bad hat
      rw [hBp] at hnum
      (repeat (first | refine i_nil ?_ | refine y_nil ?_ | refine i_n ?_ | refine i_r ?_ | refine i_x ?_ | refine j_n ?_ | refine j_r ?_ | refine j_y rfl ?_ | refine j_z rfl ?_ | refine i_seq ?_ | refine i_blk ?_ | refine i_reg ?_ | refine i_ret ?_ | refine i_exit ?_ | refine i_skip ?_ | refine i_v rfl (r_mv rfl) ?_ | refine i_v rfl (r_as rfl) ?_ | refine i_v rfl (r_add rfl rfl (by omega)) ?_ | refine i_v rfl (r_sub rfl rfl (by omega)) ?_ | refine i_v rfl (r_mul rfl rfl (by omega)) ?_ | refine i_v rfl (r_bin rfl) ?_ | refine i_v rfl (r_fa rfl rfl) ?_ | refine i_v rfl (r_ld rfl rfl (by first | assumption | exact cell_of_blk (by assumption) (by rfl))) ?_ | refine i_v rfl (r_nc rfl) ?_ | refine i_v rfl (r_not rfl) ?_ | refine i_v rfl (r_mf rfl rfl) ?_ | refine i_v rfl (r_len rfl) ?_ | refine i_v rfl (r_ex rfl) ?_ | refine i_v rfl (r_fd rfl) ?_ | refine i_v rfl (r_rem rfl rfl (by omega) (by omega)) ?_ | refine i_v rfl (r_cvi rfl rfl rfl (wrap_in (by omega))) ?_ | refine i_v rfl (r_cv rfl) ?_ | refine i_v rfl (r_peq rfl rfl rfl) ?_ | refine i_v rfl (r_pne rfl rfl rfl) ?_ | refine i_v rfl (r_min rfl rfl) ?_ | refine i_v rfl (r_max rfl rfl) ?_ | refine i_v rfl (r_bd rfl) ?_ | refine i_v rfl (r_pt rfl rfl) ?_ | refine i_v rfl (r_pf rfl rfl) ?_))
      refine i_v rfl (r_ine rfl rfl rfl rfl) ?_
      (repeat (first | refine i_nil ?_ | refine y_nil ?_ | refine i_n ?_ | refine i_r ?_ | refine i_x ?_ | refine j_n ?_ | refine j_r ?_ | refine j_y rfl ?_ | refine j_z rfl ?_ | refine i_seq ?_ | refine i_blk ?_ | refine i_reg ?_ | refine i_ret ?_ | refine i_exit ?_ | refine i_skip ?_ | refine i_v rfl (r_mv rfl) ?_ | refine i_v rfl (r_as rfl) ?_ | refine i_v rfl (r_add rfl rfl (by omega)) ?_ | refine i_v rfl (r_sub rfl rfl (by omega)) ?_ | refine i_v rfl (r_mul rfl rfl (by omega)) ?_ | refine i_v rfl (r_bin rfl) ?_ | refine i_v rfl (r_fa rfl rfl) ?_ | refine i_v rfl (r_ld rfl rfl (by first | assumption | exact cell_of_blk (by assumption) (by rfl))) ?_ | refine i_v rfl (r_nc rfl) ?_ | refine i_v rfl (r_not rfl) ?_ | refine i_v rfl (r_mf rfl rfl) ?_ | refine i_v rfl (r_len rfl) ?_ | refine i_v rfl (r_ex rfl) ?_ | refine i_v rfl (r_fd rfl) ?_ | refine i_v rfl (r_rem rfl rfl (by omega) (by omega)) ?_ | refine i_v rfl (r_cvi rfl rfl rfl (wrap_in (by omega))) ?_ | refine i_v rfl (r_cv rfl) ?_ | refine i_v rfl (r_peq rfl rfl rfl) ?_ | refine i_v rfl (r_pne rfl rfl rfl) ?_ | refine i_v rfl (r_min rfl rfl) ?_ | refine i_v rfl (r_max rfl rfl) ?_ | refine i_v rfl (r_bd rfl) ?_ | refine i_v rfl (r_pt rfl rfl) ?_ | refine i_v rfl (r_pf rfl rfl) ?_ | refine i_gn rfl rfl ?_ | refine i_gv rfl rfl (r_mv rfl) ?_ | refine i_gv rfl rfl (r_add rfl rfl (by omega)) ?_ | refine i_gv rfl rfl (r_sub rfl rfl (by omega)) ?_ | refine i_gv rfl rfl (r_mul rfl rfl (by omega)) ?_ | refine i_gv rfl rfl (r_bin rfl) ?_ | refine i_gv rfl rfl (r_not rfl) ?_ | refine i_gv rfl rfl (r_len rfl) ?_ | refine i_gv rfl rfl (r_pt rfl rfl) ?_ | refine i_gv rfl rfl (r_pf rfl rfl) ?_ | refine i_gv rfl rfl (r_nc rfl) ?_ | refine i_gv rfl rfl (r_fa rfl rfl) ?_ | refine i_gv rfl rfl (r_ld rfl rfl (by first | assumption | exact cell_of_blk (by assumption) (by rfl))) ?_ | refine i_gv rfl rfl (r_cvi rfl rfl rfl (wrap_in (by omega))) ?_ | refine i_gv rfl rfl (r_cv rfl) ?_ | refine i_gv rfl rfl (r_peq rfl rfl rfl) ?_ | refine i_gv rfl rfl (r_fd rfl) ?_ | refine i_gv rfl rfl (r_ex rfl) ?_ | refine i_gv rfl rfl (r_bd rfl) ?_))
      refine ic_t rfl ?_
      (repeat (first | refine i_nil ?_ | refine y_nil ?_ | refine i_n ?_ | refine i_r ?_ | refine i_x ?_ | refine j_n ?_ | refine j_r ?_ | refine j_y rfl ?_ | refine j_z rfl ?_ | refine i_seq ?_ | refine i_blk ?_ | refine i_reg ?_ | refine i_ret ?_ | refine i_exit ?_ | refine i_skip ?_ | refine i_v rfl (r_mv rfl) ?_ | refine i_v rfl (r_as rfl) ?_ | refine i_v rfl (r_add rfl rfl (by omega)) ?_ | refine i_v rfl (r_sub rfl rfl (by omega)) ?_ | refine i_v rfl (r_mul rfl rfl (by omega)) ?_ | refine i_v rfl (r_bin rfl) ?_ | refine i_v rfl (r_fa rfl rfl) ?_ | refine i_v rfl (r_ld rfl rfl (by first | assumption | exact cell_of_blk (by assumption) (by rfl))) ?_ | refine i_v rfl (r_nc rfl) ?_ | refine i_v rfl (r_not rfl) ?_ | refine i_v rfl (r_mf rfl rfl) ?_ | refine i_v rfl (r_len rfl) ?_ | refine i_v rfl (r_ex rfl) ?_ | refine i_v rfl (r_fd rfl) ?_ | refine i_v rfl (r_rem rfl rfl (by omega) (by omega)) ?_ | refine i_v rfl (r_cvi rfl rfl rfl (wrap_in (by omega))) ?_ | refine i_v rfl (r_cv rfl) ?_ | refine i_v rfl (r_peq rfl rfl rfl) ?_ | refine i_v rfl (r_pne rfl rfl rfl) ?_ | refine i_v rfl (r_min rfl rfl) ?_ | refine i_v rfl (r_max rfl rfl) ?_ | refine i_v rfl (r_bd rfl) ?_ | refine i_v rfl (r_pt rfl rfl) ?_ | refine i_v rfl (r_pf rfl rfl) ?_))
      refine i_st rfl rfl rfl rfl rfl (k2.get0 d2) (Nat.le_of_ble_eq_true rfl) (fun m3 s3 => ?_)
      refine i_st rfl rfl rfl rfl rfl (s3.kp.get (k2.get0 d3) (Ne.symm hb23)) (Nat.le_of_ble_eq_true rfl) (fun m4 s4 => ?_)
      (repeat (first | refine i_nil ?_ | refine y_nil ?_ | refine i_n ?_ | refine i_r ?_ | refine i_x ?_ | refine j_n ?_ | refine j_r ?_ | refine j_y rfl ?_ | refine j_z rfl ?_ | refine i_seq ?_ | refine i_blk ?_ | refine i_reg ?_ | refine i_ret ?_ | refine i_exit ?_ | refine i_skip ?_ | refine i_v rfl (r_mv rfl) ?_ | refine i_v rfl (r_as rfl) ?_ | refine i_v rfl (r_add rfl rfl (by omega)) ?_ | refine i_v rfl (r_sub rfl rfl (by omega)) ?_ | refine i_v rfl (r_mul rfl rfl (by omega)) ?_ | refine i_v rfl (r_bin rfl) ?_ | refine i_v rfl (r_fa rfl rfl) ?_ | refine i_v rfl (r_ld rfl rfl (by first | assumption | exact cell_of_blk (by assumption) (by rfl))) ?_ | refine i_v rfl (r_nc rfl) ?_ | refine i_v rfl (r_not rfl) ?_ | refine i_v rfl (r_mf rfl rfl) ?_ | refine i_v rfl (r_len rfl) ?_ | refine i_v rfl (r_ex rfl) ?_ | refine i_v rfl (r_fd rfl) ?_ | refine i_v rfl (r_rem rfl rfl (by omega) (by omega)) ?_ | refine i_v rfl (r_cvi rfl rfl rfl (wrap_in (by omega))) ?_ | refine i_v rfl (r_cv rfl) ?_ | refine i_v rfl (r_peq rfl rfl rfl) ?_ | refine i_v rfl (r_pne rfl rfl rfl) ?_ | refine i_v rfl (r_min rfl rfl) ?_ | refine i_v rfl (r_max rfl rfl) ?_ | refine i_v rfl (r_bd rfl) ?_ | refine i_v rfl (r_pt rfl rfl) ?_ | refine i_v rfl (r_pf rfl rfl) ?_))
      refine rq_r (S' := S) ⟨fun _ h => h, fun _ h => .inl h, ?_⟩ ⟨rfl, q2, q3, s4.kp.get s3.blk hb23, s4.blk, bad hnum⟩
      exact ((k2.mono fun _ _ h => h.elim : Kp S a1 m2).trans s3.kp (fun k _ e => by rw [e]; exact q2)).trans s4.kp (fun k _ e => by rw [e]; exact q3)
  · rintro D S b ⟨q2, q3, q7, e2, e3, out, a', c', eo, e7, own, hSg⟩ kb hD hwD hSD
    rw [List.length_map] at eo e7 own hSg
    rw [List.take_length] at eo
    have kwb : Kp No w b := kw6.trans kb (fun k hk h => by
      rcases h with (rfl | rfl | rfl) | h
      · omega
      · omega
      · omega
      · have := hi _ h; omega)
    have hzs : nums (((B s).drop 6).dropLast) = some out := by rw [nums, hparts]; exact eo
    obtain ⟨a0, c0, ea, hnc, hlen, hri⟩ := own_ri own
    cases ea
    obtain ⟨n0, r, rfl⟩ : ∃ n0 r, out = n0 :: r := by
      cases out with
      | nil =>
        have h1 := List.length_pos_iff.2 (spl_ne 32 (((B s).drop 6).dropLast))
        rw [hparts] at h1
        simp at hlen; omega
      | cons x r => exact ⟨x, r, rfl⟩
    have hpw := pw_some hok hzs
    rw [List.length_cons] at hlen
    have hpl : parts.length ≤ 100000 := by
      have h4 := spl_length 32 (((B s).drop 6).dropLast)
      rw [hparts, List.length_dropLast, List.length_drop, B_len] at h4
      omega
    obtain ⟨bo, oo, rfl, hc0⟩ := hri.at (j := 0) rfl
    (repeat (first | refine k_nil ?_ | refine k_n ?_ | refine k_r ?_ | refine k_x ?_ | refine b_n ?_ | refine b_r ?_ | refine b_y rfl ?_ | refine b_z rfl ?_ | refine l_r ?_ | refine l_x ?_ | refine k_seq ?_ | refine k_blk ?_ | refine k_ret ?_ | refine k_exit ?_ | refine k_skip ?_ | refine s_v (r_mv rfl) ?_ | refine s_v (r_as rfl) ?_ | refine s_v (r_add rfl rfl (by omega)) ?_ | refine s_v (r_sub rfl rfl (by omega)) ?_ | refine s_v (r_mul rfl rfl (by omega)) ?_ | refine s_v (r_bin rfl) ?_ | refine s_v (r_fa rfl rfl) ?_ | refine s_v (r_ld rfl rfl (by first | assumption | exact cell_of_blk (by assumption) (by rfl))) ?_ | refine s_v (r_nc rfl) ?_ | refine s_v (r_not rfl) ?_ | refine s_v (r_mf rfl rfl) ?_ | refine s_v (r_len rfl) ?_ | refine s_v (r_ex rfl) ?_ | refine s_v (r_fd rfl) ?_ | refine s_v (r_rem rfl rfl (by omega) (by omega)) ?_ | refine s_v (r_cvi rfl rfl rfl (wrap_in (by omega))) ?_ | refine s_v (r_cv rfl) ?_ | refine s_v (r_peq rfl rfl rfl) ?_ | refine s_v (r_pne rfl rfl rfl) ?_ | refine s_v (r_min rfl rfl) ?_ | refine s_v (r_max rfl rfl) ?_ | refine s_v (r_bd rfl) ?_ | refine s_v (r_pt rfl rfl) ?_ | refine s_v (r_pf rfl rfl) ?_))
    refine k_h (fun w' => Kp No b w') [(0, false), (1, false), (2, false), (3, false), (4, false), (5, false), (6, true), (7, true)] 7 (by kernel_rfl) (by exact waits_of_last (by kernel_rfl)) (by kernel_rfl) (by kernel_rfl) rfl rfl (fun b1 kb1 _ => ?_)
    refine h_v kb1 (fun w' hw => r_ld rfl rfl (cell_of_blk (hw.get0 e7) rfl)) ?_
    refine h_v kb1 (fun w' hw => r_ia rfl rfl rfl rfl (by omega) (by omega)) ?_
    refine h_v kb1 (fun w' hw => r_ld rfl rfl (hw.cell0 hc0)) ?_
    refine h_v kb1 (fun w' hw => r_ld rfl rfl (cell_of_blk (hw.get0 e7) rfl)) ?_
    refine h_v kb1 (fun w' hw => r_slx (a' := subA (some ⟨bo, oo, none⟩) 1 c' 1) (n' := r.length) (c' := c' - 1) rfl rfl rfl rfl rfl (by omega) (by omega) (by omega) (by omega) rfl (by omega) rfl) ?_
    refine h_v kb1 (fun w' hw => r_bd rfl) ?_
    refine h_nb (r := fun a => .pointer (some a)) (r_al rfl) (fun b11 m1 n11 => ⟨fun _ => kb1.no n11.kp, ?_⟩)
    have g11 := n11.ge
    have zb1 := kb1.size
    have zb := kwb.size
    refine h_st rfl rfl rfl rfl rfl n11.blk (Nat.le_of_ble_eq_true rfl) (fun m2 s2 => ⟨fun h => absurd rfl h, ?_⟩)
    refine h_nil ?_
    have l2 := lt_of_get e2
    have l3 := lt_of_get e3
    have lD := lt_of_get hD
    have f2 := s2.kp.get (n11.kp.get0 (kb1.get0 e2)) (by show ¬ b2 = b11; omega)
    have f3 := s2.kp.get (n11.kp.get0 (kb1.get0 e3)) (by show ¬ b3 = b11; omega)
    have fD := s2.kp.get (n11.kp.get0 (kb1.get0 hD)) (by show ¬ D = b11; omega)
    have kbm : Kp No b m2 := (kb1.no n11.kp).trans s2.kp (fun k _ e => by omega)
    have hri2 := (hri.kp kbm).sub (k := 1) (c := c') (by rw [List.length_cons]; omega)
    have f11 := s2.blk
    (repeat (first | refine k_nil ?_ | refine k_n ?_ | refine k_r ?_ | refine k_x ?_ | refine b_n ?_ | refine b_r ?_ | refine b_y rfl ?_ | refine b_z rfl ?_ | refine l_r ?_ | refine l_x ?_ | refine k_seq ?_ | refine k_blk ?_ | refine k_reg ?_ | refine k_ret ?_ | refine k_exit ?_ | refine k_skip ?_ | refine s_v (r_mv rfl) ?_ | refine s_v (r_as rfl) ?_ | refine s_v (r_add rfl rfl (by omega)) ?_ | refine s_v (r_sub rfl rfl (by omega)) ?_ | refine s_v (r_mul rfl rfl (by omega)) ?_ | refine s_v (r_bin rfl) ?_ | refine s_v (r_fa rfl rfl) ?_ | refine s_v (r_ld rfl rfl (by first | assumption | exact cell_of_blk (by assumption) (by rfl))) ?_ | refine s_v (r_nc rfl) ?_ | refine s_v (r_not rfl) ?_ | refine s_v (r_mf rfl rfl) ?_ | refine s_v (r_len rfl) ?_ | refine s_v (r_ex rfl) ?_ | refine s_v (r_fd rfl) ?_ | refine s_v (r_rem rfl rfl (by omega) (by omega)) ?_ | refine s_v (r_cvi rfl rfl rfl (wrap_in (by omega))) ?_ | refine s_v (r_cv rfl) ?_ | refine s_v (r_peq rfl rfl rfl) ?_ | refine s_v (r_pne rfl rfl rfl) ?_ | refine s_v (r_min rfl rfl) ?_ | refine s_v (r_max rfl rfl) ?_ | refine s_v (r_bd rfl) ?_ | refine s_v (r_pt rfl rfl) ?_ | refine s_v (r_pf rfl rfl) ?_))
    refine s_v (r_ldb (vs := [.int .i64 n0, .slice (subA (some ⟨bo, oo, none⟩) 1 c' 1) r.length (c' - 1)]) rfl rfl rfl f11 rfl rfl) ?_
    refine s_call (us := []) (zs := []) (by kernel_rfl) rfl rfl (Good n0 _ r.length (c' - 1) m2) ?_
    rintro _ m3 ⟨rfl, k3⟩
    have z3 := k3.size
    have kwm3 := (kwb.no kbm).no k3
    (repeat (first | refine k_nil ?_ | refine k_n ?_ | refine k_r ?_ | refine k_x ?_ | refine b_n ?_ | refine b_r ?_ | refine b_y rfl ?_ | refine b_z rfl ?_ | refine l_r ?_ | refine l_x ?_ | refine k_seq ?_ | refine k_blk ?_ | refine k_reg ?_ | refine k_ret ?_ | refine k_exit ?_ | refine k_skip ?_ | refine s_v (r_mv rfl) ?_ | refine s_v (r_as rfl) ?_ | refine s_v (r_add rfl rfl (by omega)) ?_ | refine s_v (r_sub rfl rfl (by omega)) ?_ | refine s_v (r_mul rfl rfl (by omega)) ?_ | refine s_v (r_bin rfl) ?_ | refine s_v (r_fa rfl rfl) ?_ | refine s_v (r_ld rfl rfl (by first | assumption | exact cell_of_blk (by assumption) (by rfl))) ?_ | refine s_v (r_nc rfl) ?_ | refine s_v (r_not rfl) ?_ | refine s_v (r_mf rfl rfl) ?_ | refine s_v (r_len rfl) ?_ | refine s_v (r_ex rfl) ?_ | refine s_v (r_fd rfl) ?_ | refine s_v (r_rem rfl rfl (by omega) (by omega)) ?_ | refine s_v (r_cvi rfl rfl rfl (wrap_in (by omega))) ?_ | refine s_v (r_cv rfl) ?_ | refine s_v (r_peq rfl rfl rfl) ?_ | refine s_v (r_pne rfl rfl rfl) ?_ | refine s_v (r_min rfl rfl) ?_ | refine s_v (r_max rfl rfl) ?_ | refine s_v (r_bd rfl) ?_ | refine s_v (r_pt rfl rfl) ?_ | refine s_v (r_pf rfl rfl) ?_))
    by_cases hgd : gd n0 r.length
    · rw [if_pos hgd] at hpw
      refine k_re 60 (v' := .bool false) rfl (congrArg _ (gd_ne hgd)) ?_
      refine c_f rfl ?_
      (repeat (first | refine k_nil ?_ | refine k_n ?_ | refine k_r ?_ | refine k_x ?_ | refine b_n ?_ | refine b_r ?_ | refine b_y rfl ?_ | refine b_z rfl ?_ | refine l_r ?_ | refine l_x ?_ | refine k_seq ?_ | refine k_blk ?_ | refine k_reg ?_ | refine k_ret ?_ | refine k_exit ?_ | refine k_skip ?_ | refine s_v (r_mv rfl) ?_ | refine s_v (r_as rfl) ?_ | refine s_v (r_add rfl rfl (by omega)) ?_ | refine s_v (r_sub rfl rfl (by omega)) ?_ | refine s_v (r_mul rfl rfl (by omega)) ?_ | refine s_v (r_bin rfl) ?_ | refine s_v (r_fa rfl rfl) ?_ | refine s_v (r_ld rfl rfl (by first | assumption | exact cell_of_blk (by assumption) (by rfl))) ?_ | refine s_v (r_nc rfl) ?_ | refine s_v (r_not rfl) ?_ | refine s_v (r_mf rfl rfl) ?_ | refine s_v (r_len rfl) ?_ | refine s_v (r_ex rfl) ?_ | refine s_v (r_fd rfl) ?_ | refine s_v (r_rem rfl rfl (by omega) (by omega)) ?_ | refine s_v (r_cvi rfl rfl rfl (wrap_in (by omega))) ?_ | refine s_v (r_cv rfl) ?_ | refine s_v (r_peq rfl rfl rfl) ?_ | refine s_v (r_pne rfl rfl rfl) ?_ | refine s_v (r_min rfl rfl) ?_ | refine s_v (r_max rfl rfl) ?_ | refine s_v (r_bd rfl) ?_ | refine s_v (r_pt rfl rfl) ?_ | refine s_v (r_pf rfl rfl) ?_))
      refine s_v (r_ldb (vs := [.int .i64 n0, .slice (subA (some ⟨bo, oo, none⟩) 1 c' 1) r.length (c' - 1)]) rfl rfl rfl (k3.get0 f11) rfl rfl) ?_
      refine s_st rfl rfl rfl rfl rfl (k3.get0 f2) (Nat.le_of_ble_eq_true rfl) (fun m4 s4 => ?_)
      refine s_st rfl rfl rfl rfl rfl (s4.kp.get (k3.get0 f3) (Ne.symm hb23)) (Nat.le_of_ble_eq_true rfl) (fun m5 s5 => ?_)
      (repeat (first | refine k_nil ?_ | refine k_n ?_ | refine k_r ?_ | refine k_x ?_ | refine b_n ?_ | refine b_r ?_ | refine b_y rfl ?_ | refine b_z rfl ?_ | refine l_r ?_ | refine l_x ?_ | refine k_seq ?_ | refine k_blk ?_ | refine k_reg ?_ | refine k_ret ?_ | refine k_exit ?_ | refine k_skip ?_ | refine s_v (r_mv rfl) ?_ | refine s_v (r_as rfl) ?_ | refine s_v (r_add rfl rfl (by omega)) ?_ | refine s_v (r_sub rfl rfl (by omega)) ?_ | refine s_v (r_mul rfl rfl (by omega)) ?_ | refine s_v (r_bin rfl) ?_ | refine s_v (r_fa rfl rfl) ?_ | refine s_v (r_ld rfl rfl (by first | assumption | exact cell_of_blk (by assumption) (by rfl))) ?_ | refine s_v (r_nc rfl) ?_ | refine s_v (r_not rfl) ?_ | refine s_v (r_mf rfl rfl) ?_ | refine s_v (r_len rfl) ?_ | refine s_v (r_ex rfl) ?_ | refine s_v (r_fd rfl) ?_ | refine s_v (r_rem rfl rfl (by omega) (by omega)) ?_ | refine s_v (r_cvi rfl rfl rfl (wrap_in (by omega))) ?_ | refine s_v (r_cv rfl) ?_ | refine s_v (r_peq rfl rfl rfl) ?_ | refine s_v (r_pne rfl rfl rfl) ?_ | refine s_v (r_min rfl rfl) ?_ | refine s_v (r_max rfl rfl) ?_ | refine s_v (r_bd rfl) ?_ | refine s_v (r_pt rfl rfl) ?_ | refine s_v (r_pf rfl rfl) ?_))
      have kw5' := (kwm3.trans s4.kp (fun k _ e => by omega)).trans s5.kp (fun k _ e => by omega)
      have kb5 : Kp (fun k => k = b2 ∨ k = b3) b m5 := (((kbm.no k3).mono fun _ _ h => h.elim : Kp (fun k => k = b2 ∨ k = b3) b m3).trans s4.kp (fun k _ e => .inl e)).trans s5.kp (fun k _ e => .inr e)
      refine postM_1 (s5.kp.get (s4.kp.get (k3.get0 fD) (by show ¬ D = b2; omega)) (by show ¬ D = b3; omega)) (fun m' hk => ⟨res_n (rs := [.cell 2 24, .cell 3 26]) (vs := [wv n0 (subA (some ⟨bo, oo, none⟩) 1 c' 1) r.length (c' - 1), .int .i64 0]) rfl rfl
        ⟨rv_ag (vs := [.int .i64 n0, .slice (subA (some ⟨bo, oo, none⟩) 1 c' 1) r.length (c' - 1)]) rfl rfl rfl (hk.get (s5.kp.get s4.blk (by show ¬ b2 = b3; omega)) (by show ¬ b2 = D; omega)) rfl rfl, rv_1 rfl rfl (cell_of_blk (hk.get s5.blk (by show ¬ b3 = D; omega)) rfl), trivial⟩,
        ⟨n0, _, r, _, 0, hpw, rfl, by omega, ?_⟩, kw5'.trans hk (fun k _ e => by omega)⟩)
      have hown : ∀ g, (Value.slice (some ⟨bo, oo, none⟩) parts.length c').ownBlock = some g → w5.heap.size ≤ g := fun g hg => (own_lt own hg).1
      have kb6 : Kp (fun k => k = b2 ∨ k = b3 ∨ k = D) b m' := (kb5.mono fun k _ h => h.elim .inl fun h => .inr (.inl h)).trans hk (fun k _ e => .inr (.inr e))
      have own' := own_kp own kb6 (fun g hg h => by
        have h1 := hown g hg
        rcases h with h | h | h
        · omega
        · omega
        · exact hSD (by rw [← h]; exact hSg g hg))
      exact (Ri_own own').sub (k := 1) (c := c') (by rw [List.length_cons]; omega)
    · rw [if_neg hgd] at hpw
      refine k_re 60 (v' := .bool true) rfl (congrArg _ (gd_ne' hgd)) ?_
      refine c_t rfl ?_
      (repeat (first | refine k_nil ?_ | refine k_n ?_ | refine k_r ?_ | refine k_x ?_ | refine b_n ?_ | refine b_r ?_ | refine b_y rfl ?_ | refine b_z rfl ?_ | refine l_r ?_ | refine l_x ?_ | refine k_seq ?_ | refine k_blk ?_ | refine k_reg ?_ | refine k_ret ?_ | refine k_exit ?_ | refine k_skip ?_ | refine s_v (r_mv rfl) ?_ | refine s_v (r_as rfl) ?_ | refine s_v (r_add rfl rfl (by omega)) ?_ | refine s_v (r_sub rfl rfl (by omega)) ?_ | refine s_v (r_mul rfl rfl (by omega)) ?_ | refine s_v (r_bin rfl) ?_ | refine s_v (r_fa rfl rfl) ?_ | refine s_v (r_ld rfl rfl (by first | assumption | exact cell_of_blk (by assumption) (by rfl))) ?_ | refine s_v (r_nc rfl) ?_ | refine s_v (r_not rfl) ?_ | refine s_v (r_mf rfl rfl) ?_ | refine s_v (r_len rfl) ?_ | refine s_v (r_ex rfl) ?_ | refine s_v (r_fd rfl) ?_ | refine s_v (r_rem rfl rfl (by omega) (by omega)) ?_ | refine s_v (r_cvi rfl rfl rfl (wrap_in (by omega))) ?_ | refine s_v (r_cv rfl) ?_ | refine s_v (r_peq rfl rfl rfl) ?_ | refine s_v (r_pne rfl rfl rfl) ?_ | refine s_v (r_min rfl rfl) ?_ | refine s_v (r_max rfl rfl) ?_ | refine s_v (r_bd rfl) ?_ | refine s_v (r_pt rfl rfl) ?_ | refine s_v (r_pf rfl rfl) ?_))
      have e15 : gdE n0 r.length = 15 := by rw [gdE, if_neg hgd]
      rw [e15]
      refine s_st rfl rfl rfl rfl rfl (k3.get0 f2) (Nat.le_of_ble_eq_true rfl) (fun m4 s4 => ?_)
      refine s_st rfl rfl rfl rfl rfl (s4.kp.get (k3.get0 f3) (Ne.symm hb23)) (Nat.le_of_ble_eq_true rfl) (fun m5 s5 => ?_)
      (repeat (first | refine k_nil ?_ | refine k_n ?_ | refine k_r ?_ | refine k_x ?_ | refine b_n ?_ | refine b_r ?_ | refine b_y rfl ?_ | refine b_z rfl ?_ | refine l_r ?_ | refine l_x ?_ | refine k_seq ?_ | refine k_blk ?_ | refine k_reg ?_ | refine k_ret ?_ | refine k_exit ?_ | refine k_skip ?_ | refine s_v (r_mv rfl) ?_ | refine s_v (r_as rfl) ?_ | refine s_v (r_add rfl rfl (by omega)) ?_ | refine s_v (r_sub rfl rfl (by omega)) ?_ | refine s_v (r_mul rfl rfl (by omega)) ?_ | refine s_v (r_bin rfl) ?_ | refine s_v (r_fa rfl rfl) ?_ | refine s_v (r_ld rfl rfl (by first | assumption | exact cell_of_blk (by assumption) (by rfl))) ?_ | refine s_v (r_nc rfl) ?_ | refine s_v (r_not rfl) ?_ | refine s_v (r_mf rfl rfl) ?_ | refine s_v (r_len rfl) ?_ | refine s_v (r_ex rfl) ?_ | refine s_v (r_fd rfl) ?_ | refine s_v (r_rem rfl rfl (by omega) (by omega)) ?_ | refine s_v (r_cvi rfl rfl rfl (wrap_in (by omega))) ?_ | refine s_v (r_cv rfl) ?_ | refine s_v (r_peq rfl rfl rfl) ?_ | refine s_v (r_pne rfl rfl rfl) ?_ | refine s_v (r_min rfl rfl) ?_ | refine s_v (r_max rfl rfl) ?_ | refine s_v (r_bd rfl) ?_ | refine s_v (r_pt rfl rfl) ?_ | refine s_v (r_pf rfl rfl) ?_))
      have kw5' := (kwm3.trans s4.kp (fun k _ e => by omega)).trans s5.kp (fun k _ e => by omega)
      refine postM_1 (s5.kp.get (s4.kp.get (k3.get0 fD) (by show ¬ D = b2; omega)) (by show ¬ D = b3; omega)) (fun m' hk => ⟨res_n (rs := [.cell 2 24, .cell 3 26]) (vs := [wv 0 none 0 0, .int .i64 15]) rfl rfl
        ⟨rv_ag (vs := [.int .i64 0, .slice none 0 0]) rfl rfl rfl (hk.get (s5.kp.get s4.blk (by show ¬ b2 = b3; omega)) (by show ¬ b2 = D; omega)) rfl rfl, rv_1 rfl rfl (cell_of_blk (hk.get s5.blk (by show ¬ b3 = D; omega)) rfl), trivial⟩,
        ⟨0, none, [], 0, 15, hpw, rfl, Nat.le_refl _, .inl rfl⟩, kw5'.trans hk (fun k _ e => by omega)⟩)
  · rintro D S b i hi' ⟨_, q2, q3, e2, e3, hn⟩ kb hD hwD hSD
    have kwb : Kp No w b := kw6.trans kb (fun k hk h => by
      rcases h with (rfl | rfl | rfl) | h
      · omega
      · omega
      · omega
      · have := hi _ h; omega)
    have hpw : pw (B s) = (0, [], 3) := pw_none (by rw [nums, hparts]; exact hn)
    (repeat (first | refine k_nil ?_ | refine k_n ?_ | refine k_r ?_ | refine k_x ?_ | refine b_n ?_ | refine b_r ?_ | refine b_y rfl ?_ | refine b_z rfl ?_ | refine l_r ?_ | refine l_x ?_ | refine k_seq ?_ | refine k_blk ?_ | refine k_reg ?_ | refine k_ret ?_ | refine k_exit ?_ | refine k_skip ?_ | refine s_v (r_mv rfl) ?_ | refine s_v (r_as rfl) ?_ | refine s_v (r_add rfl rfl (by omega)) ?_ | refine s_v (r_sub rfl rfl (by omega)) ?_ | refine s_v (r_mul rfl rfl (by omega)) ?_ | refine s_v (r_bin rfl) ?_ | refine s_v (r_fa rfl rfl) ?_ | refine s_v (r_ld rfl rfl (by first | assumption | exact cell_of_blk (by assumption) (by rfl))) ?_ | refine s_v (r_nc rfl) ?_ | refine s_v (r_not rfl) ?_ | refine s_v (r_mf rfl rfl) ?_ | refine s_v (r_len rfl) ?_ | refine s_v (r_ex rfl) ?_ | refine s_v (r_fd rfl) ?_ | refine s_v (r_rem rfl rfl (by omega) (by omega)) ?_ | refine s_v (r_cvi rfl rfl rfl (wrap_in (by omega))) ?_ | refine s_v (r_cv rfl) ?_ | refine s_v (r_peq rfl rfl rfl) ?_ | refine s_v (r_pne rfl rfl rfl) ?_ | refine s_v (r_min rfl rfl) ?_ | refine s_v (r_max rfl rfl) ?_ | refine s_v (r_bd rfl) ?_ | refine s_v (r_pt rfl rfl) ?_ | refine s_v (r_pf rfl rfl) ?_))
    refine postM_1 hD (fun m' hk => ⟨res_n (rs := [.cell 2 24, .cell 3 26]) (vs := [wv 0 none 0 0, .int .i64 3]) rfl rfl ⟨rv_ag (vs := [.int .i64 0, .slice none 0 0]) rfl rfl rfl (hk.get e2 (by show ¬ b2 = D; omega)) rfl rfl, rv_1 rfl rfl (cell_of_blk (hk.get e3 (by show ¬ b3 = D; omega)) rfl), trivial⟩, zero hpw m' (kwb.trans hk (fun k _ e => by omega))⟩)
  · rintro id D S b i hi ⟨h, _⟩
    cases h
end Wo
end Go.Proofs.YtoldmhlkgdfkmaaDoor
