/- SyntaxMany: its walk. -/
import Derived.Test.YtgnkdeapifbgeaaDoorHh
import Derived.Test.YtgnkdeapifbgeaaDoorIj
namespace Go.Proofs.YtgnkdeapifbgeaaDoor.Sy
open Go Go.RowKit Fw
set_option linter.unusedVariables false
set_option maxRecDepth 20000
theorem many_e {L : List Int} {p : Prop} [Decidable p] {e : Int} (hc : cod (prs L) = if p then 0 else 5) (h : (∃ S, prs L = .ok () S ∧ e = 0) ∨ (∃ a, prs L = .er e a)) : e = if p then 0 else 5 := by
  rcases h with ⟨S, h, rfl⟩ | ⟨a, h⟩
  · rw [h] at hc; exact hc
  · rw [h] at hc; exact hc
theorem rp_13 (k : Nat) : (tF k).length = 13 * k := by
  unfold tF
  induction k with
  | zero => rfl
  | succ k ih => unfold rp; rw [List.length_append, ih]; simp; omega
set_option maxHeartbeats 1000000 in
theorem ManyF (m : Int) (w : World) (hg : Tk.Glob w) (hm : 0 ≤ m ∧ m < 256) :
    Ret Tryd.prog 5 [.int .u8 m] w fun v w1 => v = .bool true ∧ Kp No w w1 := by
  refine ret_enter Tryd.func5 rfl Tryd.ntmps5 rfl ?_
  (repeat (first | refine k_nil ?_ | refine k_n ?_ | refine k_r ?_ | refine k_x ?_ | refine b_n ?_ | refine b_r ?_ | refine b_y rfl ?_ | refine b_z rfl ?_ | refine l_r ?_ | refine l_x ?_ | refine k_seq ?_ | refine k_blk ?_ | refine k_reg ?_ | refine k_ret ?_ | refine k_exit ?_ | refine k_skip ?_ | refine Zs ?_))
  refine s_call (us := []) (zs := []) (by kernel_rfl) rfl rfl (awakeF w hg) ?_
  rintro _ w1 ⟨rfl, k1⟩
  (repeat (first | refine k_nil ?_ | refine k_n ?_ | refine k_r ?_ | refine k_x ?_ | refine b_n ?_ | refine b_r ?_ | refine b_y rfl ?_ | refine b_z rfl ?_ | refine l_r ?_ | refine l_x ?_ | refine k_seq ?_ | refine k_blk ?_ | refine k_reg ?_ | refine k_ret ?_ | refine k_exit ?_ | refine k_skip ?_ | refine Zs ?_))
  refine c_f rfl ?_
  obtain ⟨j, hj, hj8⟩ : ∃ j : Nat, m % 8 = j ∧ j < 8 := ⟨(m % 8).toNat, by omega, by omega⟩
  (repeat (first | refine k_nil ?_ | refine k_n ?_ | refine k_r ?_ | refine k_x ?_ | refine b_n ?_ | refine b_r ?_ | refine b_y rfl ?_ | refine b_z rfl ?_ | refine l_r ?_ | refine l_x ?_ | refine k_seq ?_ | refine k_blk ?_ | refine k_reg ?_ | refine k_ret ?_ | refine k_exit ?_ | refine k_skip ?_ | refine Zs ?_))
  rw [hj]
  (repeat (first | refine k_nil ?_ | refine k_n ?_ | refine k_r ?_ | refine k_x ?_ | refine b_n ?_ | refine b_r ?_ | refine b_y rfl ?_ | refine b_z rfl ?_ | refine l_r ?_ | refine l_x ?_ | refine k_seq ?_ | refine k_blk ?_ | refine k_reg ?_ | refine k_ret ?_ | refine k_exit ?_ | refine k_skip ?_ | refine Zs ?_))
  refine k_loop (σ := Nat × ByteArray) (fun t => [(0, .int .u8 m), (3, .string t.2), (16, .int .i64 (28 + (j : Int))), (17, .int .i64 (t.1 : Int))])
    (fun t w' => w' = w1 ∧ t.1 ≤ 28 + j ∧ B t.2 = tF t.1) (fun t => 28 + j - t.1) (0, ⟨#[]⟩) ⟨rfl, rfl, rfl, rfl, trivial⟩ ⟨rfl, Nat.zero_le _, rfl⟩ ?_
  rintro ⟨i, x⟩ l w2 ⟨rfl, hi, hx⟩
  simp only at hi hx
  dsimp only
  have hxl : x.size = 13 * i := by rw [← B_len, hx, rp_13]
  have s1 : (ByteArray.mk #[102, 117, 110, 99, 32, 102, 40, 41, 32, 123, 32, 125, 10]).size = 13 := rfl
  (repeat (first | refine k_nil ?_ | refine k_n ?_ | refine k_r ?_ | refine k_x ?_ | refine b_n ?_ | refine b_r ?_ | refine b_y rfl ?_ | refine b_z rfl ?_ | refine l_r ?_ | refine l_x ?_ | refine k_seq ?_ | refine k_blk ?_ | refine k_reg ?_ | refine k_ret ?_ | refine k_exit ?_ | refine k_skip ?_ | refine Zs ?_))
  refine c_dec rfl (fun q => ?_) (fun q => ?_)
  · (repeat (first | refine k_nil ?_ | refine k_n ?_ | refine k_r ?_ | refine k_x ?_ | refine b_n ?_ | refine b_r ?_ | refine b_y rfl ?_ | refine b_z rfl ?_ | refine l_r ?_ | refine l_x ?_ | refine k_seq ?_ | refine k_blk ?_ | refine k_reg ?_ | refine k_ret ?_ | refine k_exit ?_ | refine k_skip ?_ | refine Zs ?_))
    refine s_v (r_cat rfl rfl (by rw [s1]; omega)) ?_
    (repeat (first | refine k_nil ?_ | refine k_n ?_ | refine k_r ?_ | refine k_x ?_ | refine b_n ?_ | refine b_r ?_ | refine b_y rfl ?_ | refine b_z rfl ?_ | refine l_r ?_ | refine l_x ?_ | refine k_seq ?_ | refine k_blk ?_ | refine k_reg ?_ | refine k_ret ?_ | refine k_exit ?_ | refine k_skip ?_ | refine Zs ?_))
    exact l_next (i + 1, x ++ ⟨#[102, 117, 110, 99, 32, 102, 40, 41, 32, 123, 32, 125, 10]⟩) ⟨rfl, rfl, rfl, rfl, trivial⟩ ⟨rfl, by show i + 1 ≤ 28 + j; omega, by show B (x ++ _) = tF (i + 1); rw [B_append, hx]; rfl⟩ (by show 28 + j - (i + 1) < 28 + j - i; omega)
  have hij : i = 28 + j := by omega
  subst hij
  (repeat (first | refine k_nil ?_ | refine k_n ?_ | refine k_r ?_ | refine k_x ?_ | refine b_n ?_ | refine b_r ?_ | refine b_y rfl ?_ | refine b_z rfl ?_ | refine l_r ?_ | refine l_x ?_ | refine k_seq ?_ | refine k_blk ?_ | refine k_reg ?_ | refine k_ret ?_ | refine k_exit ?_ | refine k_skip ?_ | refine Zs ?_))
  refine s_call (us := []) (zs := []) (by kernel_rfl) rfl rfl (ParseG x w2 (hg.kp k1) (by omega)) ?_
  rintro _ w4 ⟨k4, ux, us, uf, S, a1, e1, rfl, ht, hpr⟩
  obtain ⟨xa, sa, fa, xc, sc, fc, rfl, rfl, rfl⟩ := ht.val
  rw [hx] at hpr
  have he1 := many_e (many_all hj8) (e := e1) (hpr.imp (fun h => ⟨S, h.1, h.2.2.1⟩) fun h => ⟨a1, h.1⟩)
  (repeat (first | refine k_nil ?_ | refine k_n ?_ | refine k_r ?_ | refine k_x ?_ | refine b_n ?_ | refine b_r ?_ | refine b_y rfl ?_ | refine b_z rfl ?_ | refine l_r ?_ | refine l_x ?_ | refine k_seq ?_ | refine k_blk ?_ | refine k_reg ?_ | refine k_ret ?_ | refine k_exit ?_ | refine k_skip ?_ | refine Zs ?_))
  refine s_al rfl (fun b w5 n5 => ?_)
  refine s_st (vs := [.slice xa S.ex.length xc, .slice sa S.st.length sc, .slice fa S.fn.length fc]) rfl rfl rfl rfl rfl n5.blk (Nat.le_of_ble_eq_true rfl) (fun w6 s6 => ?_)
  have k46 : Kp No w4 w6 := n5.kp.trans s6.kp fun i hi e => by have := n5.ge; omega
  have kw6 := (k1.no k4).no k46
  clear n5 s6 ht hpr hx hxl
  (repeat (first | refine k_nil ?_ | refine k_n ?_ | refine k_r ?_ | refine k_x ?_ | refine b_n ?_ | refine b_r ?_ | refine b_y rfl ?_ | refine b_z rfl ?_ | refine l_r ?_ | refine l_x ?_ | refine k_seq ?_ | refine k_blk ?_ | refine k_reg ?_ | refine k_ret ?_ | refine k_exit ?_ | refine k_skip ?_ | refine Zs ?_))
  rw [hj]
  (repeat (first | refine k_nil ?_ | refine k_n ?_ | refine k_r ?_ | refine k_x ?_ | refine b_n ?_ | refine b_r ?_ | refine b_y rfl ?_ | refine b_z rfl ?_ | refine l_r ?_ | refine l_x ?_ | refine k_seq ?_ | refine k_blk ?_ | refine k_reg ?_ | refine k_ret ?_ | refine k_exit ?_ | refine k_skip ?_ | refine Zs ?_))
  refine k_loop (σ := Nat × ByteArray) (fun t => [(0, .int .u8 m), (6, .int .i64 e1), (7, .string t.2), (31, .int .i64 (996 + (j : Int))), (32, .int .i64 (t.1 : Int))])
    (fun t w' => w' = w6 ∧ t.1 ≤ 996 + j ∧ B t.2 = tMain ++ rp wRS t.1) (fun t => 996 + j - t.1) (0, ⟨#[102, 117, 110, 99, 32, 109, 97, 105, 110, 40, 41, 32, 123]⟩) ⟨rfl, rfl, rfl, rfl, rfl, trivial⟩ ⟨rfl, Nat.zero_le _, rfl⟩ ?_
  rintro ⟨i, y⟩ l7 w7 ⟨rfl, hi, hy⟩
  simp only at hi hy
  dsimp only
  have hyl : y.size = 13 + 7 * i := by rw [← B_len, hy, List.length_append, rp_7]; rfl
  have s2 : (ByteArray.mk #[114, 101, 116, 117, 114, 110, 59]).size = 7 := rfl
  (repeat (first | refine k_nil ?_ | refine k_n ?_ | refine k_r ?_ | refine k_x ?_ | refine b_n ?_ | refine b_r ?_ | refine b_y rfl ?_ | refine b_z rfl ?_ | refine l_r ?_ | refine l_x ?_ | refine k_seq ?_ | refine k_blk ?_ | refine k_reg ?_ | refine k_ret ?_ | refine k_exit ?_ | refine k_skip ?_ | refine Zs ?_))
  refine c_dec rfl (fun q => ?_) (fun q => ?_)
  · (repeat (first | refine k_nil ?_ | refine k_n ?_ | refine k_r ?_ | refine k_x ?_ | refine b_n ?_ | refine b_r ?_ | refine b_y rfl ?_ | refine b_z rfl ?_ | refine l_r ?_ | refine l_x ?_ | refine k_seq ?_ | refine k_blk ?_ | refine k_reg ?_ | refine k_ret ?_ | refine k_exit ?_ | refine k_skip ?_ | refine Zs ?_))
    refine s_v (r_cat rfl rfl (by rw [s2]; omega)) ?_
    (repeat (first | refine k_nil ?_ | refine k_n ?_ | refine k_r ?_ | refine k_x ?_ | refine b_n ?_ | refine b_r ?_ | refine b_y rfl ?_ | refine b_z rfl ?_ | refine l_r ?_ | refine l_x ?_ | refine k_seq ?_ | refine k_blk ?_ | refine k_reg ?_ | refine k_ret ?_ | refine k_exit ?_ | refine k_skip ?_ | refine Zs ?_))
    exact l_next (i + 1, y ++ ⟨#[114, 101, 116, 117, 114, 110, 59]⟩) ⟨rfl, rfl, rfl, rfl, rfl, trivial⟩ ⟨rfl, by show i + 1 ≤ 996 + j; omega, by show B (y ++ _) = tMain ++ rp wRS (i + 1); rw [B_append, hy, List.append_assoc]; rfl⟩ (by show 996 + j - (i + 1) < 996 + j - i; omega)
  have hij : i = 996 + j := by omega
  subst hij
  have s3 : (ByteArray.mk #[125]).size = 1 := rfl
  obtain ⟨T, hT⟩ : ∃ T, T = y ++ (⟨#[125]⟩ : ByteArray) := ⟨_, rfl⟩
  have hTs : T.size = y.size + 1 := by rw [hT, ByteArray.size_append]; rfl
  have hTB : B T = tR (996 + j) := by rw [hT, B_append, hy]; rfl
  (repeat (first | refine k_nil ?_ | refine k_n ?_ | refine k_r ?_ | refine k_x ?_ | refine b_n ?_ | refine b_r ?_ | refine b_y rfl ?_ | refine b_z rfl ?_ | refine l_r ?_ | refine l_x ?_ | refine k_seq ?_ | refine k_blk ?_ | refine k_reg ?_ | refine k_ret ?_ | refine k_exit ?_ | refine k_skip ?_ | refine Zs ?_))
  refine s_v (r_cat rfl rfl (by rw [s3]; omega)) ?_
  rw [← hT]
  refine s_call (us := []) (zs := []) (by kernel_rfl) rfl rfl (ParseG T w7 (hg.kp kw6) (by omega)) ?_
  rintro _ w8 ⟨k8, vx, vs, vf, S2, a2, e2, rfl, ht2, hpr2⟩
  obtain ⟨xb, sb, fb, xd, sd, fd, rfl, rfl, rfl⟩ := ht2.val
  rw [hTB] at hpr2
  have he2 := many_e (R_prs (by omega)) (e := e2) (hpr2.imp (fun h => ⟨S2, h.1, h.2.2.1⟩) fun h => ⟨a2, h.1⟩)
  (repeat (first | refine k_nil ?_ | refine k_n ?_ | refine k_r ?_ | refine k_x ?_ | refine b_n ?_ | refine b_r ?_ | refine b_y rfl ?_ | refine b_z rfl ?_ | refine l_r ?_ | refine l_x ?_ | refine k_seq ?_ | refine k_blk ?_ | refine k_reg ?_ | refine k_ret ?_ | refine k_exit ?_ | refine k_skip ?_ | refine Zs ?_))
  refine s_al rfl (fun b9 w9 n9 => ?_)
  refine s_st (vs := [.slice xb S2.ex.length xd, .slice sb S2.st.length sd, .slice fb S2.fn.length fd]) rfl rfl rfl rfl rfl n9.blk (Nat.le_of_ble_eq_true rfl) (fun w10 s10 => ?_)
  have k810 : Kp No w8 w10 := n9.kp.trans s10.kp fun i hi e => by have := n9.ge; omega
  have kw10 := (kw6.no k8).no k810
  clear n9 s10 ht2 hpr2 hy hyl hT hTs hTB
  by_cases h4 : 28 + j ≤ 32
  · rw [if_pos h4] at he1
    rw [if_pos (show 996 + j ≤ 1000 by omega)] at he2
    subst he1 he2
    (repeat (first | refine k_nil ?_ | refine k_n ?_ | refine k_r ?_ | refine k_x ?_ | refine b_n ?_ | refine b_r ?_ | refine b_y rfl ?_ | refine b_z rfl ?_ | refine l_r ?_ | refine l_x ?_ | refine k_seq ?_ | refine k_blk ?_ | refine k_reg ?_ | refine k_ret ?_ | refine k_exit ?_ | refine k_skip ?_ | refine Zs ?_))
    refine s_set 50 true rfl (decide_eq_true (by omega)) ?_
    refine s_v (r_beq rfl rfl rfl) ?_
    (repeat (first | refine k_nil ?_ | refine k_n ?_ | refine k_r ?_ | refine k_x ?_ | refine b_n ?_ | refine b_r ?_ | refine b_y rfl ?_ | refine b_z rfl ?_ | refine l_r ?_ | refine l_x ?_ | refine k_seq ?_ | refine k_blk ?_ | refine k_reg ?_ | refine k_ret ?_ | refine k_exit ?_ | refine k_skip ?_ | refine Zs ?_ | refine Zn ?_ | refine Zu ?_ | refine Zg ?_))
    refine s_gv rfl (r_rem (q := 8) rfl rfl (by omega) (by decide)) ?_
    (repeat (first | refine k_nil ?_ | refine k_n ?_ | refine k_r ?_ | refine k_x ?_ | refine b_n ?_ | refine b_r ?_ | refine b_y rfl ?_ | refine b_z rfl ?_ | refine l_r ?_ | refine l_x ?_ | refine k_seq ?_ | refine k_blk ?_ | refine k_reg ?_ | refine k_ret ?_ | refine k_exit ?_ | refine k_skip ?_ | refine Zs ?_ | refine Zn ?_ | refine Zu ?_ | refine Zg ?_))
    refine s_set 59 true rfl (decide_eq_true (by omega)) ?_
    refine s_gv rfl (r_beq rfl rfl rfl) ?_
    (repeat (first | refine k_nil ?_ | refine k_n ?_ | refine k_r ?_ | refine k_x ?_ | refine b_n ?_ | refine b_r ?_ | refine b_y rfl ?_ | refine b_z rfl ?_ | refine l_r ?_ | refine l_x ?_ | refine k_seq ?_ | refine k_blk ?_ | refine k_reg ?_ | refine k_ret ?_ | refine k_exit ?_ | refine k_skip ?_ | refine Zs ?_ | refine Zn ?_ | refine Zu ?_ | refine Zg ?_))
    exact ret_1 rfl rfl ⟨rfl, kw10⟩
  · rw [if_neg h4] at he1
    rw [if_neg (show ¬ 996 + j ≤ 1000 by omega)] at he2
    subst he1 he2
    (repeat (first | refine k_nil ?_ | refine k_n ?_ | refine k_r ?_ | refine k_x ?_ | refine b_n ?_ | refine b_r ?_ | refine b_y rfl ?_ | refine b_z rfl ?_ | refine l_r ?_ | refine l_x ?_ | refine k_seq ?_ | refine k_blk ?_ | refine k_reg ?_ | refine k_ret ?_ | refine k_exit ?_ | refine k_skip ?_ | refine Zs ?_))
    refine s_set 50 false rfl (decide_eq_false (by omega)) ?_
    refine s_v (r_beq rfl rfl rfl) ?_
    (repeat (first | refine k_nil ?_ | refine k_n ?_ | refine k_r ?_ | refine k_x ?_ | refine b_n ?_ | refine b_r ?_ | refine b_y rfl ?_ | refine b_z rfl ?_ | refine l_r ?_ | refine l_x ?_ | refine k_seq ?_ | refine k_blk ?_ | refine k_reg ?_ | refine k_ret ?_ | refine k_exit ?_ | refine k_skip ?_ | refine Zs ?_ | refine Zn ?_ | refine Zu ?_ | refine Zg ?_))
    refine s_gv rfl (r_rem (q := 8) rfl rfl (by omega) (by decide)) ?_
    (repeat (first | refine k_nil ?_ | refine k_n ?_ | refine k_r ?_ | refine k_x ?_ | refine b_n ?_ | refine b_r ?_ | refine b_y rfl ?_ | refine b_z rfl ?_ | refine l_r ?_ | refine l_x ?_ | refine k_seq ?_ | refine k_blk ?_ | refine k_reg ?_ | refine k_ret ?_ | refine k_exit ?_ | refine k_skip ?_ | refine Zs ?_ | refine Zn ?_ | refine Zu ?_ | refine Zg ?_))
    refine s_set 59 false rfl (decide_eq_false (by omega)) ?_
    refine s_gv rfl (r_beq rfl rfl rfl) ?_
    (repeat (first | refine k_nil ?_ | refine k_n ?_ | refine k_r ?_ | refine k_x ?_ | refine b_n ?_ | refine b_r ?_ | refine b_y rfl ?_ | refine b_z rfl ?_ | refine l_r ?_ | refine l_x ?_ | refine k_seq ?_ | refine k_blk ?_ | refine k_reg ?_ | refine k_ret ?_ | refine k_exit ?_ | refine k_skip ?_ | refine Zs ?_ | refine Zn ?_ | refine Zu ?_ | refine Zg ?_))
    exact ret_1 rfl rfl ⟨rfl, kw10⟩
end Go.Proofs.YtgnkdeapifbgeaaDoor.Sy
