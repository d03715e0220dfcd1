/- SyntaxLists: its walk. -/
import Derived.Test.YtgnkdeapifbgeaaDoorHh
import Derived.Test.YtgnkdeapifbgeaaDoorIb
import Derived.Test.YtgnkdeapifbgeaaDoorIc
import Derived.Test.YtgnkdeapifbgeaaDoorId
import Derived.Test.YtgnkdeapifbgeaaDoorIe
namespace Go.Proofs.YtgnkdeapifbgeaaDoor.Sy
open Go Go.RowKit Fw
set_option linter.unusedVariables false
set_option maxRecDepth 20000
theorem lists_all {a p : Nat} (ha : a < 30) (hp : p < 30) : chkL a p = true := by
  match a, ha with
  | 0, _ => exact lists_0 ⟨p, hp⟩
  | 1, _ => exact lists_1 ⟨p, hp⟩
  | 2, _ => exact lists_2 ⟨p, hp⟩
  | 3, _ => exact lists_3 ⟨p, hp⟩
  | 4, _ => exact lists_4 ⟨p, hp⟩
  | 5, _ => exact lists_5 ⟨p, hp⟩
  | 6, _ => exact lists_6 ⟨p, hp⟩
  | 7, _ => exact lists_7 ⟨p, hp⟩
  | 8, _ => exact lists_8 ⟨p, hp⟩
  | 9, _ => exact lists_9 ⟨p, hp⟩
  | 10, _ => exact lists_10 ⟨p, hp⟩
  | 11, _ => exact lists_11 ⟨p, hp⟩
  | 12, _ => exact lists_12 ⟨p, hp⟩
  | 13, _ => exact lists_13 ⟨p, hp⟩
  | 14, _ => exact lists_14 ⟨p, hp⟩
  | 15, _ => exact lists_15 ⟨p, hp⟩
  | 16, _ => exact lists_16 ⟨p, hp⟩
  | 17, _ => exact lists_17 ⟨p, hp⟩
  | 18, _ => exact lists_18 ⟨p, hp⟩
  | 19, _ => exact lists_19 ⟨p, hp⟩
  | 20, _ => exact lists_20 ⟨p, hp⟩
  | 21, _ => exact lists_21 ⟨p, hp⟩
  | 22, _ => exact lists_22 ⟨p, hp⟩
  | 23, _ => exact lists_23 ⟨p, hp⟩
  | 24, _ => exact lists_24 ⟨p, hp⟩
  | 25, _ => exact lists_25 ⟨p, hp⟩
  | 26, _ => exact lists_26 ⟨p, hp⟩
  | 27, _ => exact lists_27 ⟨p, hp⟩
  | 28, _ => exact lists_28 ⟨p, hp⟩
  | 29, _ => exact lists_29 ⟨p, hp⟩
  | a + 30, h => omega
theorem sp_len {x sep : List Int} (hx : x.length ≤ 1) (hs : sep.length ≤ 2) : ∀ k, (sp x sep k).length ≤ 3 * k := by
  intro k
  induction k with
  | zero => simp [sp]
  | succ k ih =>
    unfold sp
    split
    · simp only [List.length_append]; omega
    · simp only [List.length_append]; omega
/-- An element's cells, as a load wants them. -/
theorem cells_ofL {w : World} {b o n : Nat} {vs : List Value} (hl : vs.length = n) (h : ∀ (j : Nat) (u : Value), vs[j]? = some u → w.cell? ⟨b, o + j, none⟩ = some u) : ∀ j, j < n → w.cell? ⟨b, o + j, none⟩ = vs[j]? := fun j hj => by
  obtain ⟨u, hu⟩ : ∃ u, vs[j]? = some u := ⟨_, List.getElem?_eq_getElem (by omega)⟩
  rw [hu]; exact h j u hu
theorem cod_er {L : List Int} {c : Int} (h : cod (prs L) = c) {R : Rs Unit} (hR : prs L = R) : cod R = c := by rw [← hR]; exact h
set_option maxHeartbeats 1000000 in
theorem ListsF (m n : Int) (w : World) (hg : Tk.Glob w) (hm : 0 ≤ m ∧ m < 256) (hn : 0 ≤ n ∧ n < 256) :
    Ret Tryd.prog 8 [.int .u8 m, .int .u8 n] w fun v w1 => v = .bool true ∧ Kp No w w1 := by
  refine ret_enter Tryd.func8 rfl Tryd.ntmps8 rfl ?_
  (repeat (first | refine k_nil ?_ | refine k_n ?_ | refine k_r ?_ | refine k_x ?_ | refine b_n ?_ | refine b_r ?_ | refine b_y rfl ?_ | refine b_z rfl ?_ | refine l_r ?_ | refine l_x ?_ | refine k_seq ?_ | refine k_blk ?_ | refine k_reg ?_ | refine k_ret ?_ | refine k_exit ?_ | refine k_skip ?_ | refine Zs ?_))
  refine s_call (us := []) (zs := []) (by kernel_rfl) rfl rfl (awakeF w hg) ?_
  rintro _ w1 ⟨rfl, k1⟩
  (repeat (first | refine k_nil ?_ | refine k_n ?_ | refine k_r ?_ | refine k_x ?_ | refine b_n ?_ | refine b_r ?_ | refine b_y rfl ?_ | refine b_z rfl ?_ | refine l_r ?_ | refine l_x ?_ | refine k_seq ?_ | refine k_blk ?_ | refine k_reg ?_ | refine k_ret ?_ | refine k_exit ?_ | refine k_skip ?_ | refine Zs ?_))
  refine c_f rfl ?_
  obtain ⟨a, ha, ha30⟩ : ∃ a : Nat, m % 30 = a ∧ a < 30 := ⟨(m % 30).toNat, by omega, by omega⟩
  obtain ⟨p, hp, hp30⟩ : ∃ p : Nat, n % 30 = p ∧ p < 30 := ⟨(n % 30).toNat, by omega, by omega⟩
  (repeat (first | refine k_nil ?_ | refine k_n ?_ | refine k_r ?_ | refine k_x ?_ | refine b_n ?_ | refine b_r ?_ | refine b_y rfl ?_ | refine b_z rfl ?_ | refine l_r ?_ | refine l_x ?_ | refine k_seq ?_ | refine k_blk ?_ | refine k_reg ?_ | refine k_ret ?_ | refine k_exit ?_ | refine k_skip ?_ | refine Zs ?_))
  rw [ha, hp]
  (repeat (first | refine k_nil ?_ | refine k_n ?_ | refine k_r ?_ | refine k_x ?_ | refine b_n ?_ | refine b_r ?_ | refine b_y rfl ?_ | refine b_z rfl ?_ | refine l_r ?_ | refine l_x ?_ | refine k_seq ?_ | refine k_blk ?_ | refine k_reg ?_ | refine k_ret ?_ | refine k_exit ?_ | refine k_skip ?_ | refine Zs ?_))
  refine k_loop (σ := Nat × ByteArray) (fun t => [(5, .int .i64 (a : Int)), (6, .int .i64 (p : Int)), (7, .string t.2), (8, .string ⟨#[]⟩), (29, .int .i64 (a : Int)), (30, .int .i64 (t.1 : Int))])
    (fun t w' => w' = w1 ∧ t.1 ≤ a ∧ B t.2 = tArgs t.1) (fun t => a - t.1) (0, ⟨#[]⟩) ⟨rfl, rfl, rfl, rfl, rfl, rfl, trivial⟩ ⟨rfl, Nat.zero_le _, rfl⟩ ?_
  rintro ⟨i, x⟩ l w2 ⟨rfl, hi, hx⟩
  simp only at hi hx
  dsimp only
  have hxl : x.size ≤ 100 := by rw [← B_len, hx]; have := sp_len (x := [49]) (sep := [44, 32]) (by simp) (by simp) i; unfold tArgs; omega
  (repeat (first | refine k_nil ?_ | refine k_n ?_ | refine k_r ?_ | refine k_x ?_ | refine b_n ?_ | refine b_r ?_ | refine b_y rfl ?_ | refine b_z rfl ?_ | refine l_r ?_ | refine l_x ?_ | refine k_seq ?_ | refine k_blk ?_ | refine k_reg ?_ | refine k_ret ?_ | refine k_exit ?_ | refine k_skip ?_ | refine Zs ?_))
  refine c_dec rfl (fun q => ?_) (fun q => ?_)
  · (repeat (first | refine k_nil ?_ | refine k_n ?_ | refine k_r ?_ | refine k_x ?_ | refine b_n ?_ | refine b_r ?_ | refine b_y rfl ?_ | refine b_z rfl ?_ | refine l_r ?_ | refine l_x ?_ | refine k_seq ?_ | refine k_blk ?_ | refine k_reg ?_ | refine k_ret ?_ | refine k_exit ?_ | refine k_skip ?_ | refine Zs ?_))
    refine k_cutc (σ := ByteArray) (fun y => [(5, .int .i64 (a : Int)), (6, .int .i64 (p : Int)), (7, .string y), (8, .string ⟨#[]⟩), (29, .int .i64 (a : Int)), (30, .int .i64 (i : Int))]) (fun y w' => w' = w2 ∧ B y = (if 0 < i then tArgs i ++ [44, 32] else tArgs i) ∧ y.size ≤ 110) ?_ ?_
    · refine c_dec rfl (fun q2 => ?_) (fun q2 => ?_)
      · (repeat (first | refine k_nil ?_ | refine k_n ?_ | refine k_r ?_ | refine k_x ?_ | refine b_n ?_ | refine b_r ?_ | refine b_y rfl ?_ | refine b_z rfl ?_ | refine l_r ?_ | refine l_x ?_ | refine k_seq ?_ | refine k_blk ?_ | refine k_reg ?_ | refine k_ret ?_ | refine k_exit ?_ | refine k_skip ?_ | refine Zs ?_))
        refine s_v (r_cat rfl rfl (by rw [show (ByteArray.mk #[44, 32]).size = 2 from rfl]; omega)) ?_
        (repeat (first | refine k_nil ?_ | refine k_n ?_ | refine k_r ?_ | refine k_x ?_ | refine b_n ?_ | refine b_r ?_ | refine b_y rfl ?_ | refine b_z rfl ?_ | refine l_r ?_ | refine l_x ?_ | refine k_seq ?_ | refine k_blk ?_ | refine k_reg ?_ | refine k_ret ?_ | refine k_exit ?_ | refine k_skip ?_ | refine Zs ?_))
        refine l_cut (x ++ ⟨#[44, 32]⟩) ⟨rfl, rfl, rfl, rfl, rfl, rfl, trivial⟩ ⟨rfl, ?_, by rw [ByteArray.size_append, show (ByteArray.mk #[44, 32]).size = 2 from rfl]; omega⟩
        rw [if_pos (by omega), B_append, hx]; rfl
      · (repeat (first | refine k_nil ?_ | refine k_n ?_ | refine k_r ?_ | refine k_x ?_ | refine b_n ?_ | refine b_r ?_ | refine b_y rfl ?_ | refine b_z rfl ?_ | refine l_r ?_ | refine l_x ?_ | refine k_seq ?_ | refine k_blk ?_ | refine k_reg ?_ | refine k_ret ?_ | refine k_exit ?_ | refine k_skip ?_ | refine Zs ?_))
        exact l_cut x ⟨rfl, rfl, rfl, rfl, rfl, rfl, trivial⟩ ⟨rfl, by rw [if_neg (by omega)]; exact hx, by omega⟩
    · rintro y l3 w3 ⟨rfl, hy, hyl⟩
      (repeat (first | refine k_nil ?_ | refine k_n ?_ | refine k_r ?_ | refine k_x ?_ | refine b_n ?_ | refine b_r ?_ | refine b_y rfl ?_ | refine b_z rfl ?_ | refine l_r ?_ | refine l_x ?_ | refine k_seq ?_ | refine k_blk ?_ | refine k_reg ?_ | refine k_ret ?_ | refine k_exit ?_ | refine k_skip ?_ | refine Zs ?_))
      refine s_v (r_cat rfl rfl (by rw [show (ByteArray.mk #[49]).size = 1 from rfl]; omega)) ?_
      (repeat (first | refine k_nil ?_ | refine k_n ?_ | refine k_r ?_ | refine k_x ?_ | refine b_n ?_ | refine b_r ?_ | refine b_y rfl ?_ | refine b_z rfl ?_ | refine l_r ?_ | refine l_x ?_ | refine k_seq ?_ | refine k_blk ?_ | refine k_reg ?_ | refine k_ret ?_ | refine k_exit ?_ | refine k_skip ?_ | refine Zs ?_))
      refine l_next (i + 1, y ++ ⟨#[49]⟩) ⟨rfl, rfl, rfl, rfl, rfl, rfl, trivial⟩ ⟨rfl, by show i + 1 ≤ a; omega, ?_⟩ (by show a - (i + 1) < a - i; omega)
      show B (y ++ ⟨#[49]⟩) = tArgs (i + 1)
      rw [B_append, hy]; rfl
  have hia : i = a := by omega
  subst hia
  (repeat (first | refine k_nil ?_ | refine k_n ?_ | refine k_r ?_ | refine k_x ?_ | refine b_n ?_ | refine b_r ?_ | refine b_y rfl ?_ | refine b_z rfl ?_ | refine l_r ?_ | refine l_x ?_ | refine k_seq ?_ | refine k_blk ?_ | refine k_reg ?_ | refine k_ret ?_ | refine k_exit ?_ | refine k_skip ?_ | refine Zs ?_))
  refine k_loop (σ := Nat × ByteArray) (fun t => [(5, .int .i64 (i : Int)), (6, .int .i64 (p : Int)), (7, .string x), (8, .string t.2), (40, .int .i64 (p : Int)), (41, .int .i64 (t.1 : Int))])
    (fun t w' => w' = w2 ∧ t.1 ≤ p ∧ B t.2 = tPars t.1) (fun t => p - t.1) (0, ⟨#[]⟩) ⟨rfl, rfl, rfl, rfl, rfl, rfl, trivial⟩ ⟨rfl, Nat.zero_le _, rfl⟩ ?_
  rintro ⟨j, y⟩ l3 w3 ⟨rfl, hj, hy⟩
  simp only at hj hy
  dsimp only
  have hyl : y.size ≤ 100 := by rw [← B_len, hy]; have := sp_len (x := [112]) (sep := [44]) (by simp) (by simp) j; unfold tPars; omega
  (repeat (first | refine k_nil ?_ | refine k_n ?_ | refine k_r ?_ | refine k_x ?_ | refine b_n ?_ | refine b_r ?_ | refine b_y rfl ?_ | refine b_z rfl ?_ | refine l_r ?_ | refine l_x ?_ | refine k_seq ?_ | refine k_blk ?_ | refine k_reg ?_ | refine k_ret ?_ | refine k_exit ?_ | refine k_skip ?_ | refine Zs ?_))
  refine c_dec rfl (fun q => ?_) (fun q => ?_)
  · (repeat (first | refine k_nil ?_ | refine k_n ?_ | refine k_r ?_ | refine k_x ?_ | refine b_n ?_ | refine b_r ?_ | refine b_y rfl ?_ | refine b_z rfl ?_ | refine l_r ?_ | refine l_x ?_ | refine k_seq ?_ | refine k_blk ?_ | refine k_reg ?_ | refine k_ret ?_ | refine k_exit ?_ | refine k_skip ?_ | refine Zs ?_))
    refine k_cutc (σ := ByteArray) (fun z => [(5, .int .i64 (i : Int)), (6, .int .i64 (p : Int)), (7, .string x), (8, .string z), (40, .int .i64 (p : Int)), (41, .int .i64 (j : Int))]) (fun z w' => w' = w3 ∧ B z = (if 0 < j then tPars j ++ [44] else tPars j) ∧ z.size ≤ 110) ?_ ?_
    · refine c_dec rfl (fun q2 => ?_) (fun q2 => ?_)
      · (repeat (first | refine k_nil ?_ | refine k_n ?_ | refine k_r ?_ | refine k_x ?_ | refine b_n ?_ | refine b_r ?_ | refine b_y rfl ?_ | refine b_z rfl ?_ | refine l_r ?_ | refine l_x ?_ | refine k_seq ?_ | refine k_blk ?_ | refine k_reg ?_ | refine k_ret ?_ | refine k_exit ?_ | refine k_skip ?_ | refine Zs ?_))
        refine s_v (r_cat rfl rfl (by rw [show (ByteArray.mk #[44]).size = 1 from rfl]; omega)) ?_
        (repeat (first | refine k_nil ?_ | refine k_n ?_ | refine k_r ?_ | refine k_x ?_ | refine b_n ?_ | refine b_r ?_ | refine b_y rfl ?_ | refine b_z rfl ?_ | refine l_r ?_ | refine l_x ?_ | refine k_seq ?_ | refine k_blk ?_ | refine k_reg ?_ | refine k_ret ?_ | refine k_exit ?_ | refine k_skip ?_ | refine Zs ?_))
        refine l_cut (y ++ ⟨#[44]⟩) ⟨rfl, rfl, rfl, rfl, rfl, rfl, trivial⟩ ⟨rfl, ?_, by rw [ByteArray.size_append, show (ByteArray.mk #[44]).size = 1 from rfl]; omega⟩
        rw [if_pos (by omega), B_append, hy]; rfl
      · (repeat (first | refine k_nil ?_ | refine k_n ?_ | refine k_r ?_ | refine k_x ?_ | refine b_n ?_ | refine b_r ?_ | refine b_y rfl ?_ | refine b_z rfl ?_ | refine l_r ?_ | refine l_x ?_ | refine k_seq ?_ | refine k_blk ?_ | refine k_reg ?_ | refine k_ret ?_ | refine k_exit ?_ | refine k_skip ?_ | refine Zs ?_))
        exact l_cut y ⟨rfl, rfl, rfl, rfl, rfl, rfl, trivial⟩ ⟨rfl, by rw [if_neg (by omega)]; exact hy, by omega⟩
    · rintro z l4 w4 ⟨rfl, hz, hzl⟩
      (repeat (first | refine k_nil ?_ | refine k_n ?_ | refine k_r ?_ | refine k_x ?_ | refine b_n ?_ | refine b_r ?_ | refine b_y rfl ?_ | refine b_z rfl ?_ | refine l_r ?_ | refine l_x ?_ | refine k_seq ?_ | refine k_blk ?_ | refine k_reg ?_ | refine k_ret ?_ | refine k_exit ?_ | refine k_skip ?_ | refine Zs ?_))
      refine s_v (r_cat rfl rfl (by rw [show (ByteArray.mk #[112]).size = 1 from rfl]; omega)) ?_
      (repeat (first | refine k_nil ?_ | refine k_n ?_ | refine k_r ?_ | refine k_x ?_ | refine b_n ?_ | refine b_r ?_ | refine b_y rfl ?_ | refine b_z rfl ?_ | refine l_r ?_ | refine l_x ?_ | refine k_seq ?_ | refine k_blk ?_ | refine k_reg ?_ | refine k_ret ?_ | refine k_exit ?_ | refine k_skip ?_ | refine Zs ?_))
      refine l_next (j + 1, z ++ ⟨#[112]⟩) ⟨rfl, rfl, rfl, rfl, rfl, rfl, trivial⟩ ⟨rfl, by show j + 1 ≤ p; omega, ?_⟩ (by show p - (j + 1) < p - j; omega)
      show B (z ++ ⟨#[112]⟩) = tPars (j + 1)
      rw [B_append, hz]; rfl
  have hjp : j = p := by omega
  subst hjp
  have hc := lists_all ha30 hp30
  have hcP := listsP ⟨j, hp30⟩
  have hcA := listsA ⟨i, ha30⟩
  simp only at hcP hcA
  have s1 : (ByteArray.mk #[102, 117, 110, 99, 32, 102, 40]).size = 7 := rfl
  have s2 : (ByteArray.mk #[41, 32, 123, 32, 103, 40]).size = 6 := rfl
  have s3 : (ByteArray.mk #[41, 59, 32, 125]).size = 4 := rfl
  have s4 : (ByteArray.mk #[44, 41, 32, 123, 32, 125]).size = 6 := rfl
  have s5 : (ByteArray.mk #[102, 117, 110, 99, 32, 102, 40, 41, 32, 123, 32, 103, 40]).size = 13 := rfl
  have s6 : (ByteArray.mk #[44, 41, 59, 32, 125]).size = 5 := rfl
  obtain ⟨T, hT⟩ : ∃ T, T = (((⟨#[102, 117, 110, 99, 32, 102, 40]⟩ : ByteArray) ++ y) ++ ⟨#[41, 32, 123, 32, 103, 40]⟩ ++ x) ++ ⟨#[41, 59, 32, 125]⟩ := ⟨_, rfl⟩
  have hTs : T.size = 7 + y.size + 6 + x.size + 4 := by rw [hT]; simp only [ByteArray.size_append, s1, s2, s3]
  have hTB : B T = tL i j := by rw [hT, B_append, B_append, B_append, B_append, hx, hy]; rfl
  (repeat (first | refine k_nil ?_ | refine k_n ?_ | refine k_r ?_ | refine k_x ?_ | refine b_n ?_ | refine b_r ?_ | refine b_y rfl ?_ | refine b_z rfl ?_ | refine l_r ?_ | refine l_x ?_ | refine k_seq ?_ | refine k_blk ?_ | refine k_reg ?_ | refine k_ret ?_ | refine k_exit ?_ | refine k_skip ?_ | refine Zs ?_))
  refine s_v (r_cat rfl rfl (by rw [s1]; omega)) ?_
  (repeat (first | refine k_nil ?_ | refine k_n ?_ | refine k_r ?_ | refine k_x ?_ | refine b_n ?_ | refine b_r ?_ | refine b_y rfl ?_ | refine b_z rfl ?_ | refine l_r ?_ | refine l_x ?_ | refine k_seq ?_ | refine k_blk ?_ | refine k_reg ?_ | refine k_ret ?_ | refine k_exit ?_ | refine k_skip ?_ | refine Zs ?_))
  refine s_v (r_cat rfl rfl (by simp only [ByteArray.size_append, s1, s2]; omega)) ?_
  (repeat (first | refine k_nil ?_ | refine k_n ?_ | refine k_r ?_ | refine k_x ?_ | refine b_n ?_ | refine b_r ?_ | refine b_y rfl ?_ | refine b_z rfl ?_ | refine l_r ?_ | refine l_x ?_ | refine k_seq ?_ | refine k_blk ?_ | refine k_reg ?_ | refine k_ret ?_ | refine k_exit ?_ | refine k_skip ?_ | refine Zs ?_))
  refine s_v (r_cat rfl rfl (by simp only [ByteArray.size_append, s1, s2]; omega)) ?_
  (repeat (first | refine k_nil ?_ | refine k_n ?_ | refine k_r ?_ | refine k_x ?_ | refine b_n ?_ | refine b_r ?_ | refine b_y rfl ?_ | refine b_z rfl ?_ | refine l_r ?_ | refine l_x ?_ | refine k_seq ?_ | refine k_blk ?_ | refine k_reg ?_ | refine k_ret ?_ | refine k_exit ?_ | refine k_skip ?_ | refine Zs ?_))
  refine s_v (r_cat rfl rfl (by simp only [ByteArray.size_append, s1, s2, s3]; omega)) ?_
  rw [← hT]
  refine s_call (us := []) (zs := []) (by kernel_rfl) rfl rfl (ParseG T w3 (hg.kp k1) (by omega)) ?_
  rintro _ w4 ⟨k4, ux, us, uf, S, a1, e1, rfl, ht, hpr⟩
  obtain ⟨xa, sa, fa, xc, sc, fc, rfl, rfl, rfl⟩ := ht.val
  rw [hTB] at hpr
  unfold chkL at hc
  rcases hpr.symm with ⟨hq, _⟩ | ⟨hq, ea, ee, _⟩
  · rw [hq] at hc; cases hc
  subst ea ee
  rw [hq] at hc
  simp only [decide_eq_true_eq] at hc
  obtain ⟨c1, c2, c3, c4, c5⟩ := hc
  obtain ⟨X, hX, hX2⟩ := Option.map_eq_some_iff.1 c4
  obtain ⟨Fu, hFu, hFu2⟩ := Option.map_eq_some_iff.1 c5
  simp only [Prod.mk.injEq] at hX2
  obtain ⟨hXk, hXl⟩ := hX2
  (repeat (first | refine k_nil ?_ | refine k_n ?_ | refine k_r ?_ | refine k_x ?_ | refine b_n ?_ | refine b_r ?_ | refine b_y rfl ?_ | refine b_z rfl ?_ | refine l_r ?_ | refine l_x ?_ | refine k_seq ?_ | refine k_blk ?_ | refine k_reg ?_ | refine k_ret ?_ | refine k_exit ?_ | refine k_skip ?_ | refine Zs ?_))
  refine s_al rfl (fun b w5 n5 => ?_)
  refine s_st (vs := [.slice xa S.ex.length xc, .slice sa S.st.length sc, .slice fa S.fn.length fc]) rfl rfl rfl rfl rfl n5.blk (Nat.le_of_ble_eq_true rfl) (fun w6 s6' => ?_)
  have k46 : Kp No w4 w6 := n5.kp.trans s6'.kp fun i hi e => by have := n5.ge; omega
  have hb : w6.heap[b]? = some (.cells [.slice xa S.ex.length xc, .slice sa S.st.length sc, .slice fa S.fn.length fc].toArray 27 (0, 0)) := s6'.blk
  have ht6 := ht.kp k46
  have kw6 := (k1.no k4).no k46
  clear n5 s6' ht k4 k46
  (repeat (first | refine k_nil ?_ | refine k_n ?_ | refine k_r ?_ | refine k_x ?_ | refine b_n ?_ | refine b_r ?_ | refine b_y rfl ?_ | refine b_z rfl ?_ | refine l_r ?_ | refine l_x ?_ | refine k_seq ?_ | refine k_blk ?_ | refine k_reg ?_ | refine k_ret ?_ | refine k_exit ?_ | refine k_skip ?_ | refine Zs ?_ | refine Zn ?_ | refine Zu ?_ | refine Zg ?_))
  refine s_set 70 false rfl (by rw [c1]; rfl) ?_
  (repeat (first | refine k_nil ?_ | refine k_n ?_ | refine k_r ?_ | refine k_x ?_ | refine b_n ?_ | refine b_r ?_ | refine b_y rfl ?_ | refine b_z rfl ?_ | refine l_r ?_ | refine l_x ?_ | refine k_seq ?_ | refine k_blk ?_ | refine k_reg ?_ | refine k_ret ?_ | refine k_exit ?_ | refine k_skip ?_ | refine Zs ?_ | refine Zn ?_ | refine Zu ?_ | refine Zg ?_))
  refine s_set 76 false rfl (by rw [c2]; rfl) ?_
  (repeat (first | refine k_nil ?_ | refine k_n ?_ | refine k_r ?_ | refine k_x ?_ | refine b_n ?_ | refine b_r ?_ | refine b_y rfl ?_ | refine b_z rfl ?_ | refine l_r ?_ | refine l_x ?_ | refine k_seq ?_ | refine k_blk ?_ | refine k_reg ?_ | refine k_ret ?_ | refine k_exit ?_ | refine k_skip ?_ | refine Zs ?_ | refine Zn ?_ | refine Zu ?_ | refine Zg ?_))
  refine c_ne rfl (fun q => (q (by rw [c3]; simp)).elim) (fun _ => ?_)
  obtain ⟨g, lv, rfl, hl, hcx⟩ := ht6.ex hX
  obtain ⟨la, lc, rfl⟩ := hl.val
  (repeat (first | refine k_nil ?_ | refine k_n ?_ | refine k_r ?_ | refine k_x ?_ | refine b_n ?_ | refine b_r ?_ | refine b_y rfl ?_ | refine b_z rfl ?_ | refine l_r ?_ | refine l_x ?_ | refine k_seq ?_ | refine k_blk ?_ | refine k_reg ?_ | refine k_ret ?_ | refine k_exit ?_ | refine k_skip ?_ | refine Zs ?_))
  refine s_v (r_ia (size := 9) rfl rfl rfl rfl (by omega) (by omega)) ?_
  refine s_v (r_lda (n := 9) (vs := exC (X, .slice la X.l.length lc)) rfl rfl rfl rfl (cells_ofL rfl hcx)) ?_
  refine s_al rfl (fun b7 w7 n7 => ?_)
  refine s_st (vs := exC (X, .slice la X.l.length lc)) rfl rfl rfl rfl rfl n7.blk (Nat.le_of_ble_eq_true rfl) (fun w8 s8 => ?_)
  have k68 : Kp No w6 w8 := n7.kp.trans s8.kp fun i hi e => by have := n7.ge; omega
  have hb7 : w8.heap[b7]? = some (.cells [Value.int .i64 X.k, .int .i64 X.f, .int .i64 X.e, .int .i64 X.n, sv X.nm, sv X.op, .int .i64 X.a, .int .i64 X.b, .slice la X.l.length lc].toArray 35 (0, 0)) := s8.blk
  have hb8 := k68.get0 hb
  have kw8 := kw6.no k68
  clear n7 s8
  obtain ⟨T2, hT2⟩ : ∃ T, T = ((⟨#[102, 117, 110, 99, 32, 102, 40]⟩ : ByteArray) ++ y) ++ ⟨#[44, 41, 32, 123, 32, 125]⟩ := ⟨_, rfl⟩
  have hT2s : T2.size = 7 + y.size + 6 := by rw [hT2]; simp only [ByteArray.size_append, s1, s4]
  have hT2B : B T2 = tP j := by rw [hT2, B_append, B_append, hy]; rfl
  (repeat (first | refine k_nil ?_ | refine k_n ?_ | refine k_r ?_ | refine k_x ?_ | refine b_n ?_ | refine b_r ?_ | refine b_y rfl ?_ | refine b_z rfl ?_ | refine l_r ?_ | refine l_x ?_ | refine k_seq ?_ | refine k_blk ?_ | refine k_reg ?_ | refine k_ret ?_ | refine k_exit ?_ | refine k_skip ?_ | refine Zs ?_))
  refine s_v (r_cat rfl rfl (by rw [s1]; omega)) ?_
  (repeat (first | refine k_nil ?_ | refine k_n ?_ | refine k_r ?_ | refine k_x ?_ | refine b_n ?_ | refine b_r ?_ | refine b_y rfl ?_ | refine b_z rfl ?_ | refine l_r ?_ | refine l_x ?_ | refine k_seq ?_ | refine k_blk ?_ | refine k_reg ?_ | refine k_ret ?_ | refine k_exit ?_ | refine k_skip ?_ | refine Zs ?_))
  refine s_v (r_cat rfl rfl (by simp only [ByteArray.size_append, s1, s4]; omega)) ?_
  rw [← hT2]
  refine s_call (us := []) (zs := []) (by kernel_rfl) rfl rfl (ParseG T2 w8 (hg.kp kw8) (by omega)) ?_
  rintro _ w9 ⟨k9, vx, vs, vf, S2, a2, e2, rfl, ht2, hpr2⟩
  rw [hT2B] at hpr2
  rcases hpr2 with ⟨hq2, _⟩ | ⟨hq2, _⟩
  · rw [hq2] at hcP; cases hcP
  rw [hq2] at hcP
  have he2 : e2 = 3 := hcP
  subst he2
  obtain ⟨xb, sb, fb, xd, sd, fd, rfl, rfl, rfl⟩ := ht2.val
  (repeat (first | refine k_nil ?_ | refine k_n ?_ | refine k_r ?_ | refine k_x ?_ | refine b_n ?_ | refine b_r ?_ | refine b_y rfl ?_ | refine b_z rfl ?_ | refine l_r ?_ | refine l_x ?_ | refine k_seq ?_ | refine k_blk ?_ | refine k_reg ?_ | refine k_ret ?_ | refine k_exit ?_ | refine k_skip ?_ | refine Zs ?_))
  refine s_al rfl (fun b10 w10 n10 => ?_)
  refine s_st (vs := [.slice xb S2.ex.length xd, .slice sb S2.st.length sd, .slice fb S2.fn.length fd]) rfl rfl rfl rfl rfl n10.blk (Nat.le_of_ble_eq_true rfl) (fun w11 s11 => ?_)
  have k911 : Kp No w8 w11 := k9.no (n10.kp.trans s11.kp fun i hi e => by have := n10.ge; omega)
  have kw11 := kw8.no k911
  clear n10 s11 ht2
  obtain ⟨T3, hT3⟩ : ∃ T, T = ((⟨#[102, 117, 110, 99, 32, 102, 40, 41, 32, 123, 32, 103, 40]⟩ : ByteArray) ++ x) ++ ⟨#[44, 41, 59, 32, 125]⟩ := ⟨_, rfl⟩
  have hT3s : T3.size = 13 + x.size + 5 := by rw [hT3]; simp only [ByteArray.size_append, s5, s6]
  have hT3B : B T3 = tA i := by rw [hT3, B_append, B_append, hx]; rfl
  (repeat (first | refine k_nil ?_ | refine k_n ?_ | refine k_r ?_ | refine k_x ?_ | refine b_n ?_ | refine b_r ?_ | refine b_y rfl ?_ | refine b_z rfl ?_ | refine l_r ?_ | refine l_x ?_ | refine k_seq ?_ | refine k_blk ?_ | refine k_reg ?_ | refine k_ret ?_ | refine k_exit ?_ | refine k_skip ?_ | refine Zs ?_))
  refine s_v (r_cat rfl rfl (by rw [s5]; omega)) ?_
  (repeat (first | refine k_nil ?_ | refine k_n ?_ | refine k_r ?_ | refine k_x ?_ | refine b_n ?_ | refine b_r ?_ | refine b_y rfl ?_ | refine b_z rfl ?_ | refine l_r ?_ | refine l_x ?_ | refine k_seq ?_ | refine k_blk ?_ | refine k_reg ?_ | refine k_ret ?_ | refine k_exit ?_ | refine k_skip ?_ | refine Zs ?_))
  refine s_v (r_cat rfl rfl (by simp only [ByteArray.size_append, s5, s6]; omega)) ?_
  rw [← hT3]
  refine s_call (us := []) (zs := []) (by kernel_rfl) rfl rfl (ParseG T3 w11 (hg.kp kw11) (by omega)) ?_
  rintro _ w12 ⟨k12, zx, zs', zf, S3, a3, e3, rfl, ht3, hpr3⟩
  rw [hT3B] at hpr3
  rcases hpr3 with ⟨hq3, _⟩ | ⟨hq3, _⟩
  · rw [hq3] at hcA; cases hcA
  rw [hq3] at hcA
  have he3 : e3 = 3 := hcA
  subst he3
  obtain ⟨xe, se, fe, xf, sf, ff, rfl, rfl, rfl⟩ := ht3.val
  (repeat (first | refine k_nil ?_ | refine k_n ?_ | refine k_r ?_ | refine k_x ?_ | refine b_n ?_ | refine b_r ?_ | refine b_y rfl ?_ | refine b_z rfl ?_ | refine l_r ?_ | refine l_x ?_ | refine k_seq ?_ | refine k_blk ?_ | refine k_reg ?_ | refine k_ret ?_ | refine k_exit ?_ | refine k_skip ?_ | refine Zs ?_))
  refine s_al rfl (fun b13 w13 n13 => ?_)
  refine s_st (vs := [.slice xe S3.ex.length xf, .slice se S3.st.length sf, .slice fe S3.fn.length ff]) rfl rfl rfl rfl rfl n13.blk (Nat.le_of_ble_eq_true rfl) (fun w14 s14 => ?_)
  have k14 : Kp No w11 w14 := k12.no (n13.kp.trans s14.kp fun i hi e => by have := n13.ge; omega)
  have kw14 := kw11.no k14
  clear n13 s14 ht3
  have hb7' := (k911.no k14).get0 hb7
  have hb8' := (k911.no k14).get0 hb8
  obtain ⟨gf, lf, mf, rfl, hlf, hmf, hcf⟩ := (ht6.kp ((k68.no k911).no k14)).fn hFu
  obtain ⟨fl, fcc, rfl⟩ := hlf.val
  have hcf3 := hcf 3 _ rfl
  simp only at hcf3
  (repeat (first | refine k_nil ?_ | refine k_n ?_ | refine k_r ?_ | refine k_x ?_ | refine b_n ?_ | refine b_r ?_ | refine b_y rfl ?_ | refine b_z rfl ?_ | refine l_r ?_ | refine l_x ?_ | refine k_seq ?_ | refine k_blk ?_ | refine k_reg ?_ | refine k_ret ?_ | refine k_exit ?_ | refine k_skip ?_ | refine Zs ?_))
  refine s_set 108 true rfl (by rw [hXk]; rfl) ?_
  (repeat (first | refine k_nil ?_ | refine k_n ?_ | refine k_r ?_ | refine k_x ?_ | refine b_n ?_ | refine b_r ?_ | refine b_y rfl ?_ | refine b_z rfl ?_ | refine l_r ?_ | refine l_x ?_ | refine k_seq ?_ | refine k_blk ?_ | refine k_reg ?_ | refine k_ret ?_ | refine k_exit ?_ | refine k_skip ?_ | refine Zs ?_ | refine Zn ?_ | refine Zu ?_ | refine Zg ?_))
  refine s_set 115 true rfl (by rw [hXl]; simp) ?_
  (repeat (first | refine k_nil ?_ | refine k_n ?_ | refine k_r ?_ | refine k_x ?_ | refine b_n ?_ | refine b_r ?_ | refine b_y rfl ?_ | refine b_z rfl ?_ | refine l_r ?_ | refine l_x ?_ | refine k_seq ?_ | refine k_blk ?_ | refine k_reg ?_ | refine k_ret ?_ | refine k_exit ?_ | refine k_skip ?_ | refine Zs ?_ | refine Zn ?_ | refine Zu ?_ | refine Zg ?_))
  refine s_gv rfl (r_ia (size := 6) rfl rfl rfl rfl (by omega) (by rw [c1]; decide)) ?_
  (repeat (first | refine k_nil ?_ | refine k_n ?_ | refine k_r ?_ | refine k_x ?_ | refine b_n ?_ | refine b_r ?_ | refine b_y rfl ?_ | refine b_z rfl ?_ | refine l_r ?_ | refine l_x ?_ | refine k_seq ?_ | refine k_blk ?_ | refine k_reg ?_ | refine k_ret ?_ | refine k_exit ?_ | refine k_skip ?_ | refine Zs ?_ | refine Zn ?_ | refine Zu ?_ | refine Zg ?_))
  refine s_set 125 true rfl (by rw [hFu2]; simp) ?_
  (repeat (first | refine k_nil ?_ | refine k_n ?_ | refine k_r ?_ | refine k_x ?_ | refine b_n ?_ | refine b_r ?_ | refine b_y rfl ?_ | refine b_z rfl ?_ | refine l_r ?_ | refine l_x ?_ | refine k_seq ?_ | refine k_blk ?_ | refine k_reg ?_ | refine k_ret ?_ | refine k_exit ?_ | refine k_skip ?_ | refine Zs ?_ | refine Zn ?_ | refine Zu ?_ | refine Zg ?_))
  exact ret_1 rfl rfl ⟨rfl, kw14⟩
end Go.Proofs.YtgnkdeapifbgeaaDoor.Sy
