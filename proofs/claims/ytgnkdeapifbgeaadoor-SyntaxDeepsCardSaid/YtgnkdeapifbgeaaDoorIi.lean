/- SyntaxDeeps: its walk. -/
import Derived.Test.YtgnkdeapifbgeaaDoorHh
import Derived.Test.YtgnkdeapifbgeaaDoorIf
import Derived.Test.YtgnkdeapifbgeaaDoorIg
import Derived.Test.YtgnkdeapifbgeaaDoorIk
import Derived.Test.YtgnkdeapifbgeaaDoorIl
namespace Go.Proofs.YtgnkdeapifbgeaaDoor.Fw
open Go Go.RowKit
section
variable {P : Program} {w : World} {ρ : Operand → Value} {dst : Option Tmp} {ty : TypeId} {pos : String} {af : Array Edge} {g : Option (Nat × Bool)} {v : Value}
/-- An element of an array at hand, of one cell each. -/
theorem r_ixa {t e : TypeId} {x y : Operand} {cs : List Value} {k : IntKind} {i : Int} {n : Nat} (ht : P.underlying t = some (.array n e)) (he : aggT P e = some false) (hs : szT P e = some 1) (hx : ρ x = .agg cs.toArray) (hy : ρ y = .int k i) (h0 : 0 ≤ i) (h1 : i < n) (hv : cs[i.toNat]? = some v) :
    Rn P ρ ⟨dst, .index t x y, ty, pos, af, g⟩ w (.ok (.value v) w) := by
  refine ⟨run_v ?_⟩
  rw [hx, hy]
  simp [Instr.index, Sem.run_bind, asIntOf, run_underlying ht, Result.andThen, h0, h1, run_szT hs, Go.part, run_aggT he, hv]
end
end Go.Proofs.YtgnkdeapifbgeaaDoor.Fw
namespace Go.Proofs.YtgnkdeapifbgeaaDoor.Sy
open Go Go.RowKit Fw
set_option linter.unusedVariables false
set_option maxRecDepth 20000
theorem deeps_all {d k : Nat} (hd : d < 4) (hk : k < 70) : chkD d k = true := by
  rcases Nat.lt_or_ge k 14 with h0 | h0
  · match d, hd with
    | 0, _ => have := deeps_0_0 ⟨k, by omega⟩; simpa using this
    | 1, _ => have := deeps_1_0 ⟨k, by omega⟩; simpa using this
    | 2, _ => have := deeps_2_0 ⟨k, by omega⟩; simpa using this
    | 3, _ => have := deeps_3_0 ⟨k, by omega⟩; simpa using this
  rcases Nat.lt_or_ge k 28 with h1 | h1
  · have e : 14 + (k - 14) = k := by omega
    match d, hd with
    | 0, _ => have := deeps_0_1 ⟨k - 14, by omega⟩; simpa [e] using this
    | 1, _ => have := deeps_1_1 ⟨k - 14, by omega⟩; simpa [e] using this
    | 2, _ => have := deeps_2_1 ⟨k - 14, by omega⟩; simpa [e] using this
    | 3, _ => have := deeps_3_1 ⟨k - 14, by omega⟩; simpa [e] using this
  rcases Nat.lt_or_ge k 42 with h2 | h2
  · have e : 28 + (k - 28) = k := by omega
    match d, hd with
    | 0, _ => have := deeps_0_2 ⟨k - 28, by omega⟩; simpa [e] using this
    | 1, _ => have := deeps_1_2 ⟨k - 28, by omega⟩; simpa [e] using this
    | 2, _ => have := deeps_2_2 ⟨k - 28, by omega⟩; simpa [e] using this
    | 3, _ => have := deeps_3_2 ⟨k - 28, by omega⟩; simpa [e] using this
  rcases Nat.lt_or_ge k 56 with h3 | h3
  · have e : 42 + (k - 42) = k := by omega
    match d, hd with
    | 0, _ => have := deeps_0_3 ⟨k - 42, by omega⟩; simpa [e] using this
    | 1, _ => have := deeps_1_3 ⟨k - 42, by omega⟩; simpa [e] using this
    | 2, _ => have := deeps_2_3 ⟨k - 42, by omega⟩; simpa [e] using this
    | 3, _ => have := deeps_3_3 ⟨k - 42, by omega⟩; simpa [e] using this
  · have e : 56 + (k - 56) = k := by omega
    match d, hd with
    | 0, _ => have := deeps_0_4 ⟨k - 56, by omega⟩; simpa [e] using this
    | 1, _ => have := deeps_1_4 ⟨k - 56, by omega⟩; simpa [e] using this
    | 2, _ => have := deeps_2_4 ⟨k - 56, by omega⟩; simpa [e] using this
    | 3, _ => have := deeps_3_4 ⟨k - 56, by omega⟩; simpa [e] using this
theorem blocks_all {k : Nat} (hk : k < 70) : chkB k = true := by
  rcases Nat.lt_or_ge k 50 with h | h
  · obtain ⟨c, r, rfl, hr, hc⟩ : ∃ c r, k = 5 * c + r ∧ r < 5 ∧ c < 10 := ⟨k / 5, k % 5, by omega, by omega, by omega⟩
    match c, hc with
    | 0, _ => have := blocks_0 ⟨r, hr⟩; simpa using this
    | 1, _ => exact blocks_1 ⟨r, hr⟩
    | 2, _ => exact blocks_2 ⟨r, hr⟩
    | 3, _ => exact blocks_3 ⟨r, hr⟩
    | 4, _ => exact blocks_4 ⟨r, hr⟩
    | 5, _ => exact blocks_5 ⟨r, hr⟩
    | 6, _ => exact blocks_6 ⟨r, hr⟩
    | 7, _ => exact blocks_7 ⟨r, hr⟩
    | 8, _ => exact blocks_8 ⟨r, hr⟩
    | 9, _ => exact blocks_9 ⟨r, hr⟩
  · obtain ⟨c, rfl, hc⟩ : ∃ c, k = 50 + c ∧ c < 20 := ⟨k - 50, by omega, by omega⟩
    match c, hc with
    | 0, _ => exact blocksA_50
    | 1, _ => exact blocksA_51
    | 2, _ => exact blocksA_52
    | 3, _ => exact blocksA_53
    | 4, _ => exact blocksA_54
    | 5, _ => exact blocksA_55
    | 6, _ => exact blocksA_56
    | 7, _ => exact blocksA_57
    | 8, _ => exact blocksA_58
    | 9, _ => exact blocksA_59
    | 10, _ => exact blocksA_60
    | 11, _ => exact blocksA_61
    | 12, _ => exact blocksA_62
    | 13, _ => exact blocksA_63
    | 14, _ => exact blocksA_64
    | 15, _ => exact blocksA_65
    | 16, _ => exact blocksA_66
    | 17, _ => exact blocksA_67
    | 18, _ => exact blocksA_68
    | 19, _ => exact blocksA_69
    | c + 20, hc => omega
theorem rp_len {x : List Int} (hx : x.length ≤ 7) : ∀ k, (rp x k).length ≤ 7 * k := by
  intro k
  induction k with
  | zero => simp [rp]
  | succ k ih => unfold rp; simp only [List.length_append]; omega
/-- The sign's texts. -/
def opB (d : Nat) : ByteArray := match d with | 0 => ⟨#[40]⟩ | 1 => ⟨#[45]⟩ | 2 => ⟨#[33]⟩ | _ => ⟨#[97, 91]⟩
def shB (d : Nat) : ByteArray := match d with | 0 => ⟨#[41]⟩ | 1 => ⟨#[]⟩ | 2 => ⟨#[]⟩ | _ => ⟨#[93]⟩
theorem opB_B {d : Nat} (h : d < 4) : B (opB d) = tOpen d ∧ (opB d).size ≤ 2 ∧ B (shB d) = tShut d ∧ (shB d).size ≤ 1 := by
  match d, h with
  | 0, _ => exact ⟨rfl, by decide, rfl, by decide⟩
  | 1, _ => exact ⟨rfl, by decide, rfl, by decide⟩
  | 2, _ => exact ⟨rfl, by decide, rfl, by decide⟩
  | 3, _ => exact ⟨rfl, by decide, rfl, by decide⟩
theorem opB_at {d : Nat} (h : d < 4) : ([Value.string ⟨#[40]⟩, .string ⟨#[45]⟩, .string ⟨#[33]⟩, .string ⟨#[97, 91]⟩] : List Value)[(d : Int).toNat]? = some (.string (opB d)) ∧ ([Value.string ⟨#[41]⟩, .string ⟨#[]⟩, .string ⟨#[]⟩, .string ⟨#[93]⟩] : List Value)[(d : Int).toNat]? = some (.string (shB d)) := by
  match d, h with
  | 0, _ => exact ⟨rfl, rfl⟩
  | 1, _ => exact ⟨rfl, rfl⟩
  | 2, _ => exact ⟨rfl, rfl⟩
  | 3, _ => exact ⟨rfl, rfl⟩
/-- The law's last word: both are wrong just if they are too deep. -/
theorem deep_e {L : List Int} {k : Nat} {e : Int} (hc : (cod (prs L) == (if k ≤ 63 then 0 else 4)) = true) (h : (∃ S, prs L = .ok () S ∧ e = 0) ∨ (∃ a, prs L = .er e a)) : e = if k ≤ 63 then 0 else 4 := by
  have hc : cod (prs L) = if k ≤ 63 then 0 else 4 := by simpa using hc
  rcases h with ⟨S, h, rfl⟩ | ⟨a, h⟩
  · rw [h] at hc; exact hc
  · rw [h] at hc; exact hc
set_option maxHeartbeats 1000000 in
theorem DeepsF (m n : Int) (w : World) (hg : Tk.Glob w) (hm : 0 ≤ m ∧ m < 256) (hn : 0 ≤ n ∧ n < 256) :
    Ret Tryd.prog 4 [.int .u8 m, .int .u8 n] w fun v w1 => v = .bool true ∧ Kp No w w1 := by
  refine ret_enter Tryd.func4 rfl Tryd.ntmps4 rfl ?_
  (repeat (first | refine k_nil ?_ | refine k_n ?_ | refine k_r ?_ | refine k_x ?_ | refine b_n ?_ | refine b_r ?_ | refine b_y rfl ?_ | refine b_z rfl ?_ | refine l_r ?_ | refine l_x ?_ | refine k_seq ?_ | refine k_blk ?_ | refine k_reg ?_ | refine k_ret ?_ | refine k_exit ?_ | refine k_skip ?_ | refine Zs ?_))
  refine s_call (us := []) (zs := []) (by kernel_rfl) rfl rfl (awakeF w hg) ?_
  rintro _ w1 ⟨rfl, k1⟩
  (repeat (first | refine k_nil ?_ | refine k_n ?_ | refine k_r ?_ | refine k_x ?_ | refine b_n ?_ | refine b_r ?_ | refine b_y rfl ?_ | refine b_z rfl ?_ | refine l_r ?_ | refine l_x ?_ | refine k_seq ?_ | refine k_blk ?_ | refine k_reg ?_ | refine k_ret ?_ | refine k_exit ?_ | refine k_skip ?_ | refine Zs ?_))
  refine c_f rfl ?_
  obtain ⟨k, hk, hk70⟩ : ∃ k : Nat, m % 70 = k ∧ k < 70 := ⟨(m % 70).toNat, by omega, by omega⟩
  obtain ⟨d, hd, hd4⟩ : ∃ d : Nat, n % 4 = d ∧ d < 4 := ⟨(n % 4).toNat, by omega, by omega⟩
  (repeat (first | refine k_nil ?_ | refine k_n ?_ | refine k_r ?_ | refine k_x ?_ | refine b_n ?_ | refine b_r ?_ | refine b_y rfl ?_ | refine b_z rfl ?_ | refine l_r ?_ | refine l_x ?_ | refine k_seq ?_ | refine k_blk ?_ | refine k_reg ?_ | refine k_ret ?_ | refine k_exit ?_ | refine k_skip ?_ | refine Zs ?_))
  rw [hk]
  (repeat (first | refine k_nil ?_ | refine k_n ?_ | refine k_r ?_ | refine k_x ?_ | refine b_n ?_ | refine b_r ?_ | refine b_y rfl ?_ | refine b_z rfl ?_ | refine l_r ?_ | refine l_x ?_ | refine k_seq ?_ | refine k_blk ?_ | refine k_reg ?_ | refine k_ret ?_ | refine k_exit ?_ | refine k_skip ?_ | refine Zs ?_))
  obtain ⟨o1, o2, o3, o4⟩ := opB_B hd4
  obtain ⟨i1, i2⟩ := opB_at hd4
  refine k_q (by kernel_rfl) (by kernel_rfl) ?_
  refine q_v (v := .agg [Value.string ⟨#[40]⟩, .string ⟨#[45]⟩, .string ⟨#[33]⟩, .string ⟨#[97, 91]⟩].toArray) (fun w' hw => r_bd rfl) ?_
  (repeat (first | refine Zq ?_ | refine Zqn ?_ | refine Zqu ?_ | refine Zqg ?_))
  refine q_v (fun w' hw => r_rem (q := 4) rfl rfl (by omega) (by decide)) ?_
  rw [hd]
  refine q_v (v := .string (opB d)) (fun w' hw => r_ixa (cs := [Value.string ⟨#[40]⟩, .string ⟨#[45]⟩, .string ⟨#[33]⟩, .string ⟨#[97, 91]⟩]) rfl rfl rfl rfl rfl (by omega) (by omega) i1) ?_
  refine q_v (v := .agg [Value.string ⟨#[41]⟩, .string ⟨#[]⟩, .string ⟨#[]⟩, .string ⟨#[93]⟩].toArray) (fun w' hw => r_bd rfl) ?_
  (repeat (first | refine Zq ?_ | refine Zqn ?_ | refine Zqu ?_ | refine Zqg ?_))
  refine q_v (fun w' hw => r_rem (q := 4) rfl rfl (by omega) (by decide)) ?_
  rw [hd]
  refine q_v (v := .string (shB d)) (fun w' hw => r_ixa (cs := [Value.string ⟨#[41]⟩, .string ⟨#[]⟩, .string ⟨#[]⟩, .string ⟨#[93]⟩]) rfl rfl rfl rfl rfl (by omega) (by omega) i2) ?_
  (repeat (first | refine Zq ?_ | refine Zqn ?_ | refine Zqu ?_ | refine Zqg ?_))
  refine q_nil (fun w2 k2 => ?_)
  have kw2 := k1.no k2
  (repeat (first | refine k_nil ?_ | refine k_n ?_ | refine k_r ?_ | refine k_x ?_ | refine b_n ?_ | refine b_r ?_ | refine b_y rfl ?_ | refine b_z rfl ?_ | refine l_r ?_ | refine l_x ?_ | refine k_seq ?_ | refine k_blk ?_ | refine k_reg ?_ | refine k_ret ?_ | refine k_exit ?_ | refine k_skip ?_ | refine Zs ?_))
  refine k_loop (σ := Nat × ByteArray × ByteArray) (fun t => [(5, .int .i64 (k : Int)), (6, .string (opB d)), (7, .string (shB d)), (8, .string t.2.1), (9, .string t.2.2), (31, .int .i64 (k : Int)), (32, .int .i64 (t.1 : Int))])
    (fun t w' => w' = w2 ∧ t.1 ≤ k ∧ B t.2.1 = rp (tOpen d) t.1 ∧ B t.2.2 = rp (tShut d) t.1) (fun t => k - t.1) (0, ⟨#[]⟩, ⟨#[]⟩) ⟨rfl, rfl, rfl, rfl, rfl, rfl, rfl, trivial⟩ ⟨rfl, Nat.zero_le _, rfl, rfl⟩ ?_
  rintro ⟨i, x, y⟩ l w3 ⟨rfl, hi, hx, hy⟩
  simp only at hi hx hy
  dsimp only
  have hxl : x.size ≤ 490 := by rw [← B_len, hx]; have := rp_len (x := tOpen d) (by rw [← o1, B_len]; omega) i; omega
  have hyl : y.size ≤ 490 := by rw [← B_len, hy]; have := rp_len (x := tShut d) (by rw [← o3, B_len]; omega) i; omega
  (repeat (first | refine k_nil ?_ | refine k_n ?_ | refine k_r ?_ | refine k_x ?_ | refine b_n ?_ | refine b_r ?_ | refine b_y rfl ?_ | refine b_z rfl ?_ | refine l_r ?_ | refine l_x ?_ | refine k_seq ?_ | refine k_blk ?_ | refine k_reg ?_ | refine k_ret ?_ | refine k_exit ?_ | refine k_skip ?_ | refine Zs ?_))
  refine c_dec rfl (fun q => ?_) (fun q => ?_)
  · (repeat (first | refine k_nil ?_ | refine k_n ?_ | refine k_r ?_ | refine k_x ?_ | refine b_n ?_ | refine b_r ?_ | refine b_y rfl ?_ | refine b_z rfl ?_ | refine l_r ?_ | refine l_x ?_ | refine k_seq ?_ | refine k_blk ?_ | refine k_reg ?_ | refine k_ret ?_ | refine k_exit ?_ | refine k_skip ?_ | refine Zs ?_))
    refine s_v (r_cat rfl rfl (by omega)) ?_
    (repeat (first | refine k_nil ?_ | refine k_n ?_ | refine k_r ?_ | refine k_x ?_ | refine b_n ?_ | refine b_r ?_ | refine b_y rfl ?_ | refine b_z rfl ?_ | refine l_r ?_ | refine l_x ?_ | refine k_seq ?_ | refine k_blk ?_ | refine k_reg ?_ | refine k_ret ?_ | refine k_exit ?_ | refine k_skip ?_ | refine Zs ?_))
    refine s_v (r_cat rfl rfl (by omega)) ?_
    (repeat (first | refine k_nil ?_ | refine k_n ?_ | refine k_r ?_ | refine k_x ?_ | refine b_n ?_ | refine b_r ?_ | refine b_y rfl ?_ | refine b_z rfl ?_ | refine l_r ?_ | refine l_x ?_ | refine k_seq ?_ | refine k_blk ?_ | refine k_reg ?_ | refine k_ret ?_ | refine k_exit ?_ | refine k_skip ?_ | refine Zs ?_))
    exact l_next (i + 1, x ++ opB d, y ++ shB d) ⟨rfl, rfl, rfl, rfl, rfl, rfl, rfl, trivial⟩ ⟨rfl, by show i + 1 ≤ k; omega, by show B (x ++ opB d) = _; rw [B_append, hx, o1]; rfl, by show B (y ++ shB d) = _; rw [B_append, hy, o3]; rfl⟩ (by show k - (i + 1) < k - i; omega)
  have hik : i = k := by omega
  subst hik
  have s1 : (ByteArray.mk #[102, 117, 110, 99, 32, 109, 97, 105, 110, 40, 41, 32, 123, 32, 112, 114, 105, 110, 116, 32]).size = 20 := rfl
  have s2 : (ByteArray.mk #[49]).size = 1 := rfl
  have s3 : (ByteArray.mk #[59, 32, 125]).size = 3 := rfl
  obtain ⟨T, hT⟩ : ∃ T, T = (((⟨#[102, 117, 110, 99, 32, 109, 97, 105, 110, 40, 41, 32, 123, 32, 112, 114, 105, 110, 116, 32]⟩ : ByteArray) ++ x) ++ ⟨#[49]⟩ ++ y) ++ ⟨#[59, 32, 125]⟩ := ⟨_, rfl⟩
  have hTs : T.size = 20 + x.size + 1 + y.size + 3 := by rw [hT]; simp only [ByteArray.size_append, s1, s2, s3]
  have hTB : B T = tD d i := by rw [hT, B_append, B_append, B_append, B_append, hx, hy]; rfl
  (repeat (first | refine k_nil ?_ | refine k_n ?_ | refine k_r ?_ | refine k_x ?_ | refine b_n ?_ | refine b_r ?_ | refine b_y rfl ?_ | refine b_z rfl ?_ | refine l_r ?_ | refine l_x ?_ | refine k_seq ?_ | refine k_blk ?_ | refine k_reg ?_ | refine k_ret ?_ | refine k_exit ?_ | refine k_skip ?_ | refine Zs ?_))
  refine s_v (r_cat rfl rfl (by rw [s1]; omega)) ?_
  (repeat (first | refine k_nil ?_ | refine k_n ?_ | refine k_r ?_ | refine k_x ?_ | refine b_n ?_ | refine b_r ?_ | refine b_y rfl ?_ | refine b_z rfl ?_ | refine l_r ?_ | refine l_x ?_ | refine k_seq ?_ | refine k_blk ?_ | refine k_reg ?_ | refine k_ret ?_ | refine k_exit ?_ | refine k_skip ?_ | refine Zs ?_))
  refine s_v (r_cat rfl rfl (by simp only [ByteArray.size_append, s1, s2]; omega)) ?_
  (repeat (first | refine k_nil ?_ | refine k_n ?_ | refine k_r ?_ | refine k_x ?_ | refine b_n ?_ | refine b_r ?_ | refine b_y rfl ?_ | refine b_z rfl ?_ | refine l_r ?_ | refine l_x ?_ | refine k_seq ?_ | refine k_blk ?_ | refine k_reg ?_ | refine k_ret ?_ | refine k_exit ?_ | refine k_skip ?_ | refine Zs ?_))
  refine s_v (r_cat rfl rfl (by simp only [ByteArray.size_append, s1, s2]; omega)) ?_
  (repeat (first | refine k_nil ?_ | refine k_n ?_ | refine k_r ?_ | refine k_x ?_ | refine b_n ?_ | refine b_r ?_ | refine b_y rfl ?_ | refine b_z rfl ?_ | refine l_r ?_ | refine l_x ?_ | refine k_seq ?_ | refine k_blk ?_ | refine k_reg ?_ | refine k_ret ?_ | refine k_exit ?_ | refine k_skip ?_ | refine Zs ?_))
  refine s_v (r_cat rfl rfl (by simp only [ByteArray.size_append, s1, s2, s3]; omega)) ?_
  rw [← hT]
  refine s_call (us := []) (zs := []) (by kernel_rfl) rfl rfl (ParseG T w3 (hg.kp kw2) (by omega)) ?_
  rintro _ w4 ⟨k4, ux, us, uf, S, a1, e1, rfl, ht, hpr⟩
  obtain ⟨xa, sa, fa, xc, sc, fc, rfl, rfl, rfl⟩ := ht.val
  rw [hTB] at hpr
  have he1 := deep_e (k := i) (deeps_all hd4 hk70) (e := e1) (hpr.imp (fun h => ⟨S, h.1, h.2.2.1⟩) fun h => ⟨a1, h.1⟩)
  (repeat (first | refine k_nil ?_ | refine k_n ?_ | refine k_r ?_ | refine k_x ?_ | refine b_n ?_ | refine b_r ?_ | refine b_y rfl ?_ | refine b_z rfl ?_ | refine l_r ?_ | refine l_x ?_ | refine k_seq ?_ | refine k_blk ?_ | refine k_reg ?_ | refine k_ret ?_ | refine k_exit ?_ | refine k_skip ?_ | refine Zs ?_))
  refine s_al rfl (fun b w5 n5 => ?_)
  refine s_st (vs := [.slice xa S.ex.length xc, .slice sa S.st.length sc, .slice fa S.fn.length fc]) rfl rfl rfl rfl rfl n5.blk (Nat.le_of_ble_eq_true rfl) (fun w6 s6 => ?_)
  have k46 : Kp No w4 w6 := n5.kp.trans s6.kp fun i hi e => by have := n5.ge; omega
  have kw6 := (kw2.no k4).no k46
  clear n5 s6 ht hpr
  (repeat (first | refine k_nil ?_ | refine k_n ?_ | refine k_r ?_ | refine k_x ?_ | refine b_n ?_ | refine b_r ?_ | refine b_y rfl ?_ | refine b_z rfl ?_ | refine l_r ?_ | refine l_x ?_ | refine k_seq ?_ | refine k_blk ?_ | refine k_reg ?_ | refine k_ret ?_ | refine k_exit ?_ | refine k_skip ?_ | refine Zs ?_))
  refine k_loop (σ := Nat × ByteArray × ByteArray) (fun t => [(5, .int .i64 (i : Int)), (12, .int .i64 e1), (13, .string t.2.1), (14, .string t.2.2), (52, .int .i64 (i : Int)), (53, .int .i64 (t.1 : Int))])
    (fun t w' => w' = w6 ∧ t.1 ≤ i ∧ B t.2.1 = rp [105, 102, 32, 49, 32, 123] t.1 ∧ B t.2.2 = rp [125] t.1) (fun t => i - t.1) (0, ⟨#[]⟩, ⟨#[]⟩) ⟨rfl, rfl, rfl, rfl, rfl, rfl, trivial⟩ ⟨rfl, Nat.zero_le _, rfl, rfl⟩ ?_
  rintro ⟨j, x2, y2⟩ l7 w7 ⟨rfl, hj, hx2, hy2⟩
  simp only at hj hx2 hy2
  dsimp only
  have hx2l : x2.size ≤ 490 := by rw [← B_len, hx2]; have := rp_len (x := [105, 102, 32, 49, 32, 123]) (by simp) j; omega
  have hy2l : y2.size ≤ 490 := by rw [← B_len, hy2]; have := rp_len (x := [125]) (by simp) j; omega
  have s4 : (ByteArray.mk #[105, 102, 32, 49, 32, 123]).size = 6 := rfl
  have s5 : (ByteArray.mk #[125]).size = 1 := rfl
  (repeat (first | refine k_nil ?_ | refine k_n ?_ | refine k_r ?_ | refine k_x ?_ | refine b_n ?_ | refine b_r ?_ | refine b_y rfl ?_ | refine b_z rfl ?_ | refine l_r ?_ | refine l_x ?_ | refine k_seq ?_ | refine k_blk ?_ | refine k_reg ?_ | refine k_ret ?_ | refine k_exit ?_ | refine k_skip ?_ | refine Zs ?_))
  refine c_dec rfl (fun q => ?_) (fun q => ?_)
  · (repeat (first | refine k_nil ?_ | refine k_n ?_ | refine k_r ?_ | refine k_x ?_ | refine b_n ?_ | refine b_r ?_ | refine b_y rfl ?_ | refine b_z rfl ?_ | refine l_r ?_ | refine l_x ?_ | refine k_seq ?_ | refine k_blk ?_ | refine k_reg ?_ | refine k_ret ?_ | refine k_exit ?_ | refine k_skip ?_ | refine Zs ?_))
    refine s_v (r_cat rfl rfl (by rw [s4]; omega)) ?_
    (repeat (first | refine k_nil ?_ | refine k_n ?_ | refine k_r ?_ | refine k_x ?_ | refine b_n ?_ | refine b_r ?_ | refine b_y rfl ?_ | refine b_z rfl ?_ | refine l_r ?_ | refine l_x ?_ | refine k_seq ?_ | refine k_blk ?_ | refine k_reg ?_ | refine k_ret ?_ | refine k_exit ?_ | refine k_skip ?_ | refine Zs ?_))
    refine s_v (r_cat rfl rfl (by rw [s5]; omega)) ?_
    (repeat (first | refine k_nil ?_ | refine k_n ?_ | refine k_r ?_ | refine k_x ?_ | refine b_n ?_ | refine b_r ?_ | refine b_y rfl ?_ | refine b_z rfl ?_ | refine l_r ?_ | refine l_x ?_ | refine k_seq ?_ | refine k_blk ?_ | refine k_reg ?_ | refine k_ret ?_ | refine k_exit ?_ | refine k_skip ?_ | refine Zs ?_))
    exact l_next (j + 1, x2 ++ ⟨#[105, 102, 32, 49, 32, 123]⟩, y2 ++ ⟨#[125]⟩) ⟨rfl, rfl, rfl, rfl, rfl, rfl, trivial⟩ ⟨rfl, by show j + 1 ≤ i; omega, by show B (x2 ++ _) = _; rw [B_append, hx2]; rfl, by show B (y2 ++ _) = _; rw [B_append, hy2]; rfl⟩ (by show i - (j + 1) < i - j; omega)
  have hji : j = i := by omega
  subst hji
  have s6 : (ByteArray.mk #[102, 117, 110, 99, 32, 109, 97, 105, 110, 40, 41, 32, 123]).size = 13 := rfl
  obtain ⟨T2, hT2⟩ : ∃ T, T = (((⟨#[102, 117, 110, 99, 32, 109, 97, 105, 110, 40, 41, 32, 123]⟩ : ByteArray) ++ x2) ++ y2) ++ ⟨#[125]⟩ := ⟨_, rfl⟩
  have hT2s : T2.size = 13 + x2.size + y2.size + 1 := by rw [hT2]; simp only [ByteArray.size_append, s5, s6]
  have hT2B : B T2 = tB j := by rw [hT2, B_append, B_append, B_append, hx2, hy2]; rfl
  (repeat (first | refine k_nil ?_ | refine k_n ?_ | refine k_r ?_ | refine k_x ?_ | refine b_n ?_ | refine b_r ?_ | refine b_y rfl ?_ | refine b_z rfl ?_ | refine l_r ?_ | refine l_x ?_ | refine k_seq ?_ | refine k_blk ?_ | refine k_reg ?_ | refine k_ret ?_ | refine k_exit ?_ | refine k_skip ?_ | refine Zs ?_))
  refine s_v (r_cat rfl rfl (by rw [s6]; omega)) ?_
  (repeat (first | refine k_nil ?_ | refine k_n ?_ | refine k_r ?_ | refine k_x ?_ | refine b_n ?_ | refine b_r ?_ | refine b_y rfl ?_ | refine b_z rfl ?_ | refine l_r ?_ | refine l_x ?_ | refine k_seq ?_ | refine k_blk ?_ | refine k_reg ?_ | refine k_ret ?_ | refine k_exit ?_ | refine k_skip ?_ | refine Zs ?_))
  refine s_v (r_cat rfl rfl (by simp only [ByteArray.size_append, s6]; omega)) ?_
  (repeat (first | refine k_nil ?_ | refine k_n ?_ | refine k_r ?_ | refine k_x ?_ | refine b_n ?_ | refine b_r ?_ | refine b_y rfl ?_ | refine b_z rfl ?_ | refine l_r ?_ | refine l_x ?_ | refine k_seq ?_ | refine k_blk ?_ | refine k_reg ?_ | refine k_ret ?_ | refine k_exit ?_ | refine k_skip ?_ | refine Zs ?_))
  refine s_v (r_cat rfl rfl (by simp only [ByteArray.size_append, s5, s6]; omega)) ?_
  rw [← hT2]
  refine s_call (us := []) (zs := []) (by kernel_rfl) rfl rfl (ParseG T2 w7 (hg.kp kw6) (by omega)) ?_
  rintro _ w8 ⟨k8, vx, vs, vf, S2, a2, e2, rfl, ht2, hpr2⟩
  obtain ⟨xb, sb, fb, xd, sd, fd, rfl, rfl, rfl⟩ := ht2.val
  rw [hT2B] at hpr2
  have he2 := deep_e (k := j) (blocks_all hk70) (e := e2) (hpr2.imp (fun h => ⟨S2, h.1, h.2.2.1⟩) fun h => ⟨a2, h.1⟩)
  (repeat (first | refine k_nil ?_ | refine k_n ?_ | refine k_r ?_ | refine k_x ?_ | refine b_n ?_ | refine b_r ?_ | refine b_y rfl ?_ | refine b_z rfl ?_ | refine l_r ?_ | refine l_x ?_ | refine k_seq ?_ | refine k_blk ?_ | refine k_reg ?_ | refine k_ret ?_ | refine k_exit ?_ | refine k_skip ?_ | refine Zs ?_))
  refine s_al rfl (fun b9 w9 n9 => ?_)
  refine s_st (vs := [.slice xb S2.ex.length xd, .slice sb S2.st.length sd, .slice fb S2.fn.length fd]) rfl rfl rfl rfl rfl n9.blk (Nat.le_of_ble_eq_true rfl) (fun w10 s10 => ?_)
  have k810 : Kp No w8 w10 := n9.kp.trans s10.kp fun i hi e => by have := n9.ge; omega
  have kw10 := (kw6.no k8).no k810
  clear n9 s10 ht2 hpr2
  by_cases h63 : j ≤ 63
  · rw [if_pos h63] at he1 he2
    subst he1 he2
    (repeat (first | refine k_nil ?_ | refine k_n ?_ | refine k_r ?_ | refine k_x ?_ | refine b_n ?_ | refine b_r ?_ | refine b_y rfl ?_ | refine b_z rfl ?_ | refine l_r ?_ | refine l_x ?_ | refine k_seq ?_ | refine k_blk ?_ | refine k_reg ?_ | refine k_ret ?_ | refine k_exit ?_ | refine k_skip ?_ | refine Zs ?_))
    refine s_set 73 true rfl (decide_eq_true (by omega)) ?_
    refine s_v (r_beq rfl rfl rfl) ?_
    (repeat (first | refine k_nil ?_ | refine k_n ?_ | refine k_r ?_ | refine k_x ?_ | refine b_n ?_ | refine b_r ?_ | refine b_y rfl ?_ | refine b_z rfl ?_ | refine l_r ?_ | refine l_x ?_ | refine k_seq ?_ | refine k_blk ?_ | refine k_reg ?_ | refine k_ret ?_ | refine k_exit ?_ | refine k_skip ?_ | refine Zs ?_ | refine Zn ?_ | refine Zu ?_ | refine Zg ?_))
    refine s_set 79 true rfl (decide_eq_true (by omega)) ?_
    refine s_gv rfl (r_beq rfl rfl rfl) ?_
    (repeat (first | refine k_nil ?_ | refine k_n ?_ | refine k_r ?_ | refine k_x ?_ | refine b_n ?_ | refine b_r ?_ | refine b_y rfl ?_ | refine b_z rfl ?_ | refine l_r ?_ | refine l_x ?_ | refine k_seq ?_ | refine k_blk ?_ | refine k_reg ?_ | refine k_ret ?_ | refine k_exit ?_ | refine k_skip ?_ | refine Zs ?_ | refine Zn ?_ | refine Zu ?_ | refine Zg ?_))
    refine s_set 85 true rfl (decide_eq_true (by omega)) ?_
    (repeat (first | refine k_nil ?_ | refine k_n ?_ | refine k_r ?_ | refine k_x ?_ | refine b_n ?_ | refine b_r ?_ | refine b_y rfl ?_ | refine b_z rfl ?_ | refine l_r ?_ | refine l_x ?_ | refine k_seq ?_ | refine k_blk ?_ | refine k_reg ?_ | refine k_ret ?_ | refine k_exit ?_ | refine k_skip ?_ | refine Zs ?_ | refine Zn ?_ | refine Zu ?_ | refine Zg ?_))
    exact ret_1 rfl rfl ⟨rfl, kw10⟩
  · rw [if_neg h63] at he1 he2
    subst he1 he2
    (repeat (first | refine k_nil ?_ | refine k_n ?_ | refine k_r ?_ | refine k_x ?_ | refine b_n ?_ | refine b_r ?_ | refine b_y rfl ?_ | refine b_z rfl ?_ | refine l_r ?_ | refine l_x ?_ | refine k_seq ?_ | refine k_blk ?_ | refine k_reg ?_ | refine k_ret ?_ | refine k_exit ?_ | refine k_skip ?_ | refine Zs ?_))
    refine s_set 73 false rfl (decide_eq_false (by omega)) ?_
    refine s_v (r_beq rfl rfl rfl) ?_
    (repeat (first | refine k_nil ?_ | refine k_n ?_ | refine k_r ?_ | refine k_x ?_ | refine b_n ?_ | refine b_r ?_ | refine b_y rfl ?_ | refine b_z rfl ?_ | refine l_r ?_ | refine l_x ?_ | refine k_seq ?_ | refine k_blk ?_ | refine k_reg ?_ | refine k_ret ?_ | refine k_exit ?_ | refine k_skip ?_ | refine Zs ?_ | refine Zn ?_ | refine Zu ?_ | refine Zg ?_))
    refine s_set 79 false rfl (decide_eq_false (by omega)) ?_
    refine s_gv rfl (r_beq rfl rfl rfl) ?_
    (repeat (first | refine k_nil ?_ | refine k_n ?_ | refine k_r ?_ | refine k_x ?_ | refine b_n ?_ | refine b_r ?_ | refine b_y rfl ?_ | refine b_z rfl ?_ | refine l_r ?_ | refine l_x ?_ | refine k_seq ?_ | refine k_blk ?_ | refine k_reg ?_ | refine k_ret ?_ | refine k_exit ?_ | refine k_skip ?_ | refine Zs ?_ | refine Zn ?_ | refine Zu ?_ | refine Zg ?_))
    refine s_set 85 false rfl (decide_eq_false (by omega)) ?_
    (repeat (first | refine k_nil ?_ | refine k_n ?_ | refine k_r ?_ | refine k_x ?_ | refine b_n ?_ | refine b_r ?_ | refine b_y rfl ?_ | refine b_z rfl ?_ | refine l_r ?_ | refine l_x ?_ | refine k_seq ?_ | refine k_blk ?_ | refine k_reg ?_ | refine k_ret ?_ | refine k_exit ?_ | refine k_skip ?_ | refine Zs ?_ | refine Zn ?_ | refine Zu ?_ | refine Zg ?_))
    exact ret_1 rfl rfl ⟨rfl, kw10⟩
end Go.Proofs.YtgnkdeapifbgeaaDoor.Sy
