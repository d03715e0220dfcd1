/- The shelf's functions: what each answers. -/
import Derived.Test.YtfckpboidecmaaaProg
import Derived.Test.YtfckpboidecmaaaFu
namespace Go.Proofs.Ytfckpboidecmaaa
open Go Go.RowKit Fw
set_option linter.unusedVariables false
namespace Ar
theorem Room (n : Int) (w : World) (hn : -9223372036854775808 ≤ n ∧ n ≤ 9223372036854775807) :
    Ret Try.prog 7 [.int .i64 n] w fun v w1 => ∃ b, v = .pointer (some ⟨b, 0, none⟩) ∧ Nb w b [.slice none 0 0, .int .i64 (min (max n 1) 1000), .int .i64 0] 43 w1 := by
  refine ret_enter Try.func7 rfl Try.ntmps7 rfl ?_
  (repeat (first | refine k_nil ?_ | refine k_n ?_ | refine k_r ?_ | refine k_x ?_ | refine b_n ?_ | refine b_r ?_ | refine b_y rfl ?_ | refine b_z rfl ?_ | refine l_r ?_ | refine l_x ?_ | refine k_seq ?_ | refine k_blk ?_ | refine k_reg ?_ | refine k_ret ?_ | refine k_exit ?_ | refine k_skip ?_ | refine s_v (r_mv rfl) ?_ | refine s_v (r_as rfl) ?_ | refine s_v (r_add rfl rfl (by omega)) ?_ | refine s_v (r_sub rfl rfl (by omega)) ?_ | refine s_v (r_mul rfl rfl (by omega)) ?_ | refine s_v (r_bin rfl) ?_ | refine s_v (r_fa rfl rfl) ?_ | refine s_v (r_ld rfl rfl (by first | assumption | exact cell_of_blk (by assumption) (by rfl))) ?_ | refine s_v (r_nc rfl) ?_ | refine s_v (r_not rfl) ?_ | refine s_v (r_mf rfl rfl) ?_ | refine s_v (r_len rfl) ?_ | refine s_v (r_ex rfl) ?_ | refine s_v (r_fd rfl) ?_ | refine s_v (r_cvi rfl rfl rfl (wrap_in (by omega))) ?_ | refine s_v (r_cv rfl) ?_ | refine s_v (r_peq rfl rfl rfl) ?_ | refine s_v (r_pne rfl rfl rfl) ?_ | refine s_v (r_min rfl rfl) ?_ | refine s_v (r_max rfl rfl) ?_ | refine s_v (r_bd rfl) ?_ | refine s_v (r_pt rfl rfl) ?_ | refine s_v (r_pf rfl rfl) ?_))
  refine s_box rfl rfl (fun b w1 hb => ?_)
  (repeat (first | refine k_nil ?_ | refine k_n ?_ | refine k_r ?_ | refine k_x ?_ | refine b_n ?_ | refine b_r ?_ | refine b_y rfl ?_ | refine b_z rfl ?_ | refine l_r ?_ | refine l_x ?_ | refine k_seq ?_ | refine k_blk ?_ | refine k_reg ?_ | refine k_ret ?_ | refine k_exit ?_ | refine k_skip ?_ | refine s_v (r_mv rfl) ?_ | refine s_v (r_as rfl) ?_ | refine s_v (r_add rfl rfl (by omega)) ?_ | refine s_v (r_sub rfl rfl (by omega)) ?_ | refine s_v (r_mul rfl rfl (by omega)) ?_ | refine s_v (r_bin rfl) ?_ | refine s_v (r_fa rfl rfl) ?_ | refine s_v (r_ld rfl rfl (by first | assumption | exact cell_of_blk (by assumption) (by rfl))) ?_ | refine s_v (r_nc rfl) ?_ | refine s_v (r_not rfl) ?_ | refine s_v (r_mf rfl rfl) ?_ | refine s_v (r_len rfl) ?_ | refine s_v (r_ex rfl) ?_ | refine s_v (r_fd rfl) ?_ | refine s_v (r_cvi rfl rfl rfl (wrap_in (by omega))) ?_ | refine s_v (r_cv rfl) ?_ | refine s_v (r_peq rfl rfl rfl) ?_ | refine s_v (r_pne rfl rfl rfl) ?_ | refine s_v (r_min rfl rfl) ?_ | refine s_v (r_max rfl rfl) ?_ | refine s_v (r_bd rfl) ?_ | refine s_v (r_pt rfl rfl) ?_ | refine s_v (r_pf rfl rfl) ?_))
  exact ret_1 rfl rfl ⟨b, rfl, hb⟩
theorem Fetched (p : Nat) (s : Value) (r f : Int) (w : World) (hb : w.heap[p]? = some (.cells [s, .int .i64 r, .int .i64 f].toArray 43 (0, 0))) :
    Ret Try.prog 11 [.pointer (some ⟨p, 0, none⟩)] w fun v w1 => v = .int .i64 f ∧ w1 = w := by
  refine ret_enter Try.func11 rfl Try.ntmps11 rfl ?_
  (repeat (first | refine k_nil ?_ | refine k_n ?_ | refine k_r ?_ | refine k_x ?_ | refine b_n ?_ | refine b_r ?_ | refine b_y rfl ?_ | refine b_z rfl ?_ | refine l_r ?_ | refine l_x ?_ | refine k_seq ?_ | refine k_blk ?_ | refine k_reg ?_ | refine k_ret ?_ | refine k_exit ?_ | refine k_skip ?_ | refine s_v (r_mv rfl) ?_ | refine s_v (r_as rfl) ?_ | refine s_v (r_add rfl rfl (by omega)) ?_ | refine s_v (r_sub rfl rfl (by omega)) ?_ | refine s_v (r_mul rfl rfl (by omega)) ?_ | refine s_v (r_bin rfl) ?_ | refine s_v (r_fa rfl rfl) ?_ | refine s_v (r_ld rfl rfl (by first | assumption | exact cell_of_blk (by assumption) (by rfl))) ?_ | refine s_v (r_nc rfl) ?_ | refine s_v (r_not rfl) ?_ | refine s_v (r_mf rfl rfl) ?_ | refine s_v (r_len rfl) ?_ | refine s_v (r_ex rfl) ?_ | refine s_v (r_fd rfl) ?_ | refine s_v (r_cvi rfl rfl rfl (wrap_in (by omega))) ?_ | refine s_v (r_cv rfl) ?_ | refine s_v (r_peq rfl rfl rfl) ?_ | refine s_v (r_pne rfl rfl rfl) ?_ | refine s_v (r_min rfl rfl) ?_ | refine s_v (r_max rfl rfl) ?_ | refine s_v (r_bd rfl) ?_ | refine s_v (r_pt rfl rfl) ?_ | refine s_v (r_pf rfl rfl) ?_))
  exact ret_1 rfl rfl ⟨rfl, rfl⟩
theorem Len (p : Nat) (a : Option Addr) (n c : Nat) (r f : Int) (w : World) (hb : w.heap[p]? = some (.cells [.slice a n c, .int .i64 r, .int .i64 f].toArray 43 (0, 0))) :
    Ret Try.prog 12 [.pointer (some ⟨p, 0, none⟩)] w fun v w1 => v = .int .i64 n ∧ w1 = w := by
  refine ret_enter Try.func12 rfl Try.ntmps12 rfl ?_
  (repeat (first | refine k_nil ?_ | refine k_n ?_ | refine k_r ?_ | refine k_x ?_ | refine b_n ?_ | refine b_r ?_ | refine b_y rfl ?_ | refine b_z rfl ?_ | refine l_r ?_ | refine l_x ?_ | refine k_seq ?_ | refine k_blk ?_ | refine k_reg ?_ | refine k_ret ?_ | refine k_exit ?_ | refine k_skip ?_ | refine s_v (r_mv rfl) ?_ | refine s_v (r_as rfl) ?_ | refine s_v (r_add rfl rfl (by omega)) ?_ | refine s_v (r_sub rfl rfl (by omega)) ?_ | refine s_v (r_mul rfl rfl (by omega)) ?_ | refine s_v (r_bin rfl) ?_ | refine s_v (r_fa rfl rfl) ?_ | refine s_v (r_ld rfl rfl (by first | assumption | exact cell_of_blk (by assumption) (by rfl))) ?_ | refine s_v (r_nc rfl) ?_ | refine s_v (r_not rfl) ?_ | refine s_v (r_mf rfl rfl) ?_ | refine s_v (r_len rfl) ?_ | refine s_v (r_ex rfl) ?_ | refine s_v (r_fd rfl) ?_ | refine s_v (r_cvi rfl rfl rfl (wrap_in (by omega))) ?_ | refine s_v (r_cv rfl) ?_ | refine s_v (r_peq rfl rfl rfl) ?_ | refine s_v (r_pne rfl rfl rfl) ?_ | refine s_v (r_min rfl rfl) ?_ | refine s_v (r_max rfl rfl) ?_ | refine s_v (r_bd rfl) ?_ | refine s_v (r_pt rfl rfl) ?_ | refine s_v (r_pf rfl rfl) ?_))
  exact ret_1 rfl rfl ⟨rfl, rfl⟩
/-- The test of a number. -/
theorem place1 (k' x k : Int) (b : Nat) (T : TypeId) (w : World) (hb : w.heap[b]? = some (.cells [.int .i64 k].toArray T (0, 0))) :
    Ret Try.prog 24 [.agg #[.int .i64 k', .int .i64 x], .pointer (some ⟨b, 0, none⟩)] w fun v w1 => v = .bool (k' == k) ∧ Kp No w w1 := by
  refine ret_enter Try.func24 rfl Try.ntmps24 rfl ?_
  (repeat (first | refine k_nil ?_ | refine k_n ?_ | refine k_r ?_ | refine k_x ?_ | refine b_n ?_ | refine b_r ?_ | refine b_y rfl ?_ | refine b_z rfl ?_ | refine l_r ?_ | refine l_x ?_ | refine k_seq ?_ | refine k_blk ?_ | refine k_reg ?_ | refine k_ret ?_ | refine k_exit ?_ | refine k_skip ?_ | refine s_v (r_mv rfl) ?_ | refine s_v (r_as rfl) ?_ | refine s_v (r_add rfl rfl (by omega)) ?_ | refine s_v (r_sub rfl rfl (by omega)) ?_ | refine s_v (r_mul rfl rfl (by omega)) ?_ | refine s_v (r_bin rfl) ?_ | refine s_v (r_fa rfl rfl) ?_ | refine s_v (r_ld rfl rfl (by first | assumption | exact cell_of_blk (by assumption) (by rfl))) ?_ | refine s_v (r_nc rfl) ?_ | refine s_v (r_not rfl) ?_ | refine s_v (r_mf rfl rfl) ?_ | refine s_v (r_len rfl) ?_ | refine s_v (r_ex rfl) ?_ | refine s_v (r_fd rfl) ?_ | refine s_v (r_cvi rfl rfl rfl (wrap_in (by omega))) ?_ | refine s_v (r_cv rfl) ?_ | refine s_v (r_peq rfl rfl rfl) ?_ | refine s_v (r_pne rfl rfl rfl) ?_ | refine s_v (r_min rfl rfl) ?_ | refine s_v (r_max rfl rfl) ?_ | refine s_v (r_bd rfl) ?_ | refine s_v (r_pt rfl rfl) ?_ | refine s_v (r_pf rfl rfl) ?_))
  refine s_box rfl rfl (fun b1 w1 n1 => ?_)
  have h1 := n1.blk
  have h2 := n1.kp.get0 hb
  (repeat (first | refine k_nil ?_ | refine k_n ?_ | refine k_r ?_ | refine k_x ?_ | refine b_n ?_ | refine b_r ?_ | refine b_y rfl ?_ | refine b_z rfl ?_ | refine l_r ?_ | refine l_x ?_ | refine k_seq ?_ | refine k_blk ?_ | refine k_reg ?_ | refine k_ret ?_ | refine k_exit ?_ | refine k_skip ?_ | refine s_v (r_mv rfl) ?_ | refine s_v (r_as rfl) ?_ | refine s_v (r_add rfl rfl (by omega)) ?_ | refine s_v (r_sub rfl rfl (by omega)) ?_ | refine s_v (r_mul rfl rfl (by omega)) ?_ | refine s_v (r_bin rfl) ?_ | refine s_v (r_fa rfl rfl) ?_ | refine s_v (r_ld rfl rfl (by first | assumption | exact cell_of_blk (by assumption) (by rfl))) ?_ | refine s_v (r_nc rfl) ?_ | refine s_v (r_not rfl) ?_ | refine s_v (r_mf rfl rfl) ?_ | refine s_v (r_len rfl) ?_ | refine s_v (r_ex rfl) ?_ | refine s_v (r_fd rfl) ?_ | refine s_v (r_cvi rfl rfl rfl (wrap_in (by omega))) ?_ | refine s_v (r_cv rfl) ?_ | refine s_v (r_peq rfl rfl rfl) ?_ | refine s_v (r_pne rfl rfl rfl) ?_ | refine s_v (r_min rfl rfl) ?_ | refine s_v (r_max rfl rfl) ?_ | refine s_v (r_bd rfl) ?_ | refine s_v (r_pt rfl rfl) ?_ | refine s_v (r_pf rfl rfl) ?_))
  exact ret_1 rfl rfl ⟨rfl, n1.kp⟩
/-- Things with their numbers, as cells. -/
def kc (xs : List (Int × Int)) : List Value := xs.flatMap fun e => [.int .i64 e.1, .int .i64 e.2]
theorem kc_get {xs : List (Int × Int)} {i : Nat} {x : Int × Int} (h : xs[i]? = some x) : (kc xs)[i * 2]? = some (.int .i64 x.1) ∧ (kc xs)[i * 2 + 1]? = some (.int .i64 x.2) :=
  ⟨flat_get (f := fun e : Int × Int => [.int .i64 e.1, .int .i64 e.2]) (sz := 2) (fun _ => rfl) xs i 0 x h (by omega), flat_get (f := fun e : Int × Int => [.int .i64 e.1, .int .i64 e.2]) (sz := 2) (fun _ => rfl) xs i 1 x h (by omega)⟩
/-- The place of a number; -1: none. -/
def idx : List (Int × Int) → Int → Int
  | [], _ => -1
  | e :: r, k => if e.1 = k then 0 else if idx r k < 0 then -1 else idx r k + 1
/-- The first place of a number, from what stands ahead of it. -/
theorem idx_at : ∀ (xs : List (Int × Int)) (i : Nat) (x : Int × Int) (k : Int), xs[i]? = some x → x.1 = k → (∀ j y, j < i → xs[j]? = some y → y.1 ≠ k) → idx xs k = i := by
  intro xs
  induction xs with
  | nil => intro i x k h; simp at h
  | cons e r ih =>
    intro i x k h hx hn
    cases i with
    | zero => simp only [List.getElem?_cons_zero, Option.some.injEq] at h; subst h; simp [idx, hx]
    | succ i =>
      have h0 := hn 0 e (by omega) rfl
      have := ih i x k (by simpa using h) hx (fun j y hj hy => hn (j + 1) y (by omega) (by simpa using hy))
      rw [idx, if_neg h0, this, if_neg (by omega)]
      omega
theorem idx_none : ∀ (xs : List (Int × Int)) (k : Int), (∀ (j : Nat) y, xs[j]? = some y → y.1 ≠ k) → idx xs k = -1 := by
  intro xs
  induction xs with
  | nil => intro k _; rfl
  | cons e r ih =>
    intro k hn
    have := ih k (fun j y hy => hn (j + 1) y (by simpa using hy))
    rw [idx, if_neg (hn 0 e rfl), this]
    rfl
theorem IndexFunc (xs : List (Int × Int)) (a : Option Addr) (c : Nat) (k : Int) (b : Nat) (T : TypeId) (w : World) (hb : w.heap[b]? = some (.cells [.int .i64 k].toArray T (0, 0))) (hn : xs.length ≤ 1000)
    (ha : a = none → xs.length = 0) (hr : ∀ ad, a = some ad → ∃ g, ad = ⟨g, 0, none⟩ ∧ ∀ j u, (kc xs)[j]? = some u → w.cell? ⟨g, 0 + j, none⟩ = some u) :
    Ret Try.prog 23 [.slice a xs.length c, .func (.func 24) #[] #[.pointer (some ⟨b, 0, none⟩)]] w fun v w1 => v = .int .i64 (idx xs k) ∧ Kp No w w1 := by
  refine ret_enter Try.func23 rfl Try.ntmps23 rfl ?_
  (repeat (first | refine k_nil ?_ | refine k_n ?_ | refine k_r ?_ | refine k_x ?_ | refine b_n ?_ | refine b_r ?_ | refine b_y rfl ?_ | refine b_z rfl ?_ | refine l_r ?_ | refine l_x ?_ | refine k_seq ?_ | refine k_blk ?_ | refine k_reg ?_ | refine k_ret ?_ | refine k_exit ?_ | refine k_skip ?_ | refine s_v (r_mv rfl) ?_ | refine s_v (r_as rfl) ?_ | refine s_v (r_add rfl rfl (by omega)) ?_ | refine s_v (r_sub rfl rfl (by omega)) ?_ | refine s_v (r_mul rfl rfl (by omega)) ?_ | refine s_v (r_bin rfl) ?_ | refine s_v (r_fa rfl rfl) ?_ | refine s_v (r_ld rfl rfl (by first | assumption | exact cell_of_blk (by assumption) (by rfl))) ?_ | refine s_v (r_nc rfl) ?_ | refine s_v (r_not rfl) ?_ | refine s_v (r_mf rfl rfl) ?_ | refine s_v (r_len rfl) ?_ | refine s_v (r_ex rfl) ?_ | refine s_v (r_fd rfl) ?_ | refine s_v (r_cvi rfl rfl rfl (wrap_in (by omega))) ?_ | refine s_v (r_cv rfl) ?_ | refine s_v (r_peq rfl rfl rfl) ?_ | refine s_v (r_pne rfl rfl rfl) ?_ | refine s_v (r_min rfl rfl) ?_ | refine s_v (r_max rfl rfl) ?_ | refine s_v (r_bd rfl) ?_ | refine s_v (r_pt rfl rfl) ?_ | refine s_v (r_pf rfl rfl) ?_))
  refine k_loop (σ := Nat) (fun i => [(0, .slice a xs.length c), (1, .func (.func 24) #[] #[.pointer (some ⟨b, 0, none⟩)]), (7, .int .i64 xs.length), (8, .int .i64 i)])
    (fun i w' => i ≤ xs.length ∧ (∀ j y, j < i → xs[j]? = some y → y.1 ≠ k) ∧ Kp No w w') (fun i => xs.length - i) 0 ⟨rfl, rfl, rfl, rfl, trivial⟩ ⟨Nat.zero_le _, fun j y hj => by omega, Kp.refl _ _⟩ ?_
  rintro i l w1 ⟨hi, hne, k1⟩
  (repeat (first | refine k_nil ?_ | refine k_n ?_ | refine k_r ?_ | refine k_x ?_ | refine b_n ?_ | refine b_r ?_ | refine b_y rfl ?_ | refine b_z rfl ?_ | refine l_r ?_ | refine l_x ?_ | refine k_seq ?_ | refine k_blk ?_ | refine k_reg ?_ | refine k_ret ?_ | refine k_exit ?_ | refine k_skip ?_ | refine s_v (r_mv rfl) ?_ | refine s_v (r_as rfl) ?_ | refine s_v (r_add rfl rfl (by omega)) ?_ | refine s_v (r_sub rfl rfl (by omega)) ?_ | refine s_v (r_mul rfl rfl (by omega)) ?_ | refine s_v (r_bin rfl) ?_ | refine s_v (r_fa rfl rfl) ?_ | refine s_v (r_ld rfl rfl (by first | assumption | exact cell_of_blk (by assumption) (by rfl))) ?_ | refine s_v (r_nc rfl) ?_ | refine s_v (r_not rfl) ?_ | refine s_v (r_mf rfl rfl) ?_ | refine s_v (r_len rfl) ?_ | refine s_v (r_ex rfl) ?_ | refine s_v (r_fd rfl) ?_ | refine s_v (r_cvi rfl rfl rfl (wrap_in (by omega))) ?_ | refine s_v (r_cv rfl) ?_ | refine s_v (r_peq rfl rfl rfl) ?_ | refine s_v (r_pne rfl rfl rfl) ?_ | refine s_v (r_min rfl rfl) ?_ | refine s_v (r_max rfl rfl) ?_ | refine s_v (r_bd rfl) ?_ | refine s_v (r_pt rfl rfl) ?_ | refine s_v (r_pf rfl rfl) ?_))
  refine c_dec rfl (fun hlt => ?_) (fun hge => ?_)
  · have hlt' : i < xs.length := by omega
    obtain ⟨x, hx⟩ : ∃ x, xs[i]? = some x := ⟨_, List.getElem?_eq_getElem hlt'⟩
    cases a with
    | none => have := ha rfl; omega
    | some ad =>
      obtain ⟨g, rfl, hc⟩ := hr _ rfl
      (repeat (first | refine k_nil ?_ | refine k_n ?_ | refine k_r ?_ | refine k_x ?_ | refine b_n ?_ | refine b_r ?_ | refine b_y rfl ?_ | refine b_z rfl ?_ | refine l_r ?_ | refine l_x ?_ | refine k_seq ?_ | refine k_blk ?_ | refine k_reg ?_ | refine k_ret ?_ | refine k_exit ?_ | refine k_skip ?_ | refine s_v (r_mv rfl) ?_ | refine s_v (r_as rfl) ?_ | refine s_v (r_add rfl rfl (by omega)) ?_ | refine s_v (r_sub rfl rfl (by omega)) ?_ | refine s_v (r_mul rfl rfl (by omega)) ?_ | refine s_v (r_bin rfl) ?_ | refine s_v (r_fa rfl rfl) ?_ | refine s_v (r_ld rfl rfl (by first | assumption | exact cell_of_blk (by assumption) (by rfl))) ?_ | refine s_v (r_nc rfl) ?_ | refine s_v (r_not rfl) ?_ | refine s_v (r_mf rfl rfl) ?_ | refine s_v (r_len rfl) ?_ | refine s_v (r_ex rfl) ?_ | refine s_v (r_fd rfl) ?_ | refine s_v (r_cvi rfl rfl rfl (wrap_in (by omega))) ?_ | refine s_v (r_cv rfl) ?_ | refine s_v (r_peq rfl rfl rfl) ?_ | refine s_v (r_pne rfl rfl rfl) ?_ | refine s_v (r_min rfl rfl) ?_ | refine s_v (r_max rfl rfl) ?_ | refine s_v (r_bd rfl) ?_ | refine s_v (r_pt rfl rfl) ?_ | refine s_v (r_pf rfl rfl) ?_))
      refine s_v (r_ia rfl rfl rfl rfl (by omega) (by omega)) ?_
      obtain ⟨hx1, hx2⟩ := kc_get hx
      have c1 := k1.cell0 (hc _ _ hx1)
      have c2 := k1.cell0 (hc _ _ hx2)
      refine s_v (r_lda (n := 2) (vs := [.int .i64 x.1, .int .i64 x.2]) rfl rfl rfl rfl (fun j hj => ?_)) ?_
      · match j, hj with
        | 0, _ => exact c1
        | 1, _ => exact c2
      (repeat (first | refine k_nil ?_ | refine k_n ?_ | refine k_r ?_ | refine k_x ?_ | refine b_n ?_ | refine b_r ?_ | refine b_y rfl ?_ | refine b_z rfl ?_ | refine l_r ?_ | refine l_x ?_ | refine k_seq ?_ | refine k_blk ?_ | refine k_reg ?_ | refine k_ret ?_ | refine k_exit ?_ | refine k_skip ?_ | refine s_v (r_mv rfl) ?_ | refine s_v (r_as rfl) ?_ | refine s_v (r_add rfl rfl (by omega)) ?_ | refine s_v (r_sub rfl rfl (by omega)) ?_ | refine s_v (r_mul rfl rfl (by omega)) ?_ | refine s_v (r_bin rfl) ?_ | refine s_v (r_fa rfl rfl) ?_ | refine s_v (r_ld rfl rfl (by first | assumption | exact cell_of_blk (by assumption) (by rfl))) ?_ | refine s_v (r_nc rfl) ?_ | refine s_v (r_not rfl) ?_ | refine s_v (r_mf rfl rfl) ?_ | refine s_v (r_len rfl) ?_ | refine s_v (r_ex rfl) ?_ | refine s_v (r_fd rfl) ?_ | refine s_v (r_cvi rfl rfl rfl (wrap_in (by omega))) ?_ | refine s_v (r_cv rfl) ?_ | refine s_v (r_peq rfl rfl rfl) ?_ | refine s_v (r_pne rfl rfl rfl) ?_ | refine s_v (r_min rfl rfl) ?_ | refine s_v (r_max rfl rfl) ?_ | refine s_v (r_bd rfl) ?_ | refine s_v (r_pt rfl rfl) ?_ | refine s_v (r_pf rfl rfl) ?_))
      refine s_call (us := []) (zs := [.pointer (some ⟨b, 0, none⟩)]) (by kernel_rfl) rfl rfl (place1 x.1 x.2 k b T w1 (k1.get0 hb)) ?_
      rintro _ w2 ⟨rfl, k2⟩
      (repeat (first | refine k_nil ?_ | refine k_n ?_ | refine k_r ?_ | refine k_x ?_ | refine b_n ?_ | refine b_r ?_ | refine b_y rfl ?_ | refine b_z rfl ?_ | refine l_r ?_ | refine l_x ?_ | refine k_seq ?_ | refine k_blk ?_ | refine k_reg ?_ | refine k_ret ?_ | refine k_exit ?_ | refine k_skip ?_ | refine s_v (r_mv rfl) ?_ | refine s_v (r_as rfl) ?_ | refine s_v (r_add rfl rfl (by omega)) ?_ | refine s_v (r_sub rfl rfl (by omega)) ?_ | refine s_v (r_mul rfl rfl (by omega)) ?_ | refine s_v (r_bin rfl) ?_ | refine s_v (r_fa rfl rfl) ?_ | refine s_v (r_ld rfl rfl (by first | assumption | exact cell_of_blk (by assumption) (by rfl))) ?_ | refine s_v (r_nc rfl) ?_ | refine s_v (r_not rfl) ?_ | refine s_v (r_mf rfl rfl) ?_ | refine s_v (r_len rfl) ?_ | refine s_v (r_ex rfl) ?_ | refine s_v (r_fd rfl) ?_ | refine s_v (r_cvi rfl rfl rfl (wrap_in (by omega))) ?_ | refine s_v (r_cv rfl) ?_ | refine s_v (r_peq rfl rfl rfl) ?_ | refine s_v (r_pne rfl rfl rfl) ?_ | refine s_v (r_min rfl rfl) ?_ | refine s_v (r_max rfl rfl) ?_ | refine s_v (r_bd rfl) ?_ | refine s_v (r_pt rfl rfl) ?_ | refine s_v (r_pf rfl rfl) ?_))
      refine c_eq rfl (fun he => ?_) (fun he => ?_)
      · (repeat (first | refine k_nil ?_ | refine k_n ?_ | refine k_r ?_ | refine k_x ?_ | refine b_n ?_ | refine b_r ?_ | refine b_y rfl ?_ | refine b_z rfl ?_ | refine l_r ?_ | refine l_x ?_ | refine k_seq ?_ | refine k_blk ?_ | refine k_reg ?_ | refine k_ret ?_ | refine k_exit ?_ | refine k_skip ?_ | refine s_v (r_mv rfl) ?_ | refine s_v (r_as rfl) ?_ | refine s_v (r_add rfl rfl (by omega)) ?_ | refine s_v (r_sub rfl rfl (by omega)) ?_ | refine s_v (r_mul rfl rfl (by omega)) ?_ | refine s_v (r_bin rfl) ?_ | refine s_v (r_fa rfl rfl) ?_ | refine s_v (r_ld rfl rfl (by first | assumption | exact cell_of_blk (by assumption) (by rfl))) ?_ | refine s_v (r_nc rfl) ?_ | refine s_v (r_not rfl) ?_ | refine s_v (r_mf rfl rfl) ?_ | refine s_v (r_len rfl) ?_ | refine s_v (r_ex rfl) ?_ | refine s_v (r_fd rfl) ?_ | refine s_v (r_cvi rfl rfl rfl (wrap_in (by omega))) ?_ | refine s_v (r_cv rfl) ?_ | refine s_v (r_peq rfl rfl rfl) ?_ | refine s_v (r_pne rfl rfl rfl) ?_ | refine s_v (r_min rfl rfl) ?_ | refine s_v (r_max rfl rfl) ?_ | refine s_v (r_bd rfl) ?_ | refine s_v (r_pt rfl rfl) ?_ | refine s_v (r_pf rfl rfl) ?_))
        refine ret_1 rfl rfl ⟨?_, k1.no k2⟩
        rw [idx_at xs i x k hx he hne]
      · (repeat (first | refine k_nil ?_ | refine k_n ?_ | refine k_r ?_ | refine k_x ?_ | refine b_n ?_ | refine b_r ?_ | refine b_y rfl ?_ | refine b_z rfl ?_ | refine l_r ?_ | refine l_x ?_ | refine k_seq ?_ | refine k_blk ?_ | refine k_reg ?_ | refine k_ret ?_ | refine k_exit ?_ | refine k_skip ?_ | refine s_v (r_mv rfl) ?_ | refine s_v (r_as rfl) ?_ | refine s_v (r_add rfl rfl (by omega)) ?_ | refine s_v (r_sub rfl rfl (by omega)) ?_ | refine s_v (r_mul rfl rfl (by omega)) ?_ | refine s_v (r_bin rfl) ?_ | refine s_v (r_fa rfl rfl) ?_ | refine s_v (r_ld rfl rfl (by first | assumption | exact cell_of_blk (by assumption) (by rfl))) ?_ | refine s_v (r_nc rfl) ?_ | refine s_v (r_not rfl) ?_ | refine s_v (r_mf rfl rfl) ?_ | refine s_v (r_len rfl) ?_ | refine s_v (r_ex rfl) ?_ | refine s_v (r_fd rfl) ?_ | refine s_v (r_cvi rfl rfl rfl (wrap_in (by omega))) ?_ | refine s_v (r_cv rfl) ?_ | refine s_v (r_peq rfl rfl rfl) ?_ | refine s_v (r_pne rfl rfl rfl) ?_ | refine s_v (r_min rfl rfl) ?_ | refine s_v (r_max rfl rfl) ?_ | refine s_v (r_bd rfl) ?_ | refine s_v (r_pt rfl rfl) ?_ | refine s_v (r_pf rfl rfl) ?_))
        refine l_next (i + 1) ⟨rfl, rfl, rfl, rfl, trivial⟩ ⟨by omega, fun j y hj hy => ?_, k1.no k2⟩ (by omega)
        by_cases hji : j = i
        · subst hji; rw [hx] at hy; cases hy; exact he
        · exact hne j y (by omega) hy
  · (repeat (first | refine k_nil ?_ | refine k_n ?_ | refine k_r ?_ | refine k_x ?_ | refine b_n ?_ | refine b_r ?_ | refine b_y rfl ?_ | refine b_z rfl ?_ | refine l_r ?_ | refine l_x ?_ | refine k_seq ?_ | refine k_blk ?_ | refine k_reg ?_ | refine k_ret ?_ | refine k_exit ?_ | refine k_skip ?_ | refine s_v (r_mv rfl) ?_ | refine s_v (r_as rfl) ?_ | refine s_v (r_add rfl rfl (by omega)) ?_ | refine s_v (r_sub rfl rfl (by omega)) ?_ | refine s_v (r_mul rfl rfl (by omega)) ?_ | refine s_v (r_bin rfl) ?_ | refine s_v (r_fa rfl rfl) ?_ | refine s_v (r_ld rfl rfl (by first | assumption | exact cell_of_blk (by assumption) (by rfl))) ?_ | refine s_v (r_nc rfl) ?_ | refine s_v (r_not rfl) ?_ | refine s_v (r_mf rfl rfl) ?_ | refine s_v (r_len rfl) ?_ | refine s_v (r_ex rfl) ?_ | refine s_v (r_fd rfl) ?_ | refine s_v (r_cvi rfl rfl rfl (wrap_in (by omega))) ?_ | refine s_v (r_cv rfl) ?_ | refine s_v (r_peq rfl rfl rfl) ?_ | refine s_v (r_pne rfl rfl rfl) ?_ | refine s_v (r_min rfl rfl) ?_ | refine s_v (r_max rfl rfl) ?_ | refine s_v (r_bd rfl) ?_ | refine s_v (r_pt rfl rfl) ?_ | refine s_v (r_pf rfl rfl) ?_))
    refine ret_1 rfl rfl ⟨?_, k1⟩
    rw [idx_none xs k (fun j y hy => hne j y (by have := (List.getElem?_eq_some_iff.1 hy).1; omega) hy)]
theorem kc_len (xs : List (Int × Int)) : (kc xs).length = xs.length * 2 := flat_length (f := fun e : Int × Int => [.int .i64 e.1, .int .i64 e.2]) (fun _ => rfl) xs
theorem kc_take (xs : List (Int × Int)) (i : Nat) : (kc xs).take (i * 2) = kc (xs.take i) := flat_take (f := fun e : Int × Int => [.int .i64 e.1, .int .i64 e.2]) (fun _ => rfl) xs i
theorem kc_drop (xs : List (Int × Int)) (i : Nat) : (kc xs).drop (i * 2) = kc (xs.drop i) := flat_drop (f := fun e : Int × Int => [.int .i64 e.1, .int .i64 e.2]) (fun _ => rfl) xs i
theorem kc_one (xs : List (Int × Int)) : (kc xs).all Value.oneCell' = true := by
  simp only [kc, List.all_flatMap]
  exact List.all_eq_true.2 fun _ _ => rfl
theorem Delete (xs : List (Int × Int)) (gb c i base : Nat) (w : World) (hi : i < xs.length) (hn : xs.length ≤ 1000) (own : w.ownsRow base 45 2 (.slice (some ⟨gb, 0, none⟩) xs.length c) xs.length (kc xs)) :
    Ret Try.prog 21 [.slice (some ⟨gb, 0, none⟩) xs.length c, .int .i64 i, .int .i64 (i + 1)] w fun v w1 =>
      v = .slice (some ⟨gb, 0, none⟩) (xs.length - 1) c ∧ w1.ownsRow base 45 2 v (xs.eraseIdx i).length (kc (xs.eraseIdx i)) ∧ Kp (fun k => k = gb) w w1 := by
  obtain ⟨hl, h⟩ := own
  rcases h with ⟨h, _⟩ | ⟨g', cap, cur, hv, hg, hb, hnc, hm, hs, ht⟩
  · cases h
  simp only [Value.slice.injEq, Option.some.injEq, Addr.mk.injEq, true_and, and_true] at hv
  obtain ⟨rfl, rfl⟩ := hv
  obtain ⟨L, rfl⟩ : ∃ L : List Value, cur = L.toArray := ⟨cur.toList, by simp⟩
  simp only [List.size_toArray] at hs ht
  have hnews : (kc (xs.drop (i + 1))).length = (xs.length - (i + 1)) * 2 := by rw [kc_len]; simp
  refine ret_enter Try.func21 rfl Try.ntmps21 rfl ?_
  (repeat (first | refine k_nil ?_ | refine k_n ?_ | refine k_r ?_ | refine k_x ?_ | refine b_n ?_ | refine b_r ?_ | refine b_y rfl ?_ | refine b_z rfl ?_ | refine l_r ?_ | refine l_x ?_ | refine k_seq ?_ | refine k_blk ?_ | refine k_reg ?_ | refine k_ret ?_ | refine k_exit ?_ | refine k_skip ?_ | refine s_v (r_mv rfl) ?_ | refine s_v (r_as rfl) ?_ | refine s_v (r_add rfl rfl (by omega)) ?_ | refine s_v (r_sub rfl rfl (by omega)) ?_ | refine s_v (r_mul rfl rfl (by omega)) ?_ | refine s_v (r_bin rfl) ?_ | refine s_v (r_fa rfl rfl) ?_ | refine s_v (r_ld rfl rfl (by first | assumption | exact cell_of_blk (by assumption) (by rfl))) ?_ | refine s_v (r_nc rfl) ?_ | refine s_v (r_not rfl) ?_ | refine s_v (r_mf rfl rfl) ?_ | refine s_v (r_len rfl) ?_ | refine s_v (r_ex rfl) ?_ | refine s_v (r_fd rfl) ?_ | refine s_v (r_cvi rfl rfl rfl (wrap_in (by omega))) ?_ | refine s_v (r_cv rfl) ?_ | refine s_v (r_peq rfl rfl rfl) ?_ | refine s_v (r_pne rfl rfl rfl) ?_ | refine s_v (r_min rfl rfl) ?_ | refine s_v (r_max rfl rfl) ?_ | refine s_v (r_bd rfl) ?_ | refine s_v (r_pt rfl rfl) ?_ | refine s_v (r_pf rfl rfl) ?_))
  refine s_v (r_sl3 rfl rfl rfl rfl rfl rfl (by omega) (by omega) (by omega) (by omega)) ?_
  (repeat (first | refine k_nil ?_ | refine k_n ?_ | refine k_r ?_ | refine k_x ?_ | refine b_n ?_ | refine b_r ?_ | refine b_y rfl ?_ | refine b_z rfl ?_ | refine l_r ?_ | refine l_x ?_ | refine k_seq ?_ | refine k_blk ?_ | refine k_reg ?_ | refine k_ret ?_ | refine k_exit ?_ | refine k_skip ?_ | refine s_v (r_mv rfl) ?_ | refine s_v (r_as rfl) ?_ | refine s_v (r_add rfl rfl (by omega)) ?_ | refine s_v (r_sub rfl rfl (by omega)) ?_ | refine s_v (r_mul rfl rfl (by omega)) ?_ | refine s_v (r_bin rfl) ?_ | refine s_v (r_fa rfl rfl) ?_ | refine s_v (r_ld rfl rfl (by first | assumption | exact cell_of_blk (by assumption) (by rfl))) ?_ | refine s_v (r_nc rfl) ?_ | refine s_v (r_not rfl) ?_ | refine s_v (r_mf rfl rfl) ?_ | refine s_v (r_len rfl) ?_ | refine s_v (r_ex rfl) ?_ | refine s_v (r_fd rfl) ?_ | refine s_v (r_cvi rfl rfl rfl (wrap_in (by omega))) ?_ | refine s_v (r_cv rfl) ?_ | refine s_v (r_peq rfl rfl rfl) ?_ | refine s_v (r_pne rfl rfl rfl) ?_ | refine s_v (r_min rfl rfl) ?_ | refine s_v (r_max rfl rfl) ?_ | refine s_v (r_bd rfl) ?_ | refine s_v (r_pt rfl rfl) ?_ | refine s_v (r_pf rfl rfl) ?_))
  refine c_eq rfl (fun he => absurd he (by omega)) (fun _ => ?_)
  (repeat (first | refine k_nil ?_ | refine k_n ?_ | refine k_r ?_ | refine k_x ?_ | refine b_n ?_ | refine b_r ?_ | refine b_y rfl ?_ | refine b_z rfl ?_ | refine l_r ?_ | refine l_x ?_ | refine k_seq ?_ | refine k_blk ?_ | refine k_reg ?_ | refine k_ret ?_ | refine k_exit ?_ | refine k_skip ?_ | refine s_v (r_mv rfl) ?_ | refine s_v (r_as rfl) ?_ | refine s_v (r_add rfl rfl (by omega)) ?_ | refine s_v (r_sub rfl rfl (by omega)) ?_ | refine s_v (r_mul rfl rfl (by omega)) ?_ | refine s_v (r_bin rfl) ?_ | refine s_v (r_fa rfl rfl) ?_ | refine s_v (r_ld rfl rfl (by first | assumption | exact cell_of_blk (by assumption) (by rfl))) ?_ | refine s_v (r_nc rfl) ?_ | refine s_v (r_not rfl) ?_ | refine s_v (r_mf rfl rfl) ?_ | refine s_v (r_len rfl) ?_ | refine s_v (r_ex rfl) ?_ | refine s_v (r_fd rfl) ?_ | refine s_v (r_cvi rfl rfl rfl (wrap_in (by omega))) ?_ | refine s_v (r_cv rfl) ?_ | refine s_v (r_peq rfl rfl rfl) ?_ | refine s_v (r_pne rfl rfl rfl) ?_ | refine s_v (r_min rfl rfl) ?_ | refine s_v (r_max rfl rfl) ?_ | refine s_v (r_bd rfl) ?_ | refine s_v (r_pt rfl rfl) ?_ | refine s_v (r_pf rfl rfl) ?_))
  refine k_h (fun w' => Kp (fun k => k = gb) w w') [(0, false), (1, false), (2, false), (3, false), (4, false), (5, false), (6, true), (7, true)] 7 (by kernel_rfl) (by exact waits_of_last (by kernel_rfl)) (by kernel_rfl) (by kernel_rfl) rfl rfl ?_
  intro w0 k0 e0
  have k0' : Kp (fun k => k = gb) w w0 := k0.mono fun _ _ h => h.elim
  (repeat (first | refine h_v (by assumption) (fun w' hw => r_mv rfl) ?_ | refine h_v (by assumption) (fun w' hw => r_as rfl) ?_ | refine h_v (by assumption) (fun w' hw => r_nc rfl) ?_ | refine h_v (by assumption) (fun w' hw => r_fa rfl rfl) ?_ | refine h_v (by assumption) (fun w' hw => r_bin rfl) ?_ | refine h_v (by assumption) (fun w' hw => r_len rfl) ?_ | refine h_v (by assumption) (fun w' hw => r_not rfl) ?_ | refine h_v (by assumption) (fun w' hw => r_fd rfl) ?_))
  refine h_v k0' (fun w' hw => r_slx (a' := some ⟨gb, 0, none⟩) (n' := i) (c' := c) rfl rfl rfl rfl rfl (by omega) (by omega) (by omega) (by omega) subA_0 (by simp) (by simp)) ?_
  (repeat (first | refine h_v (by assumption) (fun w' hw => r_mv rfl) ?_ | refine h_v (by assumption) (fun w' hw => r_as rfl) ?_ | refine h_v (by assumption) (fun w' hw => r_nc rfl) ?_ | refine h_v (by assumption) (fun w' hw => r_fa rfl rfl) ?_ | refine h_v (by assumption) (fun w' hw => r_bin rfl) ?_ | refine h_v (by assumption) (fun w' hw => r_len rfl) ?_ | refine h_v (by assumption) (fun w' hw => r_not rfl) ?_ | refine h_v (by assumption) (fun w' hw => r_fd rfl) ?_))
  refine h_v k0' (fun w' hw => r_slx (n' := xs.length - (i + 1)) (c' := c - (i + 1)) rfl rfl rfl rfl rfl (by omega) (by omega) (by omega) (by omega) rfl (by omega) (by omega)) ?_
  have hsrc : Src w0 (subA (some ⟨gb, 0, none⟩) ((i : Int) + 1).toNat c 2) (kc (xs.drop (i + 1))) := by
    by_cases hlast : i + 1 = xs.length
    · left; rw [hlast]; simp [kc]
    · right
      rw [show ((i : Int) + 1).toNat = i + 1 from by omega, subA_at (by omega)]
      refine ⟨gb, 0 + (i + 1) * 2, rfl, fun j u hj => ?_⟩
      refine k0.cell0 (cell_of_blk hb ?_)
      rw [← kc_drop, ← ht, List.getElem?_drop, List.getElem?_take] at hj
      split at hj
      · rw [← hj]; congr 1; omega
      · cases hj
  have hb0 := k0.get0 hb
  refine h_wr hb0 (r_apf rfl rfl rfl rfl (by omega) hnews hsrc (kc_one _) hb0 (by rw [hnews]; omega)) ?_
  intro w1 s1
  refine ⟨fun _ => k0'.trans s1.kp fun _ _ h => h, ?_⟩
  refine h_w (r_as rfl) (fun h => absurd rfl h) ?_
  refine h_nil ?_
  have hb1 := s1.blk
  have hL1 : (setAt L (0 + i * 2) (kc (xs.drop (i + 1)))).take ((xs.length - 1) * 2) = kc (xs.eraseIdx i) := by
    rw [setAt_eq _ _ _ (by rw [hnews]; omega)]
    have e1 : L.take (0 + i * 2) = kc (xs.take i) := by
      have : L.take (i * 2) = (L.take (xs.length * 2)).take (i * 2) := by rw [List.take_take]; congr 1; omega
      rw [Nat.zero_add, this, ht, kc_take]
    rw [e1]
    have e2 : (kc (xs.take i) ++ kc (xs.drop (i + 1))).length = (xs.length - 1) * 2 := by
      rw [List.length_append, kc_len, hnews, List.length_take]; omega
    rw [← e2, List.take_left]
    rw [List.eraseIdx_eq_take_drop_succ]
    simp [kc]
  have hlen1 : (setAt L (0 + i * 2) (kc (xs.drop (i + 1)))).length = c * 2 := by rw [setAt_length]; omega
  (repeat (first | refine k_nil ?_ | refine k_n ?_ | refine k_r ?_ | refine k_x ?_ | refine b_n ?_ | refine b_r ?_ | refine b_y rfl ?_ | refine b_z rfl ?_ | refine l_r ?_ | refine l_x ?_ | refine k_seq ?_ | refine k_blk ?_ | refine k_reg ?_ | refine k_ret ?_ | refine k_exit ?_ | refine k_skip ?_ | refine s_v (r_mv rfl) ?_ | refine s_v (r_as rfl) ?_ | refine s_v (r_add rfl rfl (by omega)) ?_ | refine s_v (r_sub rfl rfl (by omega)) ?_ | refine s_v (r_mul rfl rfl (by omega)) ?_ | refine s_v (r_bin rfl) ?_ | refine s_v (r_fa rfl rfl) ?_ | refine s_v (r_ld rfl rfl (by first | assumption | exact cell_of_blk (by assumption) (by rfl))) ?_ | refine s_v (r_nc rfl) ?_ | refine s_v (r_not rfl) ?_ | refine s_v (r_mf rfl rfl) ?_ | refine s_v (r_len rfl) ?_ | refine s_v (r_ex rfl) ?_ | refine s_v (r_fd rfl) ?_ | refine s_v (r_cvi rfl rfl rfl (wrap_in (by omega))) ?_ | refine s_v (r_cv rfl) ?_ | refine s_v (r_peq rfl rfl rfl) ?_ | refine s_v (r_pne rfl rfl rfl) ?_ | refine s_v (r_min rfl rfl) ?_ | refine s_v (r_max rfl rfl) ?_ | refine s_v (r_bd rfl) ?_ | refine s_v (r_pt rfl rfl) ?_ | refine s_v (r_pf rfl rfl) ?_))
  refine s_v (r_slx (a' := some ⟨gb, 0 + (xs.length - 1) * 2, none⟩) (n' := 1) (c' := c - (xs.length - 1)) rfl rfl rfl rfl rfl (by omega) (by omega) (by omega) (by omega) ?_ (by omega) (by omega)) ?_
  · rw [show (((i + (xs.length - (i + 1)) : Nat) : Int)).toNat = xs.length - 1 from by omega, subA_at (by omega)]
  refine s_wr0 hb1 (r_clr (zs := [.int .i64 0, .int .i64 0]) rfl rfl rfl (by omega) rfl rfl hb1 (by rw [hlen1]; simp; omega)) ?_
  intro w2 s2
  (repeat (first | refine k_nil ?_ | refine k_n ?_ | refine k_r ?_ | refine k_x ?_ | refine b_n ?_ | refine b_r ?_ | refine b_y rfl ?_ | refine b_z rfl ?_ | refine l_r ?_ | refine l_x ?_ | refine k_seq ?_ | refine k_blk ?_ | refine k_reg ?_ | refine k_ret ?_ | refine k_exit ?_ | refine k_skip ?_ | refine s_v (r_mv rfl) ?_ | refine s_v (r_as rfl) ?_ | refine s_v (r_add rfl rfl (by omega)) ?_ | refine s_v (r_sub rfl rfl (by omega)) ?_ | refine s_v (r_mul rfl rfl (by omega)) ?_ | refine s_v (r_bin rfl) ?_ | refine s_v (r_fa rfl rfl) ?_ | refine s_v (r_ld rfl rfl (by first | assumption | exact cell_of_blk (by assumption) (by rfl))) ?_ | refine s_v (r_nc rfl) ?_ | refine s_v (r_not rfl) ?_ | refine s_v (r_mf rfl rfl) ?_ | refine s_v (r_len rfl) ?_ | refine s_v (r_ex rfl) ?_ | refine s_v (r_fd rfl) ?_ | refine s_v (r_cvi rfl rfl rfl (wrap_in (by omega))) ?_ | refine s_v (r_cv rfl) ?_ | refine s_v (r_peq rfl rfl rfl) ?_ | refine s_v (r_pne rfl rfl rfl) ?_ | refine s_v (r_min rfl rfl) ?_ | refine s_v (r_max rfl rfl) ?_ | refine s_v (r_bd rfl) ?_ | refine s_v (r_pt rfl rfl) ?_ | refine s_v (r_pf rfl rfl) ?_))
  refine ret_1 rfl rfl ⟨?_, ?_, ?_⟩
  · rw [show i + (xs.length - (i + 1)) = xs.length - 1 from by omega]
  · have hz : (zcs [Value.int .i64 0, Value.int .i64 0] 1).length = 2 := zcs_len _ _
    have hel : (xs.eraseIdx i).length = xs.length - 1 := by rw [List.length_eraseIdx, if_pos hi]
    rw [show i + (xs.length - (i + 1)) = xs.length - 1 from by omega]
    refine ⟨by rw [kc_len], .inr ⟨gb, c, _, by rw [hel], hg, s2.blk, by omega, hm, ?_, ?_⟩⟩
    · simp only [List.size_toArray]
      rw [setAt_length, hlen1]
    · rw [hel]
      simp only
      rw [setAt_eq _ _ _ (by rw [hlen1, hz]; omega)]
      rw [List.append_assoc, List.take_append_of_le_length (by rw [List.length_take, hlen1]; omega), List.take_take, Nat.zero_add, Nat.min_self, hL1]
  · exact ((Kp.mono (h := k0) (fun _ _ h => h.elim)).trans s1.kp (fun _ _ h => h)).trans s2.kp (fun _ _ h => h)
/-- A shelf at block p. -/
structure Shf (w : World) (p : Nat) (s : Value) (xs : List (Int × Int)) (r f : Int) : Prop where
  blk : w.heap[p]? = some (.cells [s, .int .i64 r, .int .i64 f].toArray 43 (0, 0))
  own : w.ownsRow (p + 1) 45 2 s xs.length (kc xs)
theorem Shf.kp {S : Nat → Prop} {w w' : World} {p : Nat} {s : Value} {xs : List (Int × Int)} {r f : Int} (h : Shf w p s xs r f) (k : Kp S w w') (hp : ¬ S p) (hs : ∀ g, s.ownBlock = some g → ¬ S g) : Shf w' p s xs r f :=
  ⟨k.get h.blk hp, own_kp h.own k hs⟩
theorem place (p : Nat) (s : Value) (xs : List (Int × Int)) (r f k : Int) (w : World) (h : Shf w p s xs r f) (hn : xs.length ≤ 1000) :
    Ret Try.prog 20 [.pointer (some ⟨p, 0, none⟩), .int .i64 k] w fun v w1 => v = .int .i64 (idx xs k) ∧ Kp No w w1 := by
  obtain ⟨a, c, rfl, hc, ha, hr⟩ := own_read h.own
  refine ret_enter Try.func20 rfl Try.ntmps20 rfl ?_
  (repeat (first | refine k_nil ?_ | refine k_n ?_ | refine k_r ?_ | refine k_x ?_ | refine b_n ?_ | refine b_r ?_ | refine b_y rfl ?_ | refine b_z rfl ?_ | refine l_r ?_ | refine l_x ?_ | refine k_seq ?_ | refine k_blk ?_ | refine k_reg ?_ | refine k_ret ?_ | refine k_exit ?_ | refine k_skip ?_ | refine s_v (r_mv rfl) ?_ | refine s_v (r_as rfl) ?_ | refine s_v (r_add rfl rfl (by omega)) ?_ | refine s_v (r_sub rfl rfl (by omega)) ?_ | refine s_v (r_mul rfl rfl (by omega)) ?_ | refine s_v (r_bin rfl) ?_ | refine s_v (r_fa rfl rfl) ?_ | refine s_v (r_ld rfl rfl (by first | assumption | exact cell_of_blk (by assumption) (by rfl))) ?_ | refine s_v (r_nc rfl) ?_ | refine s_v (r_not rfl) ?_ | refine s_v (r_mf rfl rfl) ?_ | refine s_v (r_len rfl) ?_ | refine s_v (r_ex rfl) ?_ | refine s_v (r_fd rfl) ?_ | refine s_v (r_cvi rfl rfl rfl (wrap_in (by omega))) ?_ | refine s_v (r_cv rfl) ?_ | refine s_v (r_peq rfl rfl rfl) ?_ | refine s_v (r_pne rfl rfl rfl) ?_ | refine s_v (r_min rfl rfl) ?_ | refine s_v (r_max rfl rfl) ?_ | refine s_v (r_bd rfl) ?_ | refine s_v (r_pt rfl rfl) ?_ | refine s_v (r_pf rfl rfl) ?_))
  refine s_box rfl rfl (fun b1 w1 n1 => ?_)
  have hp := n1.kp.get0 h.blk
  (repeat (first | refine k_nil ?_ | refine k_n ?_ | refine k_r ?_ | refine k_x ?_ | refine b_n ?_ | refine b_r ?_ | refine b_y rfl ?_ | refine b_z rfl ?_ | refine l_r ?_ | refine l_x ?_ | refine k_seq ?_ | refine k_blk ?_ | refine k_reg ?_ | refine k_ret ?_ | refine k_exit ?_ | refine k_skip ?_ | refine s_v (r_mv rfl) ?_ | refine s_v (r_as rfl) ?_ | refine s_v (r_add rfl rfl (by omega)) ?_ | refine s_v (r_sub rfl rfl (by omega)) ?_ | refine s_v (r_mul rfl rfl (by omega)) ?_ | refine s_v (r_bin rfl) ?_ | refine s_v (r_fa rfl rfl) ?_ | refine s_v (r_ld rfl rfl (by first | assumption | exact cell_of_blk (by assumption) (by rfl))) ?_ | refine s_v (r_nc rfl) ?_ | refine s_v (r_not rfl) ?_ | refine s_v (r_mf rfl rfl) ?_ | refine s_v (r_len rfl) ?_ | refine s_v (r_ex rfl) ?_ | refine s_v (r_fd rfl) ?_ | refine s_v (r_cvi rfl rfl rfl (wrap_in (by omega))) ?_ | refine s_v (r_cv rfl) ?_ | refine s_v (r_peq rfl rfl rfl) ?_ | refine s_v (r_pne rfl rfl rfl) ?_ | refine s_v (r_min rfl rfl) ?_ | refine s_v (r_max rfl rfl) ?_ | refine s_v (r_bd rfl) ?_ | refine s_v (r_pt rfl rfl) ?_ | refine s_v (r_pf rfl rfl) ?_))
  refine s_call (us := []) (zs := []) (by kernel_rfl) rfl rfl (IndexFunc xs a c k b1 _ w1 n1.blk hn ha (fun ad e => ?_)) ?_
  · obtain ⟨g, rfl, _, _, hcells⟩ := hr ad e
    exact ⟨g, rfl, fun j u hj => n1.kp.cell0 (hcells j u hj)⟩
  rintro _ w2 ⟨rfl, k2⟩
  (repeat (first | refine k_nil ?_ | refine k_n ?_ | refine k_r ?_ | refine k_x ?_ | refine b_n ?_ | refine b_r ?_ | refine b_y rfl ?_ | refine b_z rfl ?_ | refine l_r ?_ | refine l_x ?_ | refine k_seq ?_ | refine k_blk ?_ | refine k_reg ?_ | refine k_ret ?_ | refine k_exit ?_ | refine k_skip ?_ | refine s_v (r_mv rfl) ?_ | refine s_v (r_as rfl) ?_ | refine s_v (r_add rfl rfl (by omega)) ?_ | refine s_v (r_sub rfl rfl (by omega)) ?_ | refine s_v (r_mul rfl rfl (by omega)) ?_ | refine s_v (r_bin rfl) ?_ | refine s_v (r_fa rfl rfl) ?_ | refine s_v (r_ld rfl rfl (by first | assumption | exact cell_of_blk (by assumption) (by rfl))) ?_ | refine s_v (r_nc rfl) ?_ | refine s_v (r_not rfl) ?_ | refine s_v (r_mf rfl rfl) ?_ | refine s_v (r_len rfl) ?_ | refine s_v (r_ex rfl) ?_ | refine s_v (r_fd rfl) ?_ | refine s_v (r_cvi rfl rfl rfl (wrap_in (by omega))) ?_ | refine s_v (r_cv rfl) ?_ | refine s_v (r_peq rfl rfl rfl) ?_ | refine s_v (r_pne rfl rfl rfl) ?_ | refine s_v (r_min rfl rfl) ?_ | refine s_v (r_max rfl rfl) ?_ | refine s_v (r_bd rfl) ?_ | refine s_v (r_pt rfl rfl) ?_ | refine s_v (r_pf rfl rfl) ?_))
  exact ret_1 rfl rfl ⟨rfl, n1.kp.no k2⟩
theorem Has (p : Nat) (s : Value) (xs : List (Int × Int)) (r f k : Int) (w : World) (h : Shf w p s xs r f) (hn : xs.length ≤ 1000) :
    Ret Try.prog 10 [.pointer (some ⟨p, 0, none⟩), .int .i64 k] w fun v w1 => v = .bool (decide (0 ≤ idx xs k)) ∧ Kp No w w1 := by
  refine ret_enter Try.func10 rfl Try.ntmps10 rfl ?_
  (repeat (first | refine k_nil ?_ | refine k_n ?_ | refine k_r ?_ | refine k_x ?_ | refine b_n ?_ | refine b_r ?_ | refine b_y rfl ?_ | refine b_z rfl ?_ | refine l_r ?_ | refine l_x ?_ | refine k_seq ?_ | refine k_blk ?_ | refine k_reg ?_ | refine k_ret ?_ | refine k_exit ?_ | refine k_skip ?_ | refine s_v (r_mv rfl) ?_ | refine s_v (r_as rfl) ?_ | refine s_v (r_add rfl rfl (by omega)) ?_ | refine s_v (r_sub rfl rfl (by omega)) ?_ | refine s_v (r_mul rfl rfl (by omega)) ?_ | refine s_v (r_bin rfl) ?_ | refine s_v (r_fa rfl rfl) ?_ | refine s_v (r_ld rfl rfl (by first | assumption | exact cell_of_blk (by assumption) (by rfl))) ?_ | refine s_v (r_nc rfl) ?_ | refine s_v (r_not rfl) ?_ | refine s_v (r_mf rfl rfl) ?_ | refine s_v (r_len rfl) ?_ | refine s_v (r_ex rfl) ?_ | refine s_v (r_fd rfl) ?_ | refine s_v (r_cvi rfl rfl rfl (wrap_in (by omega))) ?_ | refine s_v (r_cv rfl) ?_ | refine s_v (r_peq rfl rfl rfl) ?_ | refine s_v (r_pne rfl rfl rfl) ?_ | refine s_v (r_min rfl rfl) ?_ | refine s_v (r_max rfl rfl) ?_ | refine s_v (r_bd rfl) ?_ | refine s_v (r_pt rfl rfl) ?_ | refine s_v (r_pf rfl rfl) ?_))
  refine s_call (us := []) (zs := []) (by kernel_rfl) rfl rfl (place p s xs r f k w h hn) ?_
  rintro _ w2 ⟨rfl, k2⟩
  (repeat (first | refine k_nil ?_ | refine k_n ?_ | refine k_r ?_ | refine k_x ?_ | refine b_n ?_ | refine b_r ?_ | refine b_y rfl ?_ | refine b_z rfl ?_ | refine l_r ?_ | refine l_x ?_ | refine k_seq ?_ | refine k_blk ?_ | refine k_reg ?_ | refine k_ret ?_ | refine k_exit ?_ | refine k_skip ?_ | refine s_v (r_mv rfl) ?_ | refine s_v (r_as rfl) ?_ | refine s_v (r_add rfl rfl (by omega)) ?_ | refine s_v (r_sub rfl rfl (by omega)) ?_ | refine s_v (r_mul rfl rfl (by omega)) ?_ | refine s_v (r_bin rfl) ?_ | refine s_v (r_fa rfl rfl) ?_ | refine s_v (r_ld rfl rfl (by first | assumption | exact cell_of_blk (by assumption) (by rfl))) ?_ | refine s_v (r_nc rfl) ?_ | refine s_v (r_not rfl) ?_ | refine s_v (r_mf rfl rfl) ?_ | refine s_v (r_len rfl) ?_ | refine s_v (r_ex rfl) ?_ | refine s_v (r_fd rfl) ?_ | refine s_v (r_cvi rfl rfl rfl (wrap_in (by omega))) ?_ | refine s_v (r_cv rfl) ?_ | refine s_v (r_peq rfl rfl rfl) ?_ | refine s_v (r_pne rfl rfl rfl) ?_ | refine s_v (r_min rfl rfl) ?_ | refine s_v (r_max rfl rfl) ?_ | refine s_v (r_bd rfl) ?_ | refine s_v (r_pt rfl rfl) ?_ | refine s_v (r_pf rfl rfl) ?_))
  exact ret_1 rfl rfl ⟨rfl, k2⟩
theorem idx_range : ∀ (xs : List (Int × Int)) (k : Int), -1 ≤ idx xs k ∧ idx xs k < xs.length := by
  intro xs
  induction xs with
  | nil => intro k; simp [idx]
  | cons e r ih =>
    intro k
    have := ih k
    rw [idx]
    simp only [List.length_cons]
    split
    · omega
    · split <;> omega
/-- What is asked last stands last. -/
def put (xs : List (Int × Int)) (r k x : Int) : List (Int × Int) :=
  if 0 ≤ idx xs k then xs.eraseIdx (idx xs k).toNat ++ [(k, x)] else (if r ≤ xs.length then xs.eraseIdx 0 else xs) ++ [(k, x)]
theorem Ask (p : Nat) (s : Value) (xs : List (Int × Int)) (r f k x : Int) (w : World) (h : Shf w p s xs r f) (hr1 : 1 ≤ r) (hr2 : r ≤ 1000) (hlen : (xs.length : Int) ≤ r) (hf0 : 0 ≤ f) (hf1 : f ≤ 1000000)
    (ff : FuncId) (us zs : List Value) (T : Nat → Prop) (F : World → Prop) (hok : callOk Try.prog ff = true) (hT : ∀ b, T b → b < w.heap.size ∧ b ≠ p ∧ some b ≠ s.ownBlock) (hx : 0 ≤ idx xs k → xs[(idx xs k).toNat]? = some (k, x))
    (hfetch : idx xs k < 0 → ∀ w', Kp No w w' → Ret Try.prog ff (us ++ [.int .i64 k] ++ zs) w' fun v w1 => v = .int .i64 x ∧ Kp T w' w1 ∧ F w1)
    (hF : ∀ w1 w2, F w1 → Kp (fun b => ¬ T b) w1 w2 → F w2) :
    Ret Try.prog 9 [.pointer (some ⟨p, 0, none⟩), .int .i64 k, .func (.func ff) us.toArray zs.toArray] w fun v w' => v = .int .i64 x ∧
      ∃ s', Shf w' p s' (put xs r k x) r (if idx xs k < 0 then f + 1 else f) ∧ Kp (fun b => b = p ∨ some b = s.ownBlock ∨ (idx xs k < 0 ∧ T b)) w w' ∧
        (∀ g, s'.ownBlock = some g → s.ownBlock = some g ∨ w.heap.size ≤ g) ∧ (idx xs k < 0 → F w') := by
  have hpl := lt_of_get h.blk
  have hir := idx_range xs k
  refine ret_enter Try.func9 rfl Try.ntmps9 rfl ?_
  (repeat (first | refine k_nil ?_ | refine k_n ?_ | refine k_r ?_ | refine k_x ?_ | refine b_n ?_ | refine b_r ?_ | refine b_y rfl ?_ | refine b_z rfl ?_ | refine l_r ?_ | refine l_x ?_ | refine k_seq ?_ | refine k_blk ?_ | refine k_reg ?_ | refine k_ret ?_ | refine k_exit ?_ | refine k_skip ?_ | refine s_v (r_mv rfl) ?_ | refine s_v (r_as rfl) ?_ | refine s_v (r_add rfl rfl (by omega)) ?_ | refine s_v (r_sub rfl rfl (by omega)) ?_ | refine s_v (r_mul rfl rfl (by omega)) ?_ | refine s_v (r_bin rfl) ?_ | refine s_v (r_fa rfl rfl) ?_ | refine s_v (r_ld rfl rfl (by first | assumption | exact cell_of_blk (by assumption) (by rfl))) ?_ | refine s_v (r_nc rfl) ?_ | refine s_v (r_not rfl) ?_ | refine s_v (r_mf rfl rfl) ?_ | refine s_v (r_len rfl) ?_ | refine s_v (r_ex rfl) ?_ | refine s_v (r_fd rfl) ?_ | refine s_v (r_cvi rfl rfl rfl (wrap_in (by omega))) ?_ | refine s_v (r_cv rfl) ?_ | refine s_v (r_peq rfl rfl rfl) ?_ | refine s_v (r_pne rfl rfl rfl) ?_ | refine s_v (r_min rfl rfl) ?_ | refine s_v (r_max rfl rfl) ?_ | refine s_v (r_bd rfl) ?_ | refine s_v (r_pt rfl rfl) ?_ | refine s_v (r_pf rfl rfl) ?_))
  refine s_al rfl (fun b7 w1 n1 => ?_)
  have z1 := n1.kp.size
  have l1 := n1.ge
  have l1' := n1.lt
  have h1 := h.kp n1.kp id (fun _ _ => id)
  (repeat (first | refine k_nil ?_ | refine k_n ?_ | refine k_r ?_ | refine k_x ?_ | refine b_n ?_ | refine b_r ?_ | refine b_y rfl ?_ | refine b_z rfl ?_ | refine l_r ?_ | refine l_x ?_ | refine k_seq ?_ | refine k_blk ?_ | refine k_reg ?_ | refine k_ret ?_ | refine k_exit ?_ | refine k_skip ?_ | refine s_v (r_mv rfl) ?_ | refine s_v (r_as rfl) ?_ | refine s_v (r_add rfl rfl (by omega)) ?_ | refine s_v (r_sub rfl rfl (by omega)) ?_ | refine s_v (r_mul rfl rfl (by omega)) ?_ | refine s_v (r_bin rfl) ?_ | refine s_v (r_fa rfl rfl) ?_ | refine s_v (r_ld rfl rfl (by first | assumption | exact cell_of_blk (by assumption) (by rfl))) ?_ | refine s_v (r_nc rfl) ?_ | refine s_v (r_not rfl) ?_ | refine s_v (r_mf rfl rfl) ?_ | refine s_v (r_len rfl) ?_ | refine s_v (r_ex rfl) ?_ | refine s_v (r_fd rfl) ?_ | refine s_v (r_cvi rfl rfl rfl (wrap_in (by omega))) ?_ | refine s_v (r_cv rfl) ?_ | refine s_v (r_peq rfl rfl rfl) ?_ | refine s_v (r_pne rfl rfl rfl) ?_ | refine s_v (r_min rfl rfl) ?_ | refine s_v (r_max rfl rfl) ?_ | refine s_v (r_bd rfl) ?_ | refine s_v (r_pt rfl rfl) ?_ | refine s_v (r_pf rfl rfl) ?_))
  refine s_call (us := []) (zs := []) (by kernel_rfl) rfl rfl (place p s xs r f k w1 h1 (by omega)) ?_
  rintro _ w2 ⟨rfl, k2⟩
  have z2 := k2.size
  have h2 := h1.kp k2 id (fun _ _ => id)
  have b2 := k2.get0 n1.blk
  (repeat (first | refine k_nil ?_ | refine k_n ?_ | refine k_r ?_ | refine k_x ?_ | refine b_n ?_ | refine b_r ?_ | refine b_y rfl ?_ | refine b_z rfl ?_ | refine l_r ?_ | refine l_x ?_ | refine k_seq ?_ | refine k_blk ?_ | refine k_reg ?_ | refine k_ret ?_ | refine k_exit ?_ | refine k_skip ?_ | refine s_v (r_mv rfl) ?_ | refine s_v (r_as rfl) ?_ | refine s_v (r_add rfl rfl (by omega)) ?_ | refine s_v (r_sub rfl rfl (by omega)) ?_ | refine s_v (r_mul rfl rfl (by omega)) ?_ | refine s_v (r_bin rfl) ?_ | refine s_v (r_fa rfl rfl) ?_ | refine s_v (r_ld rfl rfl (by first | assumption | exact cell_of_blk (by assumption) (by rfl))) ?_ | refine s_v (r_nc rfl) ?_ | refine s_v (r_not rfl) ?_ | refine s_v (r_mf rfl rfl) ?_ | refine s_v (r_len rfl) ?_ | refine s_v (r_ex rfl) ?_ | refine s_v (r_fd rfl) ?_ | refine s_v (r_cvi rfl rfl rfl (wrap_in (by omega))) ?_ | refine s_v (r_cv rfl) ?_ | refine s_v (r_peq rfl rfl rfl) ?_ | refine s_v (r_pne rfl rfl rfl) ?_ | refine s_v (r_min rfl rfl) ?_ | refine s_v (r_max rfl rfl) ?_ | refine s_v (r_bd rfl) ?_ | refine s_v (r_pt rfl rfl) ?_ | refine s_v (r_pf rfl rfl) ?_))
  refine k_cutc (σ := Value × List (Int × Int) × Int) (fun _ => [(0, .pointer (some ⟨p, 0, none⟩)), (7, .pointer (some ⟨b7, 0, none⟩))])
    (fun t w' => Shf w' p t.1 t.2.1 r t.2.2 ∧ w'.heap[b7]? = some (.cells [.int .i64 k, .int .i64 x].toArray 45 (0, 0)) ∧ t.2.1.length ≤ 1000 ∧ (t.2.1.length : Int) ≤ r ∧
      put xs r k x = (if r ≤ t.2.1.length then t.2.1.eraseIdx 0 else t.2.1) ++ [(k, x)] ∧ t.2.2 = (if idx xs k < 0 then f + 1 else f) ∧ Kp (fun b => b = p ∨ some b = s.ownBlock ∨ (idx xs k < 0 ∧ T b)) w w' ∧
      (∀ g, t.1.ownBlock = some g → s.ownBlock = some g ∨ (w.heap.size ≤ g ∧ b7 < g)) ∧ (idx xs k < 0 → F w')) ?_ ?_
  · refine c_dec rfl (fun hit => ?_) (fun miss => ?_)
    · obtain ⟨i, hi⟩ : ∃ i : Nat, idx xs k = i := ⟨(idx xs k).toNat, by omega⟩
      have hxi := hx hit
      rw [hi, Int.toNat_natCast] at hxi
      have hil : i < xs.length := by omega
      obtain ⟨a, c, rfl, hc, ha, hrd⟩ := own_read h2.own
      cases a with
      | none => have := ha rfl; omega
      | some ad =>
      obtain ⟨g, rfl, hg1, hg2, hcells⟩ := hrd _ rfl
      have hp2 := h2.blk
      (repeat (first | refine k_nil ?_ | refine k_n ?_ | refine k_r ?_ | refine k_x ?_ | refine b_n ?_ | refine b_r ?_ | refine b_y rfl ?_ | refine b_z rfl ?_ | refine l_r ?_ | refine l_x ?_ | refine k_seq ?_ | refine k_blk ?_ | refine k_reg ?_ | refine k_ret ?_ | refine k_exit ?_ | refine k_skip ?_ | refine s_v (r_mv rfl) ?_ | refine s_v (r_as rfl) ?_ | refine s_v (r_add rfl rfl (by omega)) ?_ | refine s_v (r_sub rfl rfl (by omega)) ?_ | refine s_v (r_mul rfl rfl (by omega)) ?_ | refine s_v (r_bin rfl) ?_ | refine s_v (r_fa rfl rfl) ?_ | refine s_v (r_ld rfl rfl (by first | assumption | exact cell_of_blk (by assumption) (by rfl))) ?_ | refine s_v (r_nc rfl) ?_ | refine s_v (r_not rfl) ?_ | refine s_v (r_mf rfl rfl) ?_ | refine s_v (r_len rfl) ?_ | refine s_v (r_ex rfl) ?_ | refine s_v (r_fd rfl) ?_ | refine s_v (r_cvi rfl rfl rfl (wrap_in (by omega))) ?_ | refine s_v (r_cv rfl) ?_ | refine s_v (r_peq rfl rfl rfl) ?_ | refine s_v (r_pne rfl rfl rfl) ?_ | refine s_v (r_min rfl rfl) ?_ | refine s_v (r_max rfl rfl) ?_ | refine s_v (r_bd rfl) ?_ | refine s_v (r_pt rfl rfl) ?_ | refine s_v (r_pf rfl rfl) ?_))
      refine s_v (r_ia rfl rfl rfl rfl (by omega) (by omega)) ?_
      obtain ⟨hx1, hx2⟩ := kc_get hxi
      refine s_v (r_lda (n := 2) (vs := [.int .i64 k, .int .i64 x]) rfl rfl rfl rfl (fun j hj => ?_)) ?_
      · rw [hi, Int.toNat_natCast]
        match j, hj with
        | 0, _ => exact hcells _ _ hx1
        | 1, _ => exact hcells _ _ hx2
      refine s_st rfl rfl rfl rfl rfl b2 (Nat.le_of_ble_eq_true rfl) (fun w3 s3 => ?_)
      have hgw : g < w.heap.size := by
        have := (own_lt h.own (g := g) rfl).2
        exact this
      have h3 := h2.kp s3.kp (by omega) (fun g' e => by cases e; show ¬ g = b7; omega)
      have hp3 := h3.blk
      (repeat (first | refine k_nil ?_ | refine k_n ?_ | refine k_r ?_ | refine k_x ?_ | refine b_n ?_ | refine b_r ?_ | refine b_y rfl ?_ | refine b_z rfl ?_ | refine l_r ?_ | refine l_x ?_ | refine k_seq ?_ | refine k_blk ?_ | refine k_reg ?_ | refine k_ret ?_ | refine k_exit ?_ | refine k_skip ?_ | refine s_v (r_mv rfl) ?_ | refine s_v (r_as rfl) ?_ | refine s_v (r_add rfl rfl (by omega)) ?_ | refine s_v (r_sub rfl rfl (by omega)) ?_ | refine s_v (r_mul rfl rfl (by omega)) ?_ | refine s_v (r_bin rfl) ?_ | refine s_v (r_fa rfl rfl) ?_ | refine s_v (r_ld rfl rfl (by first | assumption | exact cell_of_blk (by assumption) (by rfl))) ?_ | refine s_v (r_nc rfl) ?_ | refine s_v (r_not rfl) ?_ | refine s_v (r_mf rfl rfl) ?_ | refine s_v (r_len rfl) ?_ | refine s_v (r_ex rfl) ?_ | refine s_v (r_fd rfl) ?_ | refine s_v (r_cvi rfl rfl rfl (wrap_in (by omega))) ?_ | refine s_v (r_cv rfl) ?_ | refine s_v (r_peq rfl rfl rfl) ?_ | refine s_v (r_pne rfl rfl rfl) ?_ | refine s_v (r_min rfl rfl) ?_ | refine s_v (r_max rfl rfl) ?_ | refine s_v (r_bd rfl) ?_ | refine s_v (r_pt rfl rfl) ?_ | refine s_v (r_pf rfl rfl) ?_))
      rw [hi]
      refine s_call (us := []) (zs := []) (by kernel_rfl) rfl rfl (Delete xs g c i (p + 1) w3 hil (by omega) h3.own) ?_
      rintro _ w4 ⟨rfl, own4, k4⟩
      have hp4 := k4.get hp3 (by show ¬ p = g; omega)
      have b4 := k4.get s3.blk (by show ¬ b7 = g; omega)
      (repeat (first | refine k_nil ?_ | refine k_n ?_ | refine k_r ?_ | refine k_x ?_ | refine b_n ?_ | refine b_r ?_ | refine b_y rfl ?_ | refine b_z rfl ?_ | refine l_r ?_ | refine l_x ?_ | refine k_seq ?_ | refine k_blk ?_ | refine k_reg ?_ | refine k_ret ?_ | refine k_exit ?_ | refine k_skip ?_ | refine s_v (r_mv rfl) ?_ | refine s_v (r_as rfl) ?_ | refine s_v (r_add rfl rfl (by omega)) ?_ | refine s_v (r_sub rfl rfl (by omega)) ?_ | refine s_v (r_mul rfl rfl (by omega)) ?_ | refine s_v (r_bin rfl) ?_ | refine s_v (r_fa rfl rfl) ?_ | refine s_v (r_ld rfl rfl (by first | assumption | exact cell_of_blk (by assumption) (by rfl))) ?_ | refine s_v (r_nc rfl) ?_ | refine s_v (r_not rfl) ?_ | refine s_v (r_mf rfl rfl) ?_ | refine s_v (r_len rfl) ?_ | refine s_v (r_ex rfl) ?_ | refine s_v (r_fd rfl) ?_ | refine s_v (r_cvi rfl rfl rfl (wrap_in (by omega))) ?_ | refine s_v (r_cv rfl) ?_ | refine s_v (r_peq rfl rfl rfl) ?_ | refine s_v (r_pne rfl rfl rfl) ?_ | refine s_v (r_min rfl rfl) ?_ | refine s_v (r_max rfl rfl) ?_ | refine s_v (r_bd rfl) ?_ | refine s_v (r_pt rfl rfl) ?_ | refine s_v (r_pf rfl rfl) ?_))
      refine s_st rfl rfl rfl rfl rfl hp4 (Nat.le_of_ble_eq_true rfl) (fun w5 s5 => ?_)
      have own5 := own_kp own4 s5.kp (fun g' e => by cases e; show ¬ g = p; omega)
      have b5 := s5.kp.get b4 (by show ¬ b7 = p; omega)
      (repeat (first | refine k_nil ?_ | refine k_n ?_ | refine k_r ?_ | refine k_x ?_ | refine b_n ?_ | refine b_r ?_ | refine b_y rfl ?_ | refine b_z rfl ?_ | refine l_r ?_ | refine l_x ?_ | refine k_seq ?_ | refine k_blk ?_ | refine k_reg ?_ | refine k_ret ?_ | refine k_exit ?_ | refine k_skip ?_ | refine s_v (r_mv rfl) ?_ | refine s_v (r_as rfl) ?_ | refine s_v (r_add rfl rfl (by omega)) ?_ | refine s_v (r_sub rfl rfl (by omega)) ?_ | refine s_v (r_mul rfl rfl (by omega)) ?_ | refine s_v (r_bin rfl) ?_ | refine s_v (r_fa rfl rfl) ?_ | refine s_v (r_ld rfl rfl (by first | assumption | exact cell_of_blk (by assumption) (by rfl))) ?_ | refine s_v (r_nc rfl) ?_ | refine s_v (r_not rfl) ?_ | refine s_v (r_mf rfl rfl) ?_ | refine s_v (r_len rfl) ?_ | refine s_v (r_ex rfl) ?_ | refine s_v (r_fd rfl) ?_ | refine s_v (r_cvi rfl rfl rfl (wrap_in (by omega))) ?_ | refine s_v (r_cv rfl) ?_ | refine s_v (r_peq rfl rfl rfl) ?_ | refine s_v (r_pne rfl rfl rfl) ?_ | refine s_v (r_min rfl rfl) ?_ | refine s_v (r_max rfl rfl) ?_ | refine s_v (r_bd rfl) ?_ | refine s_v (r_pt rfl rfl) ?_ | refine s_v (r_pf rfl rfl) ?_))
      refine l_cut (.slice (some ⟨g, 0, none⟩) (xs.length - 1) c, xs.eraseIdx i, f) ⟨rfl, rfl, trivial⟩ ⟨⟨s5.blk, own5⟩, b5, ?_, ?_, ?_, ?_, ?_, ?_, ?_⟩
      · show (xs.eraseIdx i).length ≤ 1000
        rw [List.length_eraseIdx, if_pos hil]; omega
      · show ((xs.eraseIdx i).length : Int) ≤ r
        rw [List.length_eraseIdx, if_pos hil]; omega
      · show put xs r k x = (if r ≤ ((xs.eraseIdx i).length : Int) then (xs.eraseIdx i).eraseIdx 0 else xs.eraseIdx i) ++ [(k, x)]
        rw [put, if_pos hit, hi, Int.toNat_natCast, List.length_eraseIdx, if_pos hil, if_neg (by omega)]
      · rw [if_neg (by omega)]
      · refine ((((n1.kp.no k2).mono fun _ _ h => h.elim).trans s3.kp ?_).trans k4 ?_).trans s5.kp ?_
        · intro j hj e; omega
        · intro j hj e; right; left; rw [e]; rfl
        · intro j hj e; left; exact e
      · intro g' e; left; exact e
      · intro hneg; omega
    · have hneg : idx xs k < 0 := by omega
      obtain ⟨a, c, rfl, hc, ha, hrd⟩ := own_read h2.own
      have hp2 := h2.blk
      (repeat (first | refine k_nil ?_ | refine k_n ?_ | refine k_r ?_ | refine k_x ?_ | refine b_n ?_ | refine b_r ?_ | refine b_y rfl ?_ | refine b_z rfl ?_ | refine l_r ?_ | refine l_x ?_ | refine k_seq ?_ | refine k_blk ?_ | refine k_reg ?_ | refine k_ret ?_ | refine k_exit ?_ | refine k_skip ?_ | refine s_v (r_mv rfl) ?_ | refine s_v (r_as rfl) ?_ | refine s_v (r_add rfl rfl (by omega)) ?_ | refine s_v (r_sub rfl rfl (by omega)) ?_ | refine s_v (r_mul rfl rfl (by omega)) ?_ | refine s_v (r_bin rfl) ?_ | refine s_v (r_fa rfl rfl) ?_ | refine s_v (r_ld rfl rfl (by first | assumption | exact cell_of_blk (by assumption) (by rfl))) ?_ | refine s_v (r_nc rfl) ?_ | refine s_v (r_not rfl) ?_ | refine s_v (r_mf rfl rfl) ?_ | refine s_v (r_len rfl) ?_ | refine s_v (r_ex rfl) ?_ | refine s_v (r_fd rfl) ?_ | refine s_v (r_cvi rfl rfl rfl (wrap_in (by omega))) ?_ | refine s_v (r_cv rfl) ?_ | refine s_v (r_peq rfl rfl rfl) ?_ | refine s_v (r_pne rfl rfl rfl) ?_ | refine s_v (r_min rfl rfl) ?_ | refine s_v (r_max rfl rfl) ?_ | refine s_v (r_bd rfl) ?_ | refine s_v (r_pt rfl rfl) ?_ | refine s_v (r_pf rfl rfl) ?_))
      refine s_call (us := us) (zs := zs) hok rfl rfl (hfetch hneg w2 (n1.kp.no k2)) ?_
      rintro _ w3 ⟨rfl, k3, hF3⟩
      have h3 := h2.kp k3 (fun t => (hT _ t).2.1 rfl) (fun g e t => (hT _ t).2.2 e.symm)
      have b3 := k3.get b2 (fun t => by have := (hT _ t).1; omega)
      have hp3 := h3.blk
      (repeat (first | refine k_nil ?_ | refine k_n ?_ | refine k_r ?_ | refine k_x ?_ | refine b_n ?_ | refine b_r ?_ | refine b_y rfl ?_ | refine b_z rfl ?_ | refine l_r ?_ | refine l_x ?_ | refine k_seq ?_ | refine k_blk ?_ | refine k_reg ?_ | refine k_ret ?_ | refine k_exit ?_ | refine k_skip ?_ | refine s_v (r_mv rfl) ?_ | refine s_v (r_as rfl) ?_ | refine s_v (r_add rfl rfl (by omega)) ?_ | refine s_v (r_sub rfl rfl (by omega)) ?_ | refine s_v (r_mul rfl rfl (by omega)) ?_ | refine s_v (r_bin rfl) ?_ | refine s_v (r_fa rfl rfl) ?_ | refine s_v (r_ld rfl rfl (by first | assumption | exact cell_of_blk (by assumption) (by rfl))) ?_ | refine s_v (r_nc rfl) ?_ | refine s_v (r_not rfl) ?_ | refine s_v (r_mf rfl rfl) ?_ | refine s_v (r_len rfl) ?_ | refine s_v (r_ex rfl) ?_ | refine s_v (r_fd rfl) ?_ | refine s_v (r_cvi rfl rfl rfl (wrap_in (by omega))) ?_ | refine s_v (r_cv rfl) ?_ | refine s_v (r_peq rfl rfl rfl) ?_ | refine s_v (r_pne rfl rfl rfl) ?_ | refine s_v (r_min rfl rfl) ?_ | refine s_v (r_max rfl rfl) ?_ | refine s_v (r_bd rfl) ?_ | refine s_v (r_pt rfl rfl) ?_ | refine s_v (r_pf rfl rfl) ?_))
      refine s_st rfl rfl rfl rfl rfl b3 (Nat.le_of_ble_eq_true rfl) (fun w4 s4 => ?_)
      have hg7 : ∀ g, (Value.slice a xs.length c).ownBlock = some g → ¬ g = b7 := fun g e => by
        have := (own_lt h.own e).2; omega
      have h4 := h3.kp s4.kp (by show ¬ p = b7; omega) hg7
      have hp4 := h4.blk
      (repeat (first | refine k_nil ?_ | refine k_n ?_ | refine k_r ?_ | refine k_x ?_ | refine b_n ?_ | refine b_r ?_ | refine b_y rfl ?_ | refine b_z rfl ?_ | refine l_r ?_ | refine l_x ?_ | refine k_seq ?_ | refine k_blk ?_ | refine k_reg ?_ | refine k_ret ?_ | refine k_exit ?_ | refine k_skip ?_ | refine s_v (r_mv rfl) ?_ | refine s_v (r_as rfl) ?_ | refine s_v (r_add rfl rfl (by omega)) ?_ | refine s_v (r_sub rfl rfl (by omega)) ?_ | refine s_v (r_mul rfl rfl (by omega)) ?_ | refine s_v (r_bin rfl) ?_ | refine s_v (r_fa rfl rfl) ?_ | refine s_v (r_ld rfl rfl (by first | assumption | exact cell_of_blk (by assumption) (by rfl))) ?_ | refine s_v (r_nc rfl) ?_ | refine s_v (r_not rfl) ?_ | refine s_v (r_mf rfl rfl) ?_ | refine s_v (r_len rfl) ?_ | refine s_v (r_ex rfl) ?_ | refine s_v (r_fd rfl) ?_ | refine s_v (r_cvi rfl rfl rfl (wrap_in (by omega))) ?_ | refine s_v (r_cv rfl) ?_ | refine s_v (r_peq rfl rfl rfl) ?_ | refine s_v (r_pne rfl rfl rfl) ?_ | refine s_v (r_min rfl rfl) ?_ | refine s_v (r_max rfl rfl) ?_ | refine s_v (r_bd rfl) ?_ | refine s_v (r_pt rfl rfl) ?_ | refine s_v (r_pf rfl rfl) ?_))
      refine s_st rfl rfl rfl rfl rfl hp4 (Nat.le_of_ble_eq_true rfl) (fun w5 s5 => ?_)
      have hgp : ∀ g, (Value.slice a xs.length c).ownBlock = some g → ¬ g = p := fun g e => by
        have := (own_lt h.own e).1; omega
      have own5 := own_kp h4.own s5.kp hgp
      have b5 := s5.kp.get s4.blk (by show ¬ b7 = p; omega)
      (repeat (first | refine k_nil ?_ | refine k_n ?_ | refine k_r ?_ | refine k_x ?_ | refine b_n ?_ | refine b_r ?_ | refine b_y rfl ?_ | refine b_z rfl ?_ | refine l_r ?_ | refine l_x ?_ | refine k_seq ?_ | refine k_blk ?_ | refine k_reg ?_ | refine k_ret ?_ | refine k_exit ?_ | refine k_skip ?_ | refine s_v (r_mv rfl) ?_ | refine s_v (r_as rfl) ?_ | refine s_v (r_add rfl rfl (by omega)) ?_ | refine s_v (r_sub rfl rfl (by omega)) ?_ | refine s_v (r_mul rfl rfl (by omega)) ?_ | refine s_v (r_bin rfl) ?_ | refine s_v (r_fa rfl rfl) ?_ | refine s_v (r_ld rfl rfl (by first | assumption | exact cell_of_blk (by assumption) (by rfl))) ?_ | refine s_v (r_nc rfl) ?_ | refine s_v (r_not rfl) ?_ | refine s_v (r_mf rfl rfl) ?_ | refine s_v (r_len rfl) ?_ | refine s_v (r_ex rfl) ?_ | refine s_v (r_fd rfl) ?_ | refine s_v (r_cvi rfl rfl rfl (wrap_in (by omega))) ?_ | refine s_v (r_cv rfl) ?_ | refine s_v (r_peq rfl rfl rfl) ?_ | refine s_v (r_pne rfl rfl rfl) ?_ | refine s_v (r_min rfl rfl) ?_ | refine s_v (r_max rfl rfl) ?_ | refine s_v (r_bd rfl) ?_ | refine s_v (r_pt rfl rfl) ?_ | refine s_v (r_pf rfl rfl) ?_))
      refine l_cut (.slice a xs.length c, xs, f + 1) ⟨rfl, rfl, trivial⟩ ⟨⟨s5.blk, own5⟩, b5, by show xs.length ≤ 1000; omega, hlen, ?_, ?_, ?_, ?_, ?_⟩
      · simp only [put, if_neg miss]
      · rw [if_pos hneg]
      · refine ((((n1.kp.no k2).mono fun _ _ h => h.elim).trans k3 ?_).trans s4.kp ?_).trans s5.kp ?_
        · intro j hj e; right; right; exact ⟨hneg, e⟩
        · intro j hj e; omega
        · intro j hj e; left; exact e
      · intro g' e; left; exact e
      · intro _
        refine hF _ _ (hF _ _ hF3 (s4.kp.mono ?_)) (s5.kp.mono ?_)
        · intro j _ e t; have := (hT _ t).1; omega
        · intro j _ e t; exact (hT _ t).2.1 e
  · rintro ⟨s1, xs1, f1⟩ l w3 ⟨h3, b3, hl1, hl2, hput, hf1, k3, hown, hF3⟩
    simp only at h3 b3 hl1 hl2 hput hf1 k3 hown hF3
    have z3 := k3.size
    have hp3 := h3.blk
    have hown7 : ∀ g, s1.ownBlock = some g → ¬ b7 = g := fun g e hb => by
      rcases hown g e with h0 | h0
      · have := (own_lt h.own h0).2; omega
      · omega
    have hownp : ∀ g, s1.ownBlock = some g → p < g := fun g e => by have := (own_lt h3.own e).1; omega
    obtain ⟨a, c, rfl, hc, ha, hrd⟩ := own_read h3.own
    (repeat (first | refine k_nil ?_ | refine k_n ?_ | refine k_r ?_ | refine k_x ?_ | refine b_n ?_ | refine b_r ?_ | refine b_y rfl ?_ | refine b_z rfl ?_ | refine l_r ?_ | refine l_x ?_ | refine k_seq ?_ | refine k_blk ?_ | refine k_reg ?_ | refine k_ret ?_ | refine k_exit ?_ | refine k_skip ?_ | refine s_v (r_mv rfl) ?_ | refine s_v (r_as rfl) ?_ | refine s_v (r_add rfl rfl (by omega)) ?_ | refine s_v (r_sub rfl rfl (by omega)) ?_ | refine s_v (r_mul rfl rfl (by omega)) ?_ | refine s_v (r_bin rfl) ?_ | refine s_v (r_fa rfl rfl) ?_ | refine s_v (r_ld rfl rfl (by first | assumption | exact cell_of_blk (by assumption) (by rfl))) ?_ | refine s_v (r_nc rfl) ?_ | refine s_v (r_not rfl) ?_ | refine s_v (r_mf rfl rfl) ?_ | refine s_v (r_len rfl) ?_ | refine s_v (r_ex rfl) ?_ | refine s_v (r_fd rfl) ?_ | refine s_v (r_cvi rfl rfl rfl (wrap_in (by omega))) ?_ | refine s_v (r_cv rfl) ?_ | refine s_v (r_peq rfl rfl rfl) ?_ | refine s_v (r_pne rfl rfl rfl) ?_ | refine s_v (r_min rfl rfl) ?_ | refine s_v (r_max rfl rfl) ?_ | refine s_v (r_bd rfl) ?_ | refine s_v (r_pt rfl rfl) ?_ | refine s_v (r_pf rfl rfl) ?_))
    refine k_q (by kernel_rfl) (by kernel_rfl) ?_
    refine q_v (fun w' hw => r_mv rfl) ?_
    refine q_v (fun w' hw => r_nc rfl) ?_
    refine q_v (fun w' hw => r_fa rfl rfl) ?_
    refine q_v (fun w' hw => r_ld rfl rfl (cell_of_blk (hw.get0 hp3) (by rfl))) ?_
    refine q_v (fun w' hw => r_len rfl) ?_
    refine q_v (fun w' hw => r_mv rfl) ?_
    refine q_v (fun w' hw => r_nc rfl) ?_
    refine q_v (fun w' hw => r_fa rfl rfl) ?_
    refine q_v (fun w' hw => r_ld rfl rfl (cell_of_blk (hw.get0 hp3) (by rfl))) ?_
    refine q_v (fun w' hw => r_bin rfl) ?_
    refine q_nil (fun w4 k4 => ?_)
    have h4 := h3.kp k4 id (fun _ _ => id)
    have b4 := k4.get0 b3
    have hp4 := h4.blk
    (repeat (first | refine k_nil ?_ | refine k_n ?_ | refine k_r ?_ | refine k_x ?_ | refine b_n ?_ | refine b_r ?_ | refine b_y rfl ?_ | refine b_z rfl ?_ | refine l_r ?_ | refine l_x ?_ | refine k_seq ?_ | refine k_blk ?_ | refine k_reg ?_ | refine k_ret ?_ | refine k_exit ?_ | refine k_skip ?_ | refine s_v (r_mv rfl) ?_ | refine s_v (r_as rfl) ?_ | refine s_v (r_add rfl rfl (by omega)) ?_ | refine s_v (r_sub rfl rfl (by omega)) ?_ | refine s_v (r_mul rfl rfl (by omega)) ?_ | refine s_v (r_bin rfl) ?_ | refine s_v (r_fa rfl rfl) ?_ | refine s_v (r_ld rfl rfl (by first | assumption | exact cell_of_blk (by assumption) (by rfl))) ?_ | refine s_v (r_nc rfl) ?_ | refine s_v (r_not rfl) ?_ | refine s_v (r_mf rfl rfl) ?_ | refine s_v (r_len rfl) ?_ | refine s_v (r_ex rfl) ?_ | refine s_v (r_fd rfl) ?_ | refine s_v (r_cvi rfl rfl rfl (wrap_in (by omega))) ?_ | refine s_v (r_cv rfl) ?_ | refine s_v (r_peq rfl rfl rfl) ?_ | refine s_v (r_pne rfl rfl rfl) ?_ | refine s_v (r_min rfl rfl) ?_ | refine s_v (r_max rfl rfl) ?_ | refine s_v (r_bd rfl) ?_ | refine s_v (r_pt rfl rfl) ?_ | refine s_v (r_pf rfl rfl) ?_))
    refine k_cutc (σ := Value × List (Int × Int)) (fun _ => [(0, .pointer (some ⟨p, 0, none⟩)), (7, .pointer (some ⟨b7, 0, none⟩))])
      (fun t w' => Shf w' p t.1 t.2 r f1 ∧ w'.heap[b7]? = some (.cells [.int .i64 k, .int .i64 x].toArray 45 (0, 0)) ∧ t.2.length ≤ 1000 ∧
        put xs r k x = t.2 ++ [(k, x)] ∧ Kp (fun b => b = p ∨ some b = s.ownBlock ∨ (idx xs k < 0 ∧ T b)) w w' ∧
        (∀ g, t.1.ownBlock = some g → s.ownBlock = some g ∨ (w.heap.size ≤ g ∧ b7 < g)) ∧ (idx xs k < 0 → F w')) ?_ ?_
    · refine c_dec rfl (fun hfull => ?_) (fun hroom => ?_)
      · have hpos : 0 < xs1.length := by omega
        cases a with
        | none => have := ha rfl; omega
        | some ad =>
        obtain ⟨g, rfl, hg1, hg2, hcells⟩ := hrd _ rfl
        have hb7g := hown7 g rfl
        (repeat (first | refine k_nil ?_ | refine k_n ?_ | refine k_r ?_ | refine k_x ?_ | refine b_n ?_ | refine b_r ?_ | refine b_y rfl ?_ | refine b_z rfl ?_ | refine l_r ?_ | refine l_x ?_ | refine k_seq ?_ | refine k_blk ?_ | refine k_reg ?_ | refine k_ret ?_ | refine k_exit ?_ | refine k_skip ?_ | refine s_v (r_mv rfl) ?_ | refine s_v (r_as rfl) ?_ | refine s_v (r_add rfl rfl (by omega)) ?_ | refine s_v (r_sub rfl rfl (by omega)) ?_ | refine s_v (r_mul rfl rfl (by omega)) ?_ | refine s_v (r_bin rfl) ?_ | refine s_v (r_fa rfl rfl) ?_ | refine s_v (r_ld rfl rfl (by first | assumption | exact cell_of_blk (by assumption) (by rfl))) ?_ | refine s_v (r_nc rfl) ?_ | refine s_v (r_not rfl) ?_ | refine s_v (r_mf rfl rfl) ?_ | refine s_v (r_len rfl) ?_ | refine s_v (r_ex rfl) ?_ | refine s_v (r_fd rfl) ?_ | refine s_v (r_cvi rfl rfl rfl (wrap_in (by omega))) ?_ | refine s_v (r_cv rfl) ?_ | refine s_v (r_peq rfl rfl rfl) ?_ | refine s_v (r_pne rfl rfl rfl) ?_ | refine s_v (r_min rfl rfl) ?_ | refine s_v (r_max rfl rfl) ?_ | refine s_v (r_bd rfl) ?_ | refine s_v (r_pt rfl rfl) ?_ | refine s_v (r_pf rfl rfl) ?_))
        refine s_call (us := []) (zs := []) (by kernel_rfl) rfl rfl (Delete xs1 g c 0 (p + 1) w4 hpos hl1 h4.own) ?_
        rintro _ w5 ⟨rfl, own5, k5⟩
        have hp5 := k5.get hp4 (by show ¬ p = g; omega)
        have b5 := k5.get b4 (by show ¬ b7 = g; exact hb7g)
        (repeat (first | refine k_nil ?_ | refine k_n ?_ | refine k_r ?_ | refine k_x ?_ | refine b_n ?_ | refine b_r ?_ | refine b_y rfl ?_ | refine b_z rfl ?_ | refine l_r ?_ | refine l_x ?_ | refine k_seq ?_ | refine k_blk ?_ | refine k_reg ?_ | refine k_ret ?_ | refine k_exit ?_ | refine k_skip ?_ | refine s_v (r_mv rfl) ?_ | refine s_v (r_as rfl) ?_ | refine s_v (r_add rfl rfl (by omega)) ?_ | refine s_v (r_sub rfl rfl (by omega)) ?_ | refine s_v (r_mul rfl rfl (by omega)) ?_ | refine s_v (r_bin rfl) ?_ | refine s_v (r_fa rfl rfl) ?_ | refine s_v (r_ld rfl rfl (by first | assumption | exact cell_of_blk (by assumption) (by rfl))) ?_ | refine s_v (r_nc rfl) ?_ | refine s_v (r_not rfl) ?_ | refine s_v (r_mf rfl rfl) ?_ | refine s_v (r_len rfl) ?_ | refine s_v (r_ex rfl) ?_ | refine s_v (r_fd rfl) ?_ | refine s_v (r_cvi rfl rfl rfl (wrap_in (by omega))) ?_ | refine s_v (r_cv rfl) ?_ | refine s_v (r_peq rfl rfl rfl) ?_ | refine s_v (r_pne rfl rfl rfl) ?_ | refine s_v (r_min rfl rfl) ?_ | refine s_v (r_max rfl rfl) ?_ | refine s_v (r_bd rfl) ?_ | refine s_v (r_pt rfl rfl) ?_ | refine s_v (r_pf rfl rfl) ?_))
        refine s_st rfl rfl rfl rfl rfl hp5 (Nat.le_of_ble_eq_true rfl) (fun w6 s6 => ?_)
        have own6 := own_kp own5 s6.kp (fun g' e => by cases e; show ¬ g = p; omega)
        have b6 := s6.kp.get b5 (by
          show ¬ b7 = p
          intro e
          have := lt_of_get b3
          subst e
          rw [hp3] at b3
          simp at b3)
        (repeat (first | refine k_nil ?_ | refine k_n ?_ | refine k_r ?_ | refine k_x ?_ | refine b_n ?_ | refine b_r ?_ | refine b_y rfl ?_ | refine b_z rfl ?_ | refine l_r ?_ | refine l_x ?_ | refine k_seq ?_ | refine k_blk ?_ | refine k_reg ?_ | refine k_ret ?_ | refine k_exit ?_ | refine k_skip ?_ | refine s_v (r_mv rfl) ?_ | refine s_v (r_as rfl) ?_ | refine s_v (r_add rfl rfl (by omega)) ?_ | refine s_v (r_sub rfl rfl (by omega)) ?_ | refine s_v (r_mul rfl rfl (by omega)) ?_ | refine s_v (r_bin rfl) ?_ | refine s_v (r_fa rfl rfl) ?_ | refine s_v (r_ld rfl rfl (by first | assumption | exact cell_of_blk (by assumption) (by rfl))) ?_ | refine s_v (r_nc rfl) ?_ | refine s_v (r_not rfl) ?_ | refine s_v (r_mf rfl rfl) ?_ | refine s_v (r_len rfl) ?_ | refine s_v (r_ex rfl) ?_ | refine s_v (r_fd rfl) ?_ | refine s_v (r_cvi rfl rfl rfl (wrap_in (by omega))) ?_ | refine s_v (r_cv rfl) ?_ | refine s_v (r_peq rfl rfl rfl) ?_ | refine s_v (r_pne rfl rfl rfl) ?_ | refine s_v (r_min rfl rfl) ?_ | refine s_v (r_max rfl rfl) ?_ | refine s_v (r_bd rfl) ?_ | refine s_v (r_pt rfl rfl) ?_ | refine s_v (r_pf rfl rfl) ?_))
        refine l_cut (.slice (some ⟨g, 0, none⟩) (xs1.length - 1) c, xs1.eraseIdx 0) ⟨rfl, rfl, trivial⟩ ⟨⟨s6.blk, own6⟩, b6, ?_, ?_, ?_, ?_, ?_⟩
        · show (xs1.eraseIdx 0).length ≤ 1000
          rw [List.length_eraseIdx, if_pos hpos]; omega
        · rw [hput, if_pos (by omega)]
        · refine ((k3.no k4).trans k5 ?_).trans s6.kp ?_
          · intro j hj e
            rcases hown g rfl with h0 | h0
            · right; left; rw [e]; exact h0.symm
            · omega
          · intro j hj e; left; exact e
        · exact hown
        · intro hneg
          refine hF _ _ (hF _ _ (hF _ _ (hF3 hneg) (k4.mono fun _ _ h => h.elim)) (k5.mono ?_)) (s6.kp.mono ?_)
          · intro j _ e t
            rcases hown g rfl with h0 | h0
            · exact (hT _ t).2.2 (by rw [e]; exact h0.symm)
            · have := (hT _ t).1; omega
          · intro j _ e t; exact (hT _ t).2.1 e
      · (repeat (first | refine k_nil ?_ | refine k_n ?_ | refine k_r ?_ | refine k_x ?_ | refine b_n ?_ | refine b_r ?_ | refine b_y rfl ?_ | refine b_z rfl ?_ | refine l_r ?_ | refine l_x ?_ | refine k_seq ?_ | refine k_blk ?_ | refine k_reg ?_ | refine k_ret ?_ | refine k_exit ?_ | refine k_skip ?_ | refine s_v (r_mv rfl) ?_ | refine s_v (r_as rfl) ?_ | refine s_v (r_add rfl rfl (by omega)) ?_ | refine s_v (r_sub rfl rfl (by omega)) ?_ | refine s_v (r_mul rfl rfl (by omega)) ?_ | refine s_v (r_bin rfl) ?_ | refine s_v (r_fa rfl rfl) ?_ | refine s_v (r_ld rfl rfl (by first | assumption | exact cell_of_blk (by assumption) (by rfl))) ?_ | refine s_v (r_nc rfl) ?_ | refine s_v (r_not rfl) ?_ | refine s_v (r_mf rfl rfl) ?_ | refine s_v (r_len rfl) ?_ | refine s_v (r_ex rfl) ?_ | refine s_v (r_fd rfl) ?_ | refine s_v (r_cvi rfl rfl rfl (wrap_in (by omega))) ?_ | refine s_v (r_cv rfl) ?_ | refine s_v (r_peq rfl rfl rfl) ?_ | refine s_v (r_pne rfl rfl rfl) ?_ | refine s_v (r_min rfl rfl) ?_ | refine s_v (r_max rfl rfl) ?_ | refine s_v (r_bd rfl) ?_ | refine s_v (r_pt rfl rfl) ?_ | refine s_v (r_pf rfl rfl) ?_))
        refine l_cut (.slice a xs1.length c, xs1) ⟨rfl, rfl, trivial⟩ ⟨h4, b4, hl1, ?_, k3.no k4, hown, fun hneg => hF _ _ (hF3 hneg) (k4.mono fun _ _ h => h.elim)⟩
        rw [hput, if_neg (by omega)]
    · clear hp4 h4 b4 k4 hown hown7 hownp hrd ha hF3 k3 hput hl1 hl2 hp3 h3 b3
      rintro ⟨s2, xs2⟩ l w5 ⟨h5, b5, hl1, hput, k5, hown, hF5⟩
      simp only at h5 b5 hl1 hput k5 hown hF5
      have z5 := k5.size
      have hp5 := h5.blk
      have hp7 : p ≠ b7 := by omega
      obtain ⟨a2, c2, rfl, hc2, ha2, hrd2⟩ := own_read h5.own
      have hO : ∀ g, (Value.slice a2 xs2.length c2).ownBlock = some g → ¬ p = g ∧ ¬ b7 = g := fun g e => by
        have h1 := own_lt h5.own e
        refine ⟨by omega, fun hb => ?_⟩
        rcases hown g e with h0 | h0
        · have := (own_lt h.own h0).2; omega
        · omega
      (repeat (first | refine k_nil ?_ | refine k_n ?_ | refine k_r ?_ | refine k_x ?_ | refine b_n ?_ | refine b_r ?_ | refine b_y rfl ?_ | refine b_z rfl ?_ | refine l_r ?_ | refine l_x ?_ | refine k_seq ?_ | refine k_blk ?_ | refine k_reg ?_ | refine k_ret ?_ | refine k_exit ?_ | refine k_skip ?_ | refine s_v (r_mv rfl) ?_ | refine s_v (r_as rfl) ?_ | refine s_v (r_add rfl rfl (by omega)) ?_ | refine s_v (r_sub rfl rfl (by omega)) ?_ | refine s_v (r_mul rfl rfl (by omega)) ?_ | refine s_v (r_bin rfl) ?_ | refine s_v (r_fa rfl rfl) ?_ | refine s_v (r_ld rfl rfl (by first | assumption | exact cell_of_blk (by assumption) (by rfl))) ?_ | refine s_v (r_nc rfl) ?_ | refine s_v (r_not rfl) ?_ | refine s_v (r_mf rfl rfl) ?_ | refine s_v (r_len rfl) ?_ | refine s_v (r_ex rfl) ?_ | refine s_v (r_fd rfl) ?_ | refine s_v (r_cvi rfl rfl rfl (wrap_in (by omega))) ?_ | refine s_v (r_cv rfl) ?_ | refine s_v (r_peq rfl rfl rfl) ?_ | refine s_v (r_pne rfl rfl rfl) ?_ | refine s_v (r_min rfl rfl) ?_ | refine s_v (r_max rfl rfl) ?_ | refine s_v (r_bd rfl) ?_ | refine s_v (r_pt rfl rfl) ?_ | refine s_v (r_pf rfl rfl) ?_))
      refine k_h (fun w' => Kp (fun i => some i = (Value.slice a2 xs2.length c2).ownBlock) w5 w') [(0, false), (1, false), (2, false), (3, false), (4, false), (5, false), (6, true), (7, true), (8, false), (9, false), (10, true)] 10 (by kernel_rfl) (by exact waits_of_last (by kernel_rfl)) (by kernel_rfl) (by kernel_rfl) rfl rfl ?_
      intro w6 k6 e6
      have k6' : Kp (fun i => some i = (Value.slice a2 xs2.length c2).ownBlock) w5 w6 := k6.mono fun _ _ h => h.elim
      (repeat (first | refine h_v (by assumption) (fun w' hw => r_mv rfl) ?_ | refine h_v (by assumption) (fun w' hw => r_as rfl) ?_ | refine h_v (by assumption) (fun w' hw => r_nc rfl) ?_ | refine h_v (by assumption) (fun w' hw => r_fa rfl rfl) ?_ | refine h_v (by assumption) (fun w' hw => r_bin rfl) ?_ | refine h_v (by assumption) (fun w' hw => r_len rfl) ?_ | refine h_v (by assumption) (fun w' hw => r_not rfl) ?_ | refine h_v (by assumption) (fun w' hw => r_fd rfl) ?_))
      refine h_v k6' (fun w' hw => r_ld rfl rfl (cell_of_blk (hw.get hp5 (fun e => (hO p e.symm).1 rfl)) (by rfl))) ?_
      refine h_v k6' (fun w' hw => r_ldb (vs := [.int .i64 k, .int .i64 x]) rfl rfl rfl (hw.get b5 (fun e => (hO b7 e.symm).2 rfl)) rfl rfl) ?_
      refine h_bs rfl (fun b8 w7 n8 => ⟨fun _ => k6'.no n8.kp, ?_⟩)
      have own7 := own_kp (own_kp h5.own k6 (fun _ _ => id)) n8.kp (fun _ _ => id)
      refine h_app (size := 2) (bytes := 16) (base := p + 1) (news := [.int .i64 k, .int .i64 x]) rfl rfl rfl rfl rfl rfl rfl rfl own7 rfl (blk_cells n8.blk) rfl rfl (by omega) (by omega) (by have := n8.kp.size; have := k6.size; omega) ?_
      intro v8 w8 a8
      have ka := a8.kp
      refine ⟨fun _ => (k6'.no n8.kp).trans ka (fun _ _ h => h), ?_⟩
      have hp8 := ka.get (n8.kp.get0 (k6.get0 hp5)) (fun e => (hO p e.symm).1 rfl)
      obtain ⟨own8, _, _, row8⟩ := a8
      obtain ⟨a3, c3, rfl, hc3, ha3, hrd3⟩ := own_read own8
      have k8' : Kp (fun i => some i = (Value.slice a2 xs2.length c2).ownBlock) w5 w8 := (k6'.no n8.kp).trans ka (fun _ _ h => h)
      (repeat (first | refine h_v (by assumption) (fun w' hw => r_mv rfl) ?_ | refine h_v (by assumption) (fun w' hw => r_as rfl) ?_ | refine h_v (by assumption) (fun w' hw => r_nc rfl) ?_ | refine h_v (by assumption) (fun w' hw => r_fa rfl rfl) ?_ | refine h_v (by assumption) (fun w' hw => r_bin rfl) ?_ | refine h_v (by assumption) (fun w' hw => r_len rfl) ?_ | refine h_v (by assumption) (fun w' hw => r_not rfl) ?_ | refine h_v (by assumption) (fun w' hw => r_fd rfl) ?_))
      refine h_st rfl rfl rfl rfl rfl hp8 (Nat.le_of_ble_eq_true rfl) (fun w9 s9 => ⟨fun h => absurd rfl h, ?_⟩)
      refine h_nil ?_
      have b9 := s9.kp.get (ka.get (n8.kp.get0 (k6.get0 b5)) (fun e => (hO b7 e.symm).2 rfl)) (by show ¬ b7 = p; omega)
      (repeat (first | refine k_nil ?_ | refine k_n ?_ | refine k_r ?_ | refine k_x ?_ | refine b_n ?_ | refine b_r ?_ | refine b_y rfl ?_ | refine b_z rfl ?_ | refine l_r ?_ | refine l_x ?_ | refine k_seq ?_ | refine k_blk ?_ | refine k_reg ?_ | refine k_ret ?_ | refine k_exit ?_ | refine k_skip ?_ | refine s_v (r_mv rfl) ?_ | refine s_v (r_as rfl) ?_ | refine s_v (r_add rfl rfl (by omega)) ?_ | refine s_v (r_sub rfl rfl (by omega)) ?_ | refine s_v (r_mul rfl rfl (by omega)) ?_ | refine s_v (r_bin rfl) ?_ | refine s_v (r_fa rfl rfl) ?_ | refine s_v (r_ld rfl rfl (by first | assumption | exact cell_of_blk (by assumption) (by rfl))) ?_ | refine s_v (r_nc rfl) ?_ | refine s_v (r_not rfl) ?_ | refine s_v (r_mf rfl rfl) ?_ | refine s_v (r_len rfl) ?_ | refine s_v (r_ex rfl) ?_ | refine s_v (r_fd rfl) ?_ | refine s_v (r_cvi rfl rfl rfl (wrap_in (by omega))) ?_ | refine s_v (r_cv rfl) ?_ | refine s_v (r_peq rfl rfl rfl) ?_ | refine s_v (r_pne rfl rfl rfl) ?_ | refine s_v (r_min rfl rfl) ?_ | refine s_v (r_max rfl rfl) ?_ | refine s_v (r_bd rfl) ?_ | refine s_v (r_pt rfl rfl) ?_ | refine s_v (r_pf rfl rfl) ?_))
      have hnew : ∀ g', (Value.slice a3 (xs2.length + 1) c3).ownBlock = some g' → p + 1 ≤ g' := fun g' e => (own_lt own8 e).1
      refine ret_1 rfl rfl ⟨rfl, _, ⟨by rw [← hf1]; exact s9.blk, ?_⟩, ?_, ?_, ?_⟩
      · have hc : kc (put xs r k x) = kc xs2 ++ [.int .i64 k, .int .i64 x] := by rw [hput]; simp [kc]
        have hl : (put xs r k x).length = xs2.length + 1 := by rw [hput]; simp
        rw [hc, hl]
        exact own_kp own8 s9.kp (fun g' e => by have := hnew g' e; show ¬ g' = p; omega)
      · refine (((k5.no k6).no n8.kp).trans ka ?_).trans s9.kp ?_
        · intro j hj e
          rcases hown j e.symm with h0 | h0
          · right; left; exact h0.symm
          · omega
        · intro j hj e; left; exact e
      · intro g' e
        rcases row8 g' e with h0 | h0
        · rcases hown g' h0 with h1 | h1
          · exact .inl h1
          · exact .inr h1.1
        · right; have := n8.kp.size; have := k6.size; omega
      · intro hneg
        refine hF _ _ (hF _ _ (hF _ _ (hF5 hneg) ((k6.no n8.kp).mono fun _ _ h => h.elim)) (ka.mono ?_)) (s9.kp.mono ?_)
        · intro j _ e t
          rcases hown j e.symm with h0 | h0
          · exact (hT _ t).2.2 h0.symm
          · have := (hT _ t).1; omega
        · intro j _ e t; exact (hT _ t).2.1 e
end Ar
end Go.Proofs.Ytfckpboidecmaaa
