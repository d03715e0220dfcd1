/- Pages: Cover of spans that rise. -/
import Derived.Test.YtimgapkngjkagaaQs
namespace Go.Proofs.Ytimgapkngjkagaa
open Go Go.RowKit Fw Sp Pp
set_option linter.unusedVariables false
set_option maxRecDepth 20000
namespace Pg
def fl (xs : List (Int × Int)) : List Value := xs.flatMap fun p => [.int .i64 p.1, .int .i64 p.2]
theorem fl_len : ∀ xs : List (Int × Int), (fl xs).length = xs.length * 2 := by
  intro xs
  induction xs with
  | nil => rfl
  | cons x xs ih => rw [fl, List.flatMap_cons, List.length_append]; rw [fl] at ih; rw [ih]; simp; omega
theorem fl_get : ∀ (xs : List (Int × Int)) (j : Nat) (p : Int × Int), xs[j]? = some p → (fl xs)[j * 2]? = some (.int .i64 p.1) ∧ (fl xs)[j * 2 + 1]? = some (.int .i64 p.2) := by
  intro xs
  induction xs with
  | nil => intro j p h; cases h
  | cons x xs ih =>
    intro j p h
    cases j with
    | zero => cases h; exact ⟨rfl, rfl⟩
    | succ j =>
      have := ih j p (by simpa using h)
      rw [show (j + 1) * 2 = j * 2 + 2 from by omega, show j * 2 + 2 + 1 = j * 2 + 1 + 2 from by omega]
      exact this
theorem fl_app (xs ys : List (Int × Int)) : fl (xs ++ ys) = fl xs ++ fl ys := by simp [fl]
theorem fl_one (xs : List (Int × Int)) : (fl xs).all Value.oneCell' = true := by
  induction xs with
  | nil => rfl
  | cons x xs ih => rw [fl, List.flatMap_cons, List.all_append]; rw [fl] at ih; rw [ih]; rfl
theorem Rs_own {w : World} {base : Nat} {e : TypeId} {a : Option Addr} {n c : Nat} {xs : List (Int × Int)} (h : w.ownsRow base e 2 (.slice a n c) n (fl xs)) : Rs w a xs := by
  have hl := h.1
  rw [fl_len] at hl
  obtain ⟨a', c', e1, _, hnn, hcell⟩ := own_read h
  cases e1
  cases a with
  | none => exact .inl (List.eq_nil_of_length_eq_zero (by have := hnn rfl; omega))
  | some ad =>
    obtain ⟨g, rfl, _, hg, hc⟩ := hcell ad rfl
    refine .inr ⟨g, 0, rfl, hg, fun j p hj => ?_⟩
    have := fl_get xs j p hj
    exact ⟨hc _ _ this.1, by rw [Nat.add_assoc]; exact hc _ _ this.2⟩
theorem own_put {w : World} {base : Nat} {e size n c : Nat} {a : Option Addr} {cs : List Value} {k : Nat} (h : w.ownsRow base e size (.slice a n c) n cs) (hk : k < cs.length) :
    ∃ g cur, a = some ⟨g, 0, none⟩ ∧ base ≤ g ∧ w.heap[g]? = some (.cells (List.toArray cur) e (0, 0)) ∧ k < cur.length ∧ ∀ w2 u, Sb w g (cur.set k u) e w2 → w2.ownsRow base e size (.slice a n c) n (cs.set k u) := by
  obtain ⟨hl, h⟩ := h
  rcases h with ⟨e1, h0⟩ | ⟨g, cap, cur, e1, hg, hb, hn, hm, hs, ht⟩
  · subst h0; rw [Nat.zero_mul] at hl; omega
  · cases e1
    have hcl : cs.length ≤ cur.toList.length := by rw [← ht, List.length_take]; omega
    refine ⟨g, cur.toList, rfl, hg, hb, by omega, fun w2 u s2 => ⟨by rw [List.length_set]; exact hl, .inr ⟨g, c, (cur.toList.set k u).toArray, rfl, hg, s2.blk, hn, hm, by simpa using hs, ?_⟩⟩⟩
    show (cur.toList.set k u).take (n * size) = _
    rw [List.take_set, ht]
theorem CloneS (xs : List (Int × Int)) (a : Option Addr) (cap : Nat) (w : World) (h : Rs w a xs) (hl : xs.length ≤ 1000) (hcap : xs.length ≤ cap) :
    Ret Try.prog 14 [.slice a xs.length cap] w fun v w1 => ∃ a' c', v = .slice a' xs.length c' ∧ Rs w1 a' xs ∧ Kp No w w1 := by
  refine ret_enter Try.func14 rfl Try.ntmps14 rfl ?_
  (repeat (first | refine k_nil ?_ | refine k_n ?_ | refine k_r ?_ | refine k_x ?_ | refine b_n ?_ | refine b_r ?_ | refine b_y rfl ?_ | refine b_z rfl ?_ | refine l_r ?_ | refine l_x ?_ | refine k_seq ?_ | refine k_blk ?_ | refine k_reg ?_ | refine k_ret ?_ | refine k_exit ?_ | refine k_skip ?_ | refine s_v (r_mv rfl) ?_ | refine s_v (r_as rfl) ?_ | refine s_v (r_add rfl rfl (by omega)) ?_ | refine s_v (r_sub rfl rfl (by omega)) ?_ | refine s_v (r_mul rfl rfl (by omega)) ?_ | refine s_v (r_bin rfl) ?_ | refine s_v (r_fa rfl rfl) ?_ | refine s_v (r_ld rfl rfl (by first | assumption | exact cell_of_blk (by assumption) (by rfl))) ?_ | refine s_v (r_nc rfl) ?_ | refine s_v (r_not rfl) ?_ | refine s_v (r_mf rfl rfl) ?_ | refine s_v (r_len rfl) ?_ | refine s_v (r_ex rfl) ?_ | refine s_v (r_fd rfl) ?_ | refine s_v (r_rem rfl rfl (by omega) (by omega)) ?_ | refine s_v (r_cvi rfl rfl rfl (wrap_in (by omega))) ?_ | refine s_v (r_cv rfl) ?_ | refine s_v (r_peq rfl rfl rfl) ?_ | refine s_v (r_pne rfl rfl rfl) ?_ | refine s_v (r_min rfl rfl) ?_ | refine s_v (r_max rfl rfl) ?_ | refine s_v (r_bd rfl) ?_ | refine s_v (r_pt rfl rfl) ?_ | refine s_v (r_pf rfl rfl) ?_))
  refine s_v (r_seq rfl rfl rfl) ?_
  refine k_nil ?_
  refine k_n ?_
  refine c_b rfl (fun hn => ?_) (fun hn => ?_)
  · have : xs = [] := by
      rcases h with h | ⟨b, o, rfl, _⟩
      · exact h
      · cases hn
    subst this
    (repeat (first | refine k_nil ?_ | refine k_n ?_ | refine k_r ?_ | refine k_x ?_ | refine b_n ?_ | refine b_r ?_ | refine b_y rfl ?_ | refine b_z rfl ?_ | refine l_r ?_ | refine l_x ?_ | refine k_seq ?_ | refine k_blk ?_ | refine k_reg ?_ | refine k_ret ?_ | refine k_exit ?_ | refine k_skip ?_ | refine s_v (r_mv rfl) ?_ | refine s_v (r_as rfl) ?_ | refine s_v (r_add rfl rfl (by omega)) ?_ | refine s_v (r_sub rfl rfl (by omega)) ?_ | refine s_v (r_mul rfl rfl (by omega)) ?_ | refine s_v (r_bin rfl) ?_ | refine s_v (r_fa rfl rfl) ?_ | refine s_v (r_ld rfl rfl (by first | assumption | exact cell_of_blk (by assumption) (by rfl))) ?_ | refine s_v (r_nc rfl) ?_ | refine s_v (r_not rfl) ?_ | refine s_v (r_mf rfl rfl) ?_ | refine s_v (r_len rfl) ?_ | refine s_v (r_ex rfl) ?_ | refine s_v (r_fd rfl) ?_ | refine s_v (r_rem rfl rfl (by omega) (by omega)) ?_ | refine s_v (r_cvi rfl rfl rfl (wrap_in (by omega))) ?_ | refine s_v (r_cv rfl) ?_ | refine s_v (r_peq rfl rfl rfl) ?_ | refine s_v (r_pne rfl rfl rfl) ?_ | refine s_v (r_min rfl rfl) ?_ | refine s_v (r_max rfl rfl) ?_ | refine s_v (r_bd rfl) ?_ | refine s_v (r_pt rfl rfl) ?_ | refine s_v (r_pf rfl rfl) ?_))
    exact ret_1 rfl rfl ⟨none, 0, rfl, .inl rfl, Kp.refl _ _⟩
  · obtain ⟨ad, rfl⟩ : ∃ ad, a = some ad := by
      cases a with
      | none => cases hn
      | some ad => exact ⟨ad, rfl⟩
    (repeat (first | refine k_nil ?_ | refine k_n ?_ | refine k_r ?_ | refine k_x ?_ | refine b_n ?_ | refine b_r ?_ | refine b_y rfl ?_ | refine b_z rfl ?_ | refine l_r ?_ | refine l_x ?_ | refine k_seq ?_ | refine k_blk ?_ | refine k_reg ?_ | refine k_ret ?_ | refine k_exit ?_ | refine k_skip ?_ | refine s_v (r_mv rfl) ?_ | refine s_v (r_as rfl) ?_ | refine s_v (r_add rfl rfl (by omega)) ?_ | refine s_v (r_sub rfl rfl (by omega)) ?_ | refine s_v (r_mul rfl rfl (by omega)) ?_ | refine s_v (r_bin rfl) ?_ | refine s_v (r_fa rfl rfl) ?_ | refine s_v (r_ld rfl rfl (by first | assumption | exact cell_of_blk (by assumption) (by rfl))) ?_ | refine s_v (r_nc rfl) ?_ | refine s_v (r_not rfl) ?_ | refine s_v (r_mf rfl rfl) ?_ | refine s_v (r_len rfl) ?_ | refine s_v (r_ex rfl) ?_ | refine s_v (r_fd rfl) ?_ | refine s_v (r_rem rfl rfl (by omega) (by omega)) ?_ | refine s_v (r_cvi rfl rfl rfl (wrap_in (by omega))) ?_ | refine s_v (r_cv rfl) ?_ | refine s_v (r_peq rfl rfl rfl) ?_ | refine s_v (r_pne rfl rfl rfl) ?_ | refine s_v (r_min rfl rfl) ?_ | refine s_v (r_max rfl rfl) ?_ | refine s_v (r_bd rfl) ?_ | refine s_v (r_pt rfl rfl) ?_ | refine s_v (r_pf rfl rfl) ?_))
    refine s_bs0 rfl rfl (fun b1 w1 n1 => ?_)
    (repeat (first | refine k_nil ?_ | refine k_n ?_ | refine k_r ?_ | refine k_x ?_ | refine b_n ?_ | refine b_r ?_ | refine b_y rfl ?_ | refine b_z rfl ?_ | refine l_r ?_ | refine l_x ?_ | refine k_seq ?_ | refine k_blk ?_ | refine k_reg ?_ | refine k_ret ?_ | refine k_exit ?_ | refine k_skip ?_ | refine s_v (r_mv rfl) ?_ | refine s_v (r_as rfl) ?_ | refine s_v (r_add rfl rfl (by omega)) ?_ | refine s_v (r_sub rfl rfl (by omega)) ?_ | refine s_v (r_mul rfl rfl (by omega)) ?_ | refine s_v (r_bin rfl) ?_ | refine s_v (r_fa rfl rfl) ?_ | refine s_v (r_ld rfl rfl (by first | assumption | exact cell_of_blk (by assumption) (by rfl))) ?_ | refine s_v (r_nc rfl) ?_ | refine s_v (r_not rfl) ?_ | refine s_v (r_mf rfl rfl) ?_ | refine s_v (r_len rfl) ?_ | refine s_v (r_ex rfl) ?_ | refine s_v (r_fd rfl) ?_ | refine s_v (r_rem rfl rfl (by omega) (by omega)) ?_ | refine s_v (r_cvi rfl rfl rfl (wrap_in (by omega))) ?_ | refine s_v (r_cv rfl) ?_ | refine s_v (r_peq rfl rfl rfl) ?_ | refine s_v (r_pne rfl rfl rfl) ?_ | refine s_v (r_min rfl rfl) ?_ | refine s_v (r_max rfl rfl) ?_ | refine s_v (r_bd rfl) ?_ | refine s_v (r_pt rfl rfl) ?_ | refine s_v (r_pf rfl rfl) ?_))
    have own1 := own_empty (base := w.heap.size) (size := 2) n1 n1.ge
    obtain ⟨v, w2, hr, own2, k2, _, hrow⟩ := run_app (P := Try.prog) (ty := 27) (w := w1) (base := w.heap.size) (k := 0) (xs := []) (c := cap) (ad := ad) (m := xs.length) (news := fl xs) (size := 2) (bytes := 16) Try.underlying27 rfl rfl rfl rfl rfl rfl own1 (fun j u hj => by
      have hjl := (List.getElem?_eq_some_iff.1 hj).1
      rw [fl_len] at hjl
      obtain ⟨p, hp⟩ : ∃ p, xs[j / 2]? = some p := ⟨_, List.getElem?_eq_getElem (by omega)⟩
      have hfg := fl_get xs (j / 2) p hp
      rcases h with rfl | ⟨b, o, hbo, hb, h⟩
      · cases hp
      · obtain rfl := Option.some.inj hbo
        rw [addr_add]
        refine n1.kp.cell0 ?_
        rcases Nat.mod_two_eq_zero_or_one j with hm | hm
        · have e : j = j / 2 * 2 := by omega
          rw [e, hfg.1] at hj
          cases hj
          rw [e]; exact (h _ p hp).1
        · have e : j = j / 2 * 2 + 1 := by omega
          rw [e, hfg.2] at hj
          cases hj
          rw [e, ← Nat.add_assoc]; exact (h _ p hp).2) (fl_len xs) (fl_one xs) (by omega) (by omega) (by have := n1.kp.size; omega)
    refine s_go (r_app (e := 26) rfl rfl hr) ?_
    rw [List.nil_append, Nat.zero_add] at own2
    have own3 := own2
    obtain ⟨a', c', rfl, hc, hnn, hcell⟩ := own_read own2
    (repeat (first | refine k_nil ?_ | refine k_n ?_ | refine k_r ?_ | refine k_x ?_ | refine b_n ?_ | refine b_r ?_ | refine b_y rfl ?_ | refine b_z rfl ?_ | refine l_r ?_ | refine l_x ?_ | refine k_seq ?_ | refine k_blk ?_ | refine k_reg ?_ | refine k_ret ?_ | refine k_exit ?_ | refine k_skip ?_ | refine s_v (r_mv rfl) ?_ | refine s_v (r_as rfl) ?_ | refine s_v (r_add rfl rfl (by omega)) ?_ | refine s_v (r_sub rfl rfl (by omega)) ?_ | refine s_v (r_mul rfl rfl (by omega)) ?_ | refine s_v (r_bin rfl) ?_ | refine s_v (r_fa rfl rfl) ?_ | refine s_v (r_ld rfl rfl (by first | assumption | exact cell_of_blk (by assumption) (by rfl))) ?_ | refine s_v (r_nc rfl) ?_ | refine s_v (r_not rfl) ?_ | refine s_v (r_mf rfl rfl) ?_ | refine s_v (r_len rfl) ?_ | refine s_v (r_ex rfl) ?_ | refine s_v (r_fd rfl) ?_ | refine s_v (r_rem rfl rfl (by omega) (by omega)) ?_ | refine s_v (r_cvi rfl rfl rfl (wrap_in (by omega))) ?_ | refine s_v (r_cv rfl) ?_ | refine s_v (r_peq rfl rfl rfl) ?_ | refine s_v (r_pne rfl rfl rfl) ?_ | refine s_v (r_min rfl rfl) ?_ | refine s_v (r_max rfl rfl) ?_ | refine s_v (r_bd rfl) ?_ | refine s_v (r_pt rfl rfl) ?_ | refine s_v (r_pf rfl rfl) ?_))
    have g1 := n1.ge
    refine ret_1 rfl rfl ⟨a', c', rfl, Rs_own own3, n1.kp.trans k2 (fun k hk e => ?_)⟩
    simp only [Value.ownBlock, Option.some.injEq] at e
    omega
def cstep (out : List (Int × Int)) (s : Int × Int) : List (Int × Int) :=
  if s.2 ≤ s.1 then out else match out.getLast? with
    | some q => if s.1 ≤ q.2 then out.dropLast ++ [(q.1, max q.2 s.2)] else out ++ [s]
    | none => out ++ [s]
/-- The cover of spans that rise. -/
def cv (xs : List (Int × Int)) : List (Int × Int) := xs.foldl cstep []
theorem cv_len (xs : List (Int × Int)) : (cv xs).length ≤ xs.length := by
  have key : ∀ (ys out : List (Int × Int)), (ys.foldl cstep out).length ≤ out.length + ys.length := by
    intro ys
    induction ys with
    | nil => intro out; exact Nat.le_refl _
    | cons y ys ih =>
      intro out
      rw [List.foldl_cons, List.length_cons]
      have h1 := ih (cstep out y)
      have h2 : (cstep out y).length ≤ out.length + 1 := by
        rw [cstep]
        split
        · omega
        · split
          · rename_i q hq
            have : out ≠ [] := fun e => by rw [e] at hq; cases hq
            have := List.length_pos_iff.2 this
            split
            · rw [List.length_append, List.length_dropLast]; simp only [List.length_cons, List.length_nil]; omega
            · rw [List.length_append]; simp
          · rw [List.length_append]; simp
      omega
  have := key xs []
  simpa [cv] using this
set_option maxHeartbeats 2000000 in
theorem Cover (xs : List (Int × Int)) (a : Option Addr) (cap : Nat) (w : World) (h : Rs w a xs) (hu : up xs) (hl : xs.length ≤ 12) (hcap : xs.length ≤ cap) :
    Ret Try.prog 8 [.slice a xs.length cap] w fun v w1 => ∃ a' c', v = .slice a' (cv xs).length c' ∧ (∃ base, w.heap.size ≤ base ∧ base ≤ w1.heap.size ∧ w1.ownsRow base 26 2 v (cv xs).length (fl (cv xs))) ∧ Kp No w w1 := by
  refine ret_enter Try.func8 rfl Try.ntmps8 rfl ?_
  (repeat (first | refine k_nil ?_ | refine k_n ?_ | refine k_r ?_ | refine k_x ?_ | refine b_n ?_ | refine b_r ?_ | refine b_y rfl ?_ | refine b_z rfl ?_ | refine l_r ?_ | refine l_x ?_ | refine k_seq ?_ | refine k_blk ?_ | refine k_reg ?_ | refine k_ret ?_ | refine k_exit ?_ | refine k_skip ?_ | refine s_v (r_mv rfl) ?_ | refine s_v (r_as rfl) ?_ | refine s_v (r_add rfl rfl (by omega)) ?_ | refine s_v (r_sub rfl rfl (by omega)) ?_ | refine s_v (r_mul rfl rfl (by omega)) ?_ | refine s_v (r_bin rfl) ?_ | refine s_v (r_fa rfl rfl) ?_ | refine s_v (r_ld rfl rfl (by first | assumption | exact cell_of_blk (by assumption) (by rfl))) ?_ | refine s_v (r_nc rfl) ?_ | refine s_v (r_not rfl) ?_ | refine s_v (r_mf rfl rfl) ?_ | refine s_v (r_len rfl) ?_ | refine s_v (r_ex rfl) ?_ | refine s_v (r_fd rfl) ?_ | refine s_v (r_rem rfl rfl (by omega) (by omega)) ?_ | refine s_v (r_cvi rfl rfl rfl (wrap_in (by omega))) ?_ | refine s_v (r_cv rfl) ?_ | refine s_v (r_peq rfl rfl rfl) ?_ | refine s_v (r_pne rfl rfl rfl) ?_ | refine s_v (r_min rfl rfl) ?_ | refine s_v (r_max rfl rfl) ?_ | refine s_v (r_bd rfl) ?_ | refine s_v (r_pt rfl rfl) ?_ | refine s_v (r_pf rfl rfl) ?_))
  refine s_call (us := []) (zs := []) (by kernel_rfl) rfl rfl (CloneS xs a cap w h (by omega) hcap) ?_
  rintro _ w1 ⟨a1, c1, rfl, h1, k1⟩
  (repeat (first | refine k_nil ?_ | refine k_n ?_ | refine k_r ?_ | refine k_x ?_ | refine b_n ?_ | refine b_r ?_ | refine b_y rfl ?_ | refine b_z rfl ?_ | refine l_r ?_ | refine l_x ?_ | refine k_seq ?_ | refine k_blk ?_ | refine k_reg ?_ | refine k_ret ?_ | refine k_exit ?_ | refine k_skip ?_ | refine s_v (r_mv rfl) ?_ | refine s_v (r_as rfl) ?_ | refine s_v (r_add rfl rfl (by omega)) ?_ | refine s_v (r_sub rfl rfl (by omega)) ?_ | refine s_v (r_mul rfl rfl (by omega)) ?_ | refine s_v (r_bin rfl) ?_ | refine s_v (r_fa rfl rfl) ?_ | refine s_v (r_ld rfl rfl (by first | assumption | exact cell_of_blk (by assumption) (by rfl))) ?_ | refine s_v (r_nc rfl) ?_ | refine s_v (r_not rfl) ?_ | refine s_v (r_mf rfl rfl) ?_ | refine s_v (r_len rfl) ?_ | refine s_v (r_ex rfl) ?_ | refine s_v (r_fd rfl) ?_ | refine s_v (r_rem rfl rfl (by omega) (by omega)) ?_ | refine s_v (r_cvi rfl rfl rfl (wrap_in (by omega))) ?_ | refine s_v (r_cv rfl) ?_ | refine s_v (r_peq rfl rfl rfl) ?_ | refine s_v (r_pne rfl rfl rfl) ?_ | refine s_v (r_min rfl rfl) ?_ | refine s_v (r_max rfl rfl) ?_ | refine s_v (r_bd rfl) ?_ | refine s_v (r_pt rfl rfl) ?_ | refine s_v (r_pf rfl rfl) ?_))
  refine s_call (us := []) (zs := []) (by kernel_rfl) rfl rfl (sortF a1 xs c1 w1 h1 hu hl) ?_
  rintro _ w2 ⟨rfl, k2⟩
  have h2 := h1.kp0 k2
  have k12 := k1.no k2
  (repeat (first | refine k_nil ?_ | refine k_n ?_ | refine k_r ?_ | refine k_x ?_ | refine b_n ?_ | refine b_r ?_ | refine b_y rfl ?_ | refine b_z rfl ?_ | refine l_r ?_ | refine l_x ?_ | refine k_seq ?_ | refine k_blk ?_ | refine k_reg ?_ | refine k_ret ?_ | refine k_exit ?_ | refine k_skip ?_ | refine s_v (r_mv rfl) ?_ | refine s_v (r_as rfl) ?_ | refine s_v (r_add rfl rfl (by omega)) ?_ | refine s_v (r_sub rfl rfl (by omega)) ?_ | refine s_v (r_mul rfl rfl (by omega)) ?_ | refine s_v (r_bin rfl) ?_ | refine s_v (r_fa rfl rfl) ?_ | refine s_v (r_ld rfl rfl (by first | assumption | exact cell_of_blk (by assumption) (by rfl))) ?_ | refine s_v (r_nc rfl) ?_ | refine s_v (r_not rfl) ?_ | refine s_v (r_mf rfl rfl) ?_ | refine s_v (r_len rfl) ?_ | refine s_v (r_ex rfl) ?_ | refine s_v (r_fd rfl) ?_ | refine s_v (r_rem rfl rfl (by omega) (by omega)) ?_ | refine s_v (r_cvi rfl rfl rfl (wrap_in (by omega))) ?_ | refine s_v (r_cv rfl) ?_ | refine s_v (r_peq rfl rfl rfl) ?_ | refine s_v (r_pne rfl rfl rfl) ?_ | refine s_v (r_min rfl rfl) ?_ | refine s_v (r_max rfl rfl) ?_ | refine s_v (r_bd rfl) ?_ | refine s_v (r_pt rfl rfl) ?_ | refine s_v (r_pf rfl rfl) ?_))
  refine k_cutb (σ := Option Addr × Nat) (fun t => [(3, .slice t.1 (cv xs).length t.2)]) (fun t m => m.ownsRow w2.heap.size 26 2 (.slice t.1 (cv xs).length t.2) (cv xs).length (fl (cv xs)) ∧ Kp No w2 m) ?_ ?_
  · refine k_loop (σ := Nat × Option Addr × Nat) (fun t => [(3, .slice t.2.1 (cv (xs.take t.1)).length t.2.2), (11, .slice a1 xs.length c1), (12, .int .i64 xs.length), (13, .int .i64 t.1)])
      (fun t m => t.1 ≤ xs.length ∧ m.ownsRow w2.heap.size 26 2 (.slice t.2.1 (cv (xs.take t.1)).length t.2.2) (cv (xs.take t.1)).length (fl (cv (xs.take t.1))) ∧ Kp No w2 m) (fun t => xs.length - t.1) (0, none, 0) ⟨rfl, rfl, rfl, rfl, trivial⟩ ⟨Nat.zero_le _, World.ownsRow_nil w2 _ _ _, Kp.refl _ _⟩ ?_
    rintro ⟨i, a3, c3⟩ l m ⟨hi, own, km⟩
    simp only at hi own
    try dsimp only
    have hcl := cv_len (xs.take i)
    rw [List.length_take] at hcl
    have zm := km.size
    have hm := h2.kp0 km
    have z12 := k12.size
    (repeat (first | refine k_nil ?_ | refine k_n ?_ | refine k_r ?_ | refine k_x ?_ | refine b_n ?_ | refine b_r ?_ | refine b_y rfl ?_ | refine b_z rfl ?_ | refine l_r ?_ | refine l_x ?_ | refine k_seq ?_ | refine k_blk ?_ | refine k_reg ?_ | refine k_ret ?_ | refine k_exit ?_ | refine k_skip ?_ | refine s_v (r_mv rfl) ?_ | refine s_v (r_as rfl) ?_ | refine s_v (r_add rfl rfl (by omega)) ?_ | refine s_v (r_sub rfl rfl (by omega)) ?_ | refine s_v (r_mul rfl rfl (by omega)) ?_ | refine s_v (r_bin rfl) ?_ | refine s_v (r_fa rfl rfl) ?_ | refine s_v (r_ld rfl rfl (by first | assumption | exact cell_of_blk (by assumption) (by rfl))) ?_ | refine s_v (r_nc rfl) ?_ | refine s_v (r_not rfl) ?_ | refine s_v (r_mf rfl rfl) ?_ | refine s_v (r_len rfl) ?_ | refine s_v (r_ex rfl) ?_ | refine s_v (r_fd rfl) ?_ | refine s_v (r_rem rfl rfl (by omega) (by omega)) ?_ | refine s_v (r_cvi rfl rfl rfl (wrap_in (by omega))) ?_ | refine s_v (r_cv rfl) ?_ | refine s_v (r_peq rfl rfl rfl) ?_ | refine s_v (r_pne rfl rfl rfl) ?_ | refine s_v (r_min rfl rfl) ?_ | refine s_v (r_max rfl rfl) ?_ | refine s_v (r_bd rfl) ?_ | refine s_v (r_pt rfl rfl) ?_ | refine s_v (r_pf rfl rfl) ?_))
    refine c_dec rfl (fun hlt => ?_) (fun hge => ?_)
    · obtain ⟨s, hs⟩ : ∃ s, xs[i]? = some s := ⟨_, List.getElem?_eq_getElem (by omega)⟩
      have hcs : cv (xs.take (i + 1)) = cstep (cv (xs.take i)) s := by
        rw [show xs.take (i + 1) = xs.take i ++ [s] from by rw [List.take_add_one, hs]; rfl, cv, List.foldl_append]; rfl
      obtain ⟨b, o, rfl, hb, hcell⟩ := hm.at hs
      obtain ⟨out, hout⟩ : ∃ out, cv (xs.take i) = out := ⟨_, rfl⟩
      rw [hout] at own hcl hcs ⊢
      have hlt' : ∀ g, (Value.slice a3 out.length c3).ownBlock = some g → w2.heap.size ≤ g ∧ g < m.heap.size := fun g hg => own_lt own hg
      (repeat (first | refine k_nil ?_ | refine k_n ?_ | refine k_r ?_ | refine k_x ?_ | refine b_n ?_ | refine b_r ?_ | refine b_y rfl ?_ | refine b_z rfl ?_ | refine l_r ?_ | refine l_x ?_ | refine k_seq ?_ | refine k_blk ?_ | refine k_reg ?_ | refine k_ret ?_ | refine k_exit ?_ | refine k_skip ?_ | refine s_v (r_mv rfl) ?_ | refine s_v (r_as rfl) ?_ | refine s_v (r_add rfl rfl (by omega)) ?_ | refine s_v (r_sub rfl rfl (by omega)) ?_ | refine s_v (r_mul rfl rfl (by omega)) ?_ | refine s_v (r_bin rfl) ?_ | refine s_v (r_fa rfl rfl) ?_ | refine s_v (r_ld rfl rfl (by first | assumption | exact cell_of_blk (by assumption) (by rfl))) ?_ | refine s_v (r_nc rfl) ?_ | refine s_v (r_not rfl) ?_ | refine s_v (r_mf rfl rfl) ?_ | refine s_v (r_len rfl) ?_ | refine s_v (r_ex rfl) ?_ | refine s_v (r_fd rfl) ?_ | refine s_v (r_rem rfl rfl (by omega) (by omega)) ?_ | refine s_v (r_cvi rfl rfl rfl (wrap_in (by omega))) ?_ | refine s_v (r_cv rfl) ?_ | refine s_v (r_peq rfl rfl rfl) ?_ | refine s_v (r_pne rfl rfl rfl) ?_ | refine s_v (r_min rfl rfl) ?_ | refine s_v (r_max rfl rfl) ?_ | refine s_v (r_bd rfl) ?_ | refine s_v (r_pt rfl rfl) ?_ | refine s_v (r_pf rfl rfl) ?_))
      refine s_v (r_ia rfl rfl rfl rfl (by omega) (by omega)) ?_
      refine s_v (r_lda (vs := [.int .i64 s.1, .int .i64 s.2]) rfl rfl rfl rfl hcell) ?_
      refine s_al rfl (fun b5 m1 n1 => ?_)
      have g5 := n1.ge
      have y5 := n1.lt
      refine s_st rfl rfl rfl rfl rfl n1.blk (Nat.le_of_ble_eq_true rfl) (fun m2 s2 => ?_)
      have k2 : Kp No m m2 := n1.kp.trans s2.kp (fun _ _ e => by omega)
      have e5 := s2.blk
      have own2 := own_kp own k2 (fun _ _ => id)
      have zm2 := k2.size
      have km2 := km.no k2
      (repeat (first | refine k_nil ?_ | refine k_n ?_ | refine k_r ?_ | refine k_x ?_ | refine b_n ?_ | refine b_r ?_ | refine b_y rfl ?_ | refine b_z rfl ?_ | refine l_r ?_ | refine l_x ?_ | refine k_seq ?_ | refine k_blk ?_ | refine k_reg ?_ | refine k_ret ?_ | refine k_exit ?_ | refine k_skip ?_ | refine s_v (r_mv rfl) ?_ | refine s_v (r_as rfl) ?_ | refine s_v (r_add rfl rfl (by omega)) ?_ | refine s_v (r_sub rfl rfl (by omega)) ?_ | refine s_v (r_mul rfl rfl (by omega)) ?_ | refine s_v (r_bin rfl) ?_ | refine s_v (r_fa rfl rfl) ?_ | refine s_v (r_ld rfl rfl (by first | assumption | exact cell_of_blk (by assumption) (by rfl))) ?_ | refine s_v (r_nc rfl) ?_ | refine s_v (r_not rfl) ?_ | refine s_v (r_mf rfl rfl) ?_ | refine s_v (r_len rfl) ?_ | refine s_v (r_ex rfl) ?_ | refine s_v (r_fd rfl) ?_ | refine s_v (r_rem rfl rfl (by omega) (by omega)) ?_ | refine s_v (r_cvi rfl rfl rfl (wrap_in (by omega))) ?_ | refine s_v (r_cv rfl) ?_ | refine s_v (r_peq rfl rfl rfl) ?_ | refine s_v (r_pne rfl rfl rfl) ?_ | refine s_v (r_min rfl rfl) ?_ | refine s_v (r_max rfl rfl) ?_ | refine s_v (r_bd rfl) ?_ | refine s_v (r_pt rfl rfl) ?_ | refine s_v (r_pf rfl rfl) ?_))
      refine c_dec rfl (fun hA => ?_) (fun hA => ?_)
      · have e : cv (xs.take (i + 1)) = out := by rw [hcs, cstep, if_pos hA]
        (repeat (first | refine k_nil ?_ | refine k_n ?_ | refine k_r ?_ | refine k_x ?_ | refine b_n ?_ | refine b_r ?_ | refine b_y rfl ?_ | refine b_z rfl ?_ | refine l_r ?_ | refine l_x ?_ | refine k_seq ?_ | refine k_blk ?_ | refine k_reg ?_ | refine k_ret ?_ | refine k_exit ?_ | refine k_skip ?_ | refine s_v (r_mv rfl) ?_ | refine s_v (r_as rfl) ?_ | refine s_v (r_add rfl rfl (by omega)) ?_ | refine s_v (r_sub rfl rfl (by omega)) ?_ | refine s_v (r_mul rfl rfl (by omega)) ?_ | refine s_v (r_bin rfl) ?_ | refine s_v (r_fa rfl rfl) ?_ | refine s_v (r_ld rfl rfl (by first | assumption | exact cell_of_blk (by assumption) (by rfl))) ?_ | refine s_v (r_nc rfl) ?_ | refine s_v (r_not rfl) ?_ | refine s_v (r_mf rfl rfl) ?_ | refine s_v (r_len rfl) ?_ | refine s_v (r_ex rfl) ?_ | refine s_v (r_fd rfl) ?_ | refine s_v (r_rem rfl rfl (by omega) (by omega)) ?_ | refine s_v (r_cvi rfl rfl rfl (wrap_in (by omega))) ?_ | refine s_v (r_cv rfl) ?_ | refine s_v (r_peq rfl rfl rfl) ?_ | refine s_v (r_pne rfl rfl rfl) ?_ | refine s_v (r_min rfl rfl) ?_ | refine s_v (r_max rfl rfl) ?_ | refine s_v (r_bd rfl) ?_ | refine s_v (r_pt rfl rfl) ?_ | refine s_v (r_pf rfl rfl) ?_))
        exact l_next (i + 1, a3, c3) ⟨by rw [e]; rfl, rfl, rfl, rfl, trivial⟩ ⟨by show i + 1 ≤ xs.length; omega, by simp only; rw [e]; exact own2, km2⟩ (by show xs.length - (i + 1) < xs.length - i; omega)
      (repeat (first | refine k_nil ?_ | refine k_n ?_ | refine k_r ?_ | refine k_x ?_ | refine b_n ?_ | refine b_r ?_ | refine b_y rfl ?_ | refine b_z rfl ?_ | refine l_r ?_ | refine l_x ?_ | refine k_seq ?_ | refine k_blk ?_ | refine k_reg ?_ | refine k_ret ?_ | refine k_exit ?_ | refine k_skip ?_ | refine s_v (r_mv rfl) ?_ | refine s_v (r_as rfl) ?_ | refine s_v (r_add rfl rfl (by omega)) ?_ | refine s_v (r_sub rfl rfl (by omega)) ?_ | refine s_v (r_mul rfl rfl (by omega)) ?_ | refine s_v (r_bin rfl) ?_ | refine s_v (r_fa rfl rfl) ?_ | refine s_v (r_ld rfl rfl (by first | assumption | exact cell_of_blk (by assumption) (by rfl))) ?_ | refine s_v (r_nc rfl) ?_ | refine s_v (r_not rfl) ?_ | refine s_v (r_mf rfl rfl) ?_ | refine s_v (r_len rfl) ?_ | refine s_v (r_ex rfl) ?_ | refine s_v (r_fd rfl) ?_ | refine s_v (r_rem rfl rfl (by omega) (by omega)) ?_ | refine s_v (r_cvi rfl rfl rfl (wrap_in (by omega))) ?_ | refine s_v (r_cv rfl) ?_ | refine s_v (r_peq rfl rfl rfl) ?_ | refine s_v (r_pne rfl rfl rfl) ?_ | refine s_v (r_min rfl rfl) ?_ | refine s_v (r_max rfl rfl) ?_ | refine s_v (r_bd rfl) ?_ | refine s_v (r_pt rfl rfl) ?_ | refine s_v (r_pf rfl rfl) ?_))
      rcases List.eq_nil_or_concat out with hnil | ⟨pre, q, hpre⟩
      · have hol : out.length = 0 := by rw [hnil]; rfl
        refine k_q (by kernel_rfl) (by kernel_rfl) ?_
        (repeat (first | refine q_v (fun w' hw => r_mv rfl) ?_ | refine q_v (fun w' hw => r_as rfl) ?_ | refine q_v (fun w' hw => r_add rfl rfl (by omega)) ?_ | refine q_v (fun w' hw => r_sub rfl rfl (by omega)) ?_ | refine q_v (fun w' hw => r_mul rfl rfl (by omega)) ?_ | refine q_v (fun w' hw => r_bin rfl) ?_ | refine q_v (fun w' hw => r_fa rfl rfl) ?_ | refine q_v (fun w' hw => r_ld rfl rfl (by first | exact hw.cell0 (by assumption) | exact cell_of_blk (hw.get0 (by assumption)) (by rfl))) ?_ | refine q_v (fun w' hw => r_nc rfl) ?_ | refine q_v (fun w' hw => r_not rfl) ?_ | refine q_v (fun w' hw => r_len rfl) ?_ | refine q_v (fun w' hw => r_ex rfl) ?_ | refine q_v (fun w' hw => r_fd rfl) ?_ | refine q_v (fun w' hw => r_cvi rfl rfl rfl (wrap_in (by omega))) ?_ | refine q_v (fun w' hw => r_cv rfl) ?_ | refine q_v (fun w' hw => r_min rfl rfl) ?_ | refine q_v (fun w' hw => r_max rfl rfl) ?_ | refine q_v (fun w' hw => r_bd rfl) ?_ | refine q_v (fun w' hw => r_pt rfl rfl) ?_ | refine q_v (fun w' hw => r_pf rfl rfl) ?_ | refine q_v (fun w' hw => r_ia rfl rfl rfl rfl (by omega) (by omega)) ?_ | refine q_gn rfl rfl ?_ | refine q_gu rfl ?_ | refine q_gv rfl (fun w' hw => r_mv rfl) ?_ | refine q_gv rfl (fun w' hw => r_as rfl) ?_ | refine q_gv rfl (fun w' hw => r_add rfl rfl (by omega)) ?_ | refine q_gv rfl (fun w' hw => r_sub rfl rfl (by omega)) ?_ | refine q_gv rfl (fun w' hw => r_mul rfl rfl (by omega)) ?_ | refine q_gv rfl (fun w' hw => r_bin rfl) ?_ | refine q_gv rfl (fun w' hw => r_fa rfl rfl) ?_ | refine q_gv rfl (fun w' hw => r_ld rfl rfl (by first | exact hw.cell0 (by assumption) | exact cell_of_blk (hw.get0 (by assumption)) (by rfl))) ?_ | refine q_gv rfl (fun w' hw => r_nc rfl) ?_ | refine q_gv rfl (fun w' hw => r_not rfl) ?_ | refine q_gv rfl (fun w' hw => r_len rfl) ?_ | refine q_gv rfl (fun w' hw => r_ex rfl) ?_ | refine q_gv rfl (fun w' hw => r_fd rfl) ?_ | refine q_gv rfl (fun w' hw => r_cvi rfl rfl rfl (wrap_in (by omega))) ?_ | refine q_gv rfl (fun w' hw => r_cv rfl) ?_ | refine q_gv rfl (fun w' hw => r_min rfl rfl) ?_ | refine q_gv rfl (fun w' hw => r_max rfl rfl) ?_ | refine q_gv rfl (fun w' hw => r_bd rfl) ?_ | refine q_gv rfl (fun w' hw => r_pt rfl rfl) ?_ | refine q_gv rfl (fun w' hw => r_pf rfl rfl) ?_ | refine q_gv rfl (fun w' hw => r_ia rfl rfl rfl rfl (by omega) (by omega)) ?_))
        refine q_set 32 false rfl (decide_eq_false (by omega)) ?_
        (repeat (first | refine q_v (fun w' hw => r_mv rfl) ?_ | refine q_v (fun w' hw => r_as rfl) ?_ | refine q_v (fun w' hw => r_add rfl rfl (by omega)) ?_ | refine q_v (fun w' hw => r_sub rfl rfl (by omega)) ?_ | refine q_v (fun w' hw => r_mul rfl rfl (by omega)) ?_ | refine q_v (fun w' hw => r_bin rfl) ?_ | refine q_v (fun w' hw => r_fa rfl rfl) ?_ | refine q_v (fun w' hw => r_ld rfl rfl (by first | exact hw.cell0 (by assumption) | exact cell_of_blk (hw.get0 (by assumption)) (by rfl))) ?_ | refine q_v (fun w' hw => r_nc rfl) ?_ | refine q_v (fun w' hw => r_not rfl) ?_ | refine q_v (fun w' hw => r_len rfl) ?_ | refine q_v (fun w' hw => r_ex rfl) ?_ | refine q_v (fun w' hw => r_fd rfl) ?_ | refine q_v (fun w' hw => r_cvi rfl rfl rfl (wrap_in (by omega))) ?_ | refine q_v (fun w' hw => r_cv rfl) ?_ | refine q_v (fun w' hw => r_min rfl rfl) ?_ | refine q_v (fun w' hw => r_max rfl rfl) ?_ | refine q_v (fun w' hw => r_bd rfl) ?_ | refine q_v (fun w' hw => r_pt rfl rfl) ?_ | refine q_v (fun w' hw => r_pf rfl rfl) ?_ | refine q_v (fun w' hw => r_ia rfl rfl rfl rfl (by omega) (by omega)) ?_ | refine q_gn rfl rfl ?_ | refine q_gu rfl ?_ | refine q_gv rfl (fun w' hw => r_mv rfl) ?_ | refine q_gv rfl (fun w' hw => r_as rfl) ?_ | refine q_gv rfl (fun w' hw => r_add rfl rfl (by omega)) ?_ | refine q_gv rfl (fun w' hw => r_sub rfl rfl (by omega)) ?_ | refine q_gv rfl (fun w' hw => r_mul rfl rfl (by omega)) ?_ | refine q_gv rfl (fun w' hw => r_bin rfl) ?_ | refine q_gv rfl (fun w' hw => r_fa rfl rfl) ?_ | refine q_gv rfl (fun w' hw => r_ld rfl rfl (by first | exact hw.cell0 (by assumption) | exact cell_of_blk (hw.get0 (by assumption)) (by rfl))) ?_ | refine q_gv rfl (fun w' hw => r_nc rfl) ?_ | refine q_gv rfl (fun w' hw => r_not rfl) ?_ | refine q_gv rfl (fun w' hw => r_len rfl) ?_ | refine q_gv rfl (fun w' hw => r_ex rfl) ?_ | refine q_gv rfl (fun w' hw => r_fd rfl) ?_ | refine q_gv rfl (fun w' hw => r_cvi rfl rfl rfl (wrap_in (by omega))) ?_ | refine q_gv rfl (fun w' hw => r_cv rfl) ?_ | refine q_gv rfl (fun w' hw => r_min rfl rfl) ?_ | refine q_gv rfl (fun w' hw => r_max rfl rfl) ?_ | refine q_gv rfl (fun w' hw => r_bd rfl) ?_ | refine q_gv rfl (fun w' hw => r_pt rfl rfl) ?_ | refine q_gv rfl (fun w' hw => r_pf rfl rfl) ?_ | refine q_gv rfl (fun w' hw => r_ia rfl rfl rfl rfl (by omega) (by omega)) ?_))
        refine q_nil (fun m3 kq => ?_)
        (repeat (first | refine k_nil ?_ | refine k_n ?_ | refine k_r ?_ | refine k_x ?_ | refine b_n ?_ | refine b_r ?_ | refine b_y rfl ?_ | refine b_z rfl ?_ | refine l_r ?_ | refine l_x ?_ | refine k_seq ?_ | refine k_blk ?_ | refine k_reg ?_ | refine k_ret ?_ | refine k_exit ?_ | refine k_skip ?_ | refine s_v (r_mv rfl) ?_ | refine s_v (r_as rfl) ?_ | refine s_v (r_add rfl rfl (by omega)) ?_ | refine s_v (r_sub rfl rfl (by omega)) ?_ | refine s_v (r_mul rfl rfl (by omega)) ?_ | refine s_v (r_bin rfl) ?_ | refine s_v (r_fa rfl rfl) ?_ | refine s_v (r_ld rfl rfl (by first | assumption | exact cell_of_blk (by assumption) (by rfl))) ?_ | refine s_v (r_nc rfl) ?_ | refine s_v (r_not rfl) ?_ | refine s_v (r_mf rfl rfl) ?_ | refine s_v (r_len rfl) ?_ | refine s_v (r_ex rfl) ?_ | refine s_v (r_fd rfl) ?_ | refine s_v (r_rem rfl rfl (by omega) (by omega)) ?_ | refine s_v (r_cvi rfl rfl rfl (wrap_in (by omega))) ?_ | refine s_v (r_cv rfl) ?_ | refine s_v (r_peq rfl rfl rfl) ?_ | refine s_v (r_pne rfl rfl rfl) ?_ | refine s_v (r_min rfl rfl) ?_ | refine s_v (r_max rfl rfl) ?_ | refine s_v (r_bd rfl) ?_ | refine s_v (r_pt rfl rfl) ?_ | refine s_v (r_pf rfl rfl) ?_))
        refine c_f rfl ?_
        (repeat (first | refine k_nil ?_ | refine k_n ?_ | refine k_r ?_ | refine k_x ?_ | refine b_n ?_ | refine b_r ?_ | refine b_y rfl ?_ | refine b_z rfl ?_ | refine l_r ?_ | refine l_x ?_ | refine k_seq ?_ | refine k_blk ?_ | refine k_reg ?_ | refine k_ret ?_ | refine k_exit ?_ | refine k_skip ?_ | refine s_v (r_mv rfl) ?_ | refine s_v (r_as rfl) ?_ | refine s_v (r_add rfl rfl (by omega)) ?_ | refine s_v (r_sub rfl rfl (by omega)) ?_ | refine s_v (r_mul rfl rfl (by omega)) ?_ | refine s_v (r_bin rfl) ?_ | refine s_v (r_fa rfl rfl) ?_ | refine s_v (r_ld rfl rfl (by first | assumption | exact cell_of_blk (by assumption) (by rfl))) ?_ | refine s_v (r_nc rfl) ?_ | refine s_v (r_not rfl) ?_ | refine s_v (r_mf rfl rfl) ?_ | refine s_v (r_len rfl) ?_ | refine s_v (r_ex rfl) ?_ | refine s_v (r_fd rfl) ?_ | refine s_v (r_rem rfl rfl (by omega) (by omega)) ?_ | refine s_v (r_cvi rfl rfl rfl (wrap_in (by omega))) ?_ | refine s_v (r_cv rfl) ?_ | refine s_v (r_peq rfl rfl rfl) ?_ | refine s_v (r_pne rfl rfl rfl) ?_ | refine s_v (r_min rfl rfl) ?_ | refine s_v (r_max rfl rfl) ?_ | refine s_v (r_bd rfl) ?_ | refine s_v (r_pt rfl rfl) ?_ | refine s_v (r_pf rfl rfl) ?_))
        refine s_v (r_ldb (vs := [.int .i64 s.1, .int .i64 s.2]) rfl rfl rfl (kq.get0 e5) rfl rfl) ?_
        refine s_bs (cs := [.int .i64 s.1, .int .i64 s.2]) (e := 26) rfl (fun b6 m4 n6 => ?_)
        have g6 := n6.ge
        have zq := kq.size
        have z6 := n6.kp.size
        obtain ⟨v, m5, hr, own5, k5, _, hrow⟩ := run_app (P := Try.prog) (ty := 27) (w := m4) (base := w2.heap.size) (k := out.length) (xs := fl out) (c := 1) (ad := ⟨b6, 0, none⟩) (m := 1) (news := [.int .i64 s.1, .int .i64 s.2]) (size := 2) (bytes := 16) Try.underlying27 rfl rfl rfl rfl rfl rfl (own_kp (own_kp own2 kq (fun _ _ => id)) n6.kp (fun _ _ => id)) (fun j u hj => by
          rw [addr_add]
          exact blk_cells n6.blk j u hj) rfl rfl (by omega) (by omega) (by omega)
        refine s_go (r_app (e := 26) rfl rfl hr) ?_
        have e : cv (xs.take (i + 1)) = out ++ [s] := by rw [hcs, cstep, if_neg hA, show out.getLast? = none from by rw [hnil]; rfl]
        have e2 : fl (out ++ [s]) = fl out ++ [.int .i64 s.1, .int .i64 s.2] := by rw [fl_app]; rfl
        have e3 : (out ++ [s]).length = out.length + 1 := by simp
        have own6 := own5
        obtain ⟨a6, c6, rfl, hc6, _, _⟩ := own_read own5
        have k25 : Kp No w2 m5 := (km2.no (kq.no n6.kp)).trans k5 (fun q hq hqe => by
          have := hlt' q hqe.symm; omega)
        (repeat (first | refine k_nil ?_ | refine k_n ?_ | refine k_r ?_ | refine k_x ?_ | refine b_n ?_ | refine b_r ?_ | refine b_y rfl ?_ | refine b_z rfl ?_ | refine l_r ?_ | refine l_x ?_ | refine k_seq ?_ | refine k_blk ?_ | refine k_reg ?_ | refine k_ret ?_ | refine k_exit ?_ | refine k_skip ?_ | refine s_v (r_mv rfl) ?_ | refine s_v (r_as rfl) ?_ | refine s_v (r_add rfl rfl (by omega)) ?_ | refine s_v (r_sub rfl rfl (by omega)) ?_ | refine s_v (r_mul rfl rfl (by omega)) ?_ | refine s_v (r_bin rfl) ?_ | refine s_v (r_fa rfl rfl) ?_ | refine s_v (r_ld rfl rfl (by first | assumption | exact cell_of_blk (by assumption) (by rfl))) ?_ | refine s_v (r_nc rfl) ?_ | refine s_v (r_not rfl) ?_ | refine s_v (r_mf rfl rfl) ?_ | refine s_v (r_len rfl) ?_ | refine s_v (r_ex rfl) ?_ | refine s_v (r_fd rfl) ?_ | refine s_v (r_rem rfl rfl (by omega) (by omega)) ?_ | refine s_v (r_cvi rfl rfl rfl (wrap_in (by omega))) ?_ | refine s_v (r_cv rfl) ?_ | refine s_v (r_peq rfl rfl rfl) ?_ | refine s_v (r_pne rfl rfl rfl) ?_ | refine s_v (r_min rfl rfl) ?_ | refine s_v (r_max rfl rfl) ?_ | refine s_v (r_bd rfl) ?_ | refine s_v (r_pt rfl rfl) ?_ | refine s_v (r_pf rfl rfl) ?_))
        exact l_next (i + 1, a6, c6) ⟨by rw [e, e3]; rfl, rfl, rfl, rfl, trivial⟩ ⟨by show i + 1 ≤ xs.length; omega, by simp only; rw [e, e2, e3]; exact own6, k25⟩ (by show xs.length - (i + 1) < xs.length - i; omega)
      · rw [List.concat_eq_append] at hpre
        have hol : out.length = pre.length + 1 := by rw [hpre]; simp
        have hq : out[pre.length]? = some q := by rw [hpre]; simp
        have hlast : out.getLast? = some q := by rw [hpre]; simp
        have hfq := fl_get out pre.length q hq
        have hkk : pre.length * 2 + 1 < (fl out).length := by rw [fl_len]; omega
        obtain ⟨g, rfl, hg⟩ : ∃ g, a3 = some ⟨g, 0, none⟩ ∧ w2.heap.size ≤ g := by
          obtain ⟨g, cur, h1, h2, _⟩ := own_put own2 hkk
          exact ⟨g, h1, h2⟩
        have hcq : m2.cell? ⟨g, 0 + ((out.length : Int) - 1).toNat * 2 + 1, none⟩ = some (.int .i64 q.2) := by
          obtain ⟨_, _, e1, _, _, hr⟩ := own_read own2
          cases e1
          obtain ⟨_, e2, _, _, hr⟩ := hr _ rfl
          cases e2
          have := hr _ _ hfq.2
          rw [show ((out.length : Int) - 1).toNat = pre.length from by omega, Nat.add_assoc]
          exact this
        refine k_q (by kernel_rfl) (by kernel_rfl) ?_
        (repeat (first | refine q_v (fun w' hw => r_mv rfl) ?_ | refine q_v (fun w' hw => r_as rfl) ?_ | refine q_v (fun w' hw => r_add rfl rfl (by omega)) ?_ | refine q_v (fun w' hw => r_sub rfl rfl (by omega)) ?_ | refine q_v (fun w' hw => r_mul rfl rfl (by omega)) ?_ | refine q_v (fun w' hw => r_bin rfl) ?_ | refine q_v (fun w' hw => r_fa rfl rfl) ?_ | refine q_v (fun w' hw => r_ld rfl rfl (by first | exact hw.cell0 (by assumption) | exact cell_of_blk (hw.get0 (by assumption)) (by rfl))) ?_ | refine q_v (fun w' hw => r_nc rfl) ?_ | refine q_v (fun w' hw => r_not rfl) ?_ | refine q_v (fun w' hw => r_len rfl) ?_ | refine q_v (fun w' hw => r_ex rfl) ?_ | refine q_v (fun w' hw => r_fd rfl) ?_ | refine q_v (fun w' hw => r_cvi rfl rfl rfl (wrap_in (by omega))) ?_ | refine q_v (fun w' hw => r_cv rfl) ?_ | refine q_v (fun w' hw => r_min rfl rfl) ?_ | refine q_v (fun w' hw => r_max rfl rfl) ?_ | refine q_v (fun w' hw => r_bd rfl) ?_ | refine q_v (fun w' hw => r_pt rfl rfl) ?_ | refine q_v (fun w' hw => r_pf rfl rfl) ?_ | refine q_v (fun w' hw => r_ia rfl rfl rfl rfl (by omega) (by omega)) ?_ | refine q_gn rfl rfl ?_ | refine q_gu rfl ?_ | refine q_gv rfl (fun w' hw => r_mv rfl) ?_ | refine q_gv rfl (fun w' hw => r_as rfl) ?_ | refine q_gv rfl (fun w' hw => r_add rfl rfl (by omega)) ?_ | refine q_gv rfl (fun w' hw => r_sub rfl rfl (by omega)) ?_ | refine q_gv rfl (fun w' hw => r_mul rfl rfl (by omega)) ?_ | refine q_gv rfl (fun w' hw => r_bin rfl) ?_ | refine q_gv rfl (fun w' hw => r_fa rfl rfl) ?_ | refine q_gv rfl (fun w' hw => r_ld rfl rfl (by first | exact hw.cell0 (by assumption) | exact cell_of_blk (hw.get0 (by assumption)) (by rfl))) ?_ | refine q_gv rfl (fun w' hw => r_nc rfl) ?_ | refine q_gv rfl (fun w' hw => r_not rfl) ?_ | refine q_gv rfl (fun w' hw => r_len rfl) ?_ | refine q_gv rfl (fun w' hw => r_ex rfl) ?_ | refine q_gv rfl (fun w' hw => r_fd rfl) ?_ | refine q_gv rfl (fun w' hw => r_cvi rfl rfl rfl (wrap_in (by omega))) ?_ | refine q_gv rfl (fun w' hw => r_cv rfl) ?_ | refine q_gv rfl (fun w' hw => r_min rfl rfl) ?_ | refine q_gv rfl (fun w' hw => r_max rfl rfl) ?_ | refine q_gv rfl (fun w' hw => r_bd rfl) ?_ | refine q_gv rfl (fun w' hw => r_pt rfl rfl) ?_ | refine q_gv rfl (fun w' hw => r_pf rfl rfl) ?_ | refine q_gv rfl (fun w' hw => r_ia rfl rfl rfl rfl (by omega) (by omega)) ?_))
        refine q_set 32 true rfl (decide_eq_true (by omega)) ?_
        (repeat (first | refine q_v (fun w' hw => r_mv rfl) ?_ | refine q_v (fun w' hw => r_as rfl) ?_ | refine q_v (fun w' hw => r_add rfl rfl (by omega)) ?_ | refine q_v (fun w' hw => r_sub rfl rfl (by omega)) ?_ | refine q_v (fun w' hw => r_mul rfl rfl (by omega)) ?_ | refine q_v (fun w' hw => r_bin rfl) ?_ | refine q_v (fun w' hw => r_fa rfl rfl) ?_ | refine q_v (fun w' hw => r_ld rfl rfl (by first | exact hw.cell0 (by assumption) | exact cell_of_blk (hw.get0 (by assumption)) (by rfl))) ?_ | refine q_v (fun w' hw => r_nc rfl) ?_ | refine q_v (fun w' hw => r_not rfl) ?_ | refine q_v (fun w' hw => r_len rfl) ?_ | refine q_v (fun w' hw => r_ex rfl) ?_ | refine q_v (fun w' hw => r_fd rfl) ?_ | refine q_v (fun w' hw => r_cvi rfl rfl rfl (wrap_in (by omega))) ?_ | refine q_v (fun w' hw => r_cv rfl) ?_ | refine q_v (fun w' hw => r_min rfl rfl) ?_ | refine q_v (fun w' hw => r_max rfl rfl) ?_ | refine q_v (fun w' hw => r_bd rfl) ?_ | refine q_v (fun w' hw => r_pt rfl rfl) ?_ | refine q_v (fun w' hw => r_pf rfl rfl) ?_ | refine q_v (fun w' hw => r_ia rfl rfl rfl rfl (by omega) (by omega)) ?_ | refine q_gn rfl rfl ?_ | refine q_gu rfl ?_ | refine q_gv rfl (fun w' hw => r_mv rfl) ?_ | refine q_gv rfl (fun w' hw => r_as rfl) ?_ | refine q_gv rfl (fun w' hw => r_add rfl rfl (by omega)) ?_ | refine q_gv rfl (fun w' hw => r_sub rfl rfl (by omega)) ?_ | refine q_gv rfl (fun w' hw => r_mul rfl rfl (by omega)) ?_ | refine q_gv rfl (fun w' hw => r_bin rfl) ?_ | refine q_gv rfl (fun w' hw => r_fa rfl rfl) ?_ | refine q_gv rfl (fun w' hw => r_ld rfl rfl (by first | exact hw.cell0 (by assumption) | exact cell_of_blk (hw.get0 (by assumption)) (by rfl))) ?_ | refine q_gv rfl (fun w' hw => r_nc rfl) ?_ | refine q_gv rfl (fun w' hw => r_not rfl) ?_ | refine q_gv rfl (fun w' hw => r_len rfl) ?_ | refine q_gv rfl (fun w' hw => r_ex rfl) ?_ | refine q_gv rfl (fun w' hw => r_fd rfl) ?_ | refine q_gv rfl (fun w' hw => r_cvi rfl rfl rfl (wrap_in (by omega))) ?_ | refine q_gv rfl (fun w' hw => r_cv rfl) ?_ | refine q_gv rfl (fun w' hw => r_min rfl rfl) ?_ | refine q_gv rfl (fun w' hw => r_max rfl rfl) ?_ | refine q_gv rfl (fun w' hw => r_bd rfl) ?_ | refine q_gv rfl (fun w' hw => r_pt rfl rfl) ?_ | refine q_gv rfl (fun w' hw => r_pf rfl rfl) ?_ | refine q_gv rfl (fun w' hw => r_ia rfl rfl rfl rfl (by omega) (by omega)) ?_))
        refine q_nil (fun m3 kq => ?_)
        (repeat (first | refine k_nil ?_ | refine k_n ?_ | refine k_r ?_ | refine k_x ?_ | refine b_n ?_ | refine b_r ?_ | refine b_y rfl ?_ | refine b_z rfl ?_ | refine l_r ?_ | refine l_x ?_ | refine k_seq ?_ | refine k_blk ?_ | refine k_reg ?_ | refine k_ret ?_ | refine k_exit ?_ | refine k_skip ?_ | refine s_v (r_mv rfl) ?_ | refine s_v (r_as rfl) ?_ | refine s_v (r_add rfl rfl (by omega)) ?_ | refine s_v (r_sub rfl rfl (by omega)) ?_ | refine s_v (r_mul rfl rfl (by omega)) ?_ | refine s_v (r_bin rfl) ?_ | refine s_v (r_fa rfl rfl) ?_ | refine s_v (r_ld rfl rfl (by first | assumption | exact cell_of_blk (by assumption) (by rfl))) ?_ | refine s_v (r_nc rfl) ?_ | refine s_v (r_not rfl) ?_ | refine s_v (r_mf rfl rfl) ?_ | refine s_v (r_len rfl) ?_ | refine s_v (r_ex rfl) ?_ | refine s_v (r_fd rfl) ?_ | refine s_v (r_rem rfl rfl (by omega) (by omega)) ?_ | refine s_v (r_cvi rfl rfl rfl (wrap_in (by omega))) ?_ | refine s_v (r_cv rfl) ?_ | refine s_v (r_peq rfl rfl rfl) ?_ | refine s_v (r_pne rfl rfl rfl) ?_ | refine s_v (r_min rfl rfl) ?_ | refine s_v (r_max rfl rfl) ?_ | refine s_v (r_bd rfl) ?_ | refine s_v (r_pt rfl rfl) ?_ | refine s_v (r_pf rfl rfl) ?_))
        refine c_dec rfl (fun hB => ?_) (fun hB => ?_)
        · have e : cv (xs.take (i + 1)) = pre ++ [(q.1, max q.2 s.2)] := by rw [hcs, cstep, if_neg hA, hlast]; simp only [if_pos hB]; rw [hpre, List.dropLast_concat]
          have e3 : (pre ++ [(q.1, max q.2 s.2)]).length = out.length := by rw [hol]; simp
          have e4 : (fl out).set (pre.length * 2 + 1) (.int .i64 (max q.2 s.2)) = fl (pre ++ [(q.1, max q.2 s.2)]) := by
            rw [hpre, fl_app, fl_app, List.set_append_right _ _ (by rw [fl_len]; omega), fl_len, show pre.length * 2 + 1 - pre.length * 2 = 1 from by omega]; rfl
          refine k_h (fun w' => Kp No m3 w') [(0, false), (1, false), (2, false), (3, false), (4, false), (5, false), (6, false), (7, false), (8, false), (9, false), (10, false), (11, false), (12, false), (13, false), (14, true)] 14 (by kernel_rfl) (by exact waits_of_last (by kernel_rfl)) (by kernel_rfl) (by kernel_rfl) rfl rfl (fun m4 k4 _ => ?_)
          have hcq3 := kq.cell0 hcq
          have e53 := kq.get0 e5
          obtain ⟨g', cur, he, hg', hgb, hkc, hst⟩ := own_put (own_kp (own_kp own2 kq (fun _ _ => id)) k4 (fun _ _ => id)) hkk
          cases he
          refine h_v k4 (fun w' hw => r_mv rfl) ?_
          refine h_v k4 (fun w' hw => r_mv rfl) ?_
          refine h_v k4 (fun w' hw => r_sub rfl rfl (by omega)) ?_
          refine h_v k4 (fun w' hw => r_mv rfl) ?_
          refine h_v k4 (fun w' hw => r_mv rfl) ?_
          refine h_v k4 (fun w' hw => r_sub rfl rfl (by omega)) ?_
          refine h_v k4 (fun w' hw => r_ia (i := (out.length : Int) - 1) rfl rfl rfl rfl (by omega) (by omega)) ?_
          refine h_v k4 (fun w' hw => r_fa rfl rfl) ?_
          refine h_v k4 (fun w' hw => r_ld rfl rfl (hw.cell0 hcq3)) ?_
          refine h_v k4 (fun w' hw => r_fa rfl rfl) ?_
          refine h_v k4 (fun w' hw => r_ld rfl rfl (cell_of_blk (hw.get0 e53) rfl)) ?_
          refine h_v k4 (fun w' hw => r_max rfl rfl) ?_
          refine h_v k4 (fun w' hw => r_ia (i := (out.length : Int) - 1) rfl rfl rfl rfl (by omega) (by omega)) ?_
          refine h_v k4 (fun w' hw => r_fa rfl rfl) ?_
          have hko : 0 + ((out.length : Int) - 1).toNat * 2 + 1 = pre.length * 2 + 1 := by omega
          refine h_st rfl rfl rfl rfl rfl hgb (by rw [show 0 + ((out.length : Int) - 1).toNat * 2 + 1 = pre.length * 2 + 1 from hko]; exact hkc) (fun m5 s5 => ⟨fun h => absurd rfl h, ?_⟩)
          have s5' : Sb m4 g (cur.set (0 + ((out.length : Int) - 1).toNat * 2 + 1) (.int .i64 (max q.2 s.2))) 26 m5 := s5
          rw [hko] at s5'
          have own5 := hst _ _ s5'
          rw [e4] at own5
          refine h_nil ?_
          have k25 : Kp No w2 m5 := ((km2.no kq).no k4).trans s5'.kp (fun q hq hqe => by omega)
          (repeat (first | refine k_nil ?_ | refine k_n ?_ | refine k_r ?_ | refine k_x ?_ | refine b_n ?_ | refine b_r ?_ | refine b_y rfl ?_ | refine b_z rfl ?_ | refine l_r ?_ | refine l_x ?_ | refine k_seq ?_ | refine k_blk ?_ | refine k_reg ?_ | refine k_ret ?_ | refine k_exit ?_ | refine k_skip ?_ | refine s_v (r_mv rfl) ?_ | refine s_v (r_as rfl) ?_ | refine s_v (r_add rfl rfl (by omega)) ?_ | refine s_v (r_sub rfl rfl (by omega)) ?_ | refine s_v (r_mul rfl rfl (by omega)) ?_ | refine s_v (r_bin rfl) ?_ | refine s_v (r_fa rfl rfl) ?_ | refine s_v (r_ld rfl rfl (by first | assumption | exact cell_of_blk (by assumption) (by rfl))) ?_ | refine s_v (r_nc rfl) ?_ | refine s_v (r_not rfl) ?_ | refine s_v (r_mf rfl rfl) ?_ | refine s_v (r_len rfl) ?_ | refine s_v (r_ex rfl) ?_ | refine s_v (r_fd rfl) ?_ | refine s_v (r_rem rfl rfl (by omega) (by omega)) ?_ | refine s_v (r_cvi rfl rfl rfl (wrap_in (by omega))) ?_ | refine s_v (r_cv rfl) ?_ | refine s_v (r_peq rfl rfl rfl) ?_ | refine s_v (r_pne rfl rfl rfl) ?_ | refine s_v (r_min rfl rfl) ?_ | refine s_v (r_max rfl rfl) ?_ | refine s_v (r_bd rfl) ?_ | refine s_v (r_pt rfl rfl) ?_ | refine s_v (r_pf rfl rfl) ?_))
          exact l_next (i + 1, some ⟨g, 0, none⟩, c3) ⟨by rw [e, e3]; rfl, rfl, rfl, rfl, trivial⟩ ⟨by show i + 1 ≤ xs.length; omega, by simp only; rw [e, e3]; exact own5, k25⟩ (by show xs.length - (i + 1) < xs.length - i; omega)
        (repeat (first | refine k_nil ?_ | refine k_n ?_ | refine k_r ?_ | refine k_x ?_ | refine b_n ?_ | refine b_r ?_ | refine b_y rfl ?_ | refine b_z rfl ?_ | refine l_r ?_ | refine l_x ?_ | refine k_seq ?_ | refine k_blk ?_ | refine k_reg ?_ | refine k_ret ?_ | refine k_exit ?_ | refine k_skip ?_ | refine s_v (r_mv rfl) ?_ | refine s_v (r_as rfl) ?_ | refine s_v (r_add rfl rfl (by omega)) ?_ | refine s_v (r_sub rfl rfl (by omega)) ?_ | refine s_v (r_mul rfl rfl (by omega)) ?_ | refine s_v (r_bin rfl) ?_ | refine s_v (r_fa rfl rfl) ?_ | refine s_v (r_ld rfl rfl (by first | assumption | exact cell_of_blk (by assumption) (by rfl))) ?_ | refine s_v (r_nc rfl) ?_ | refine s_v (r_not rfl) ?_ | refine s_v (r_mf rfl rfl) ?_ | refine s_v (r_len rfl) ?_ | refine s_v (r_ex rfl) ?_ | refine s_v (r_fd rfl) ?_ | refine s_v (r_rem rfl rfl (by omega) (by omega)) ?_ | refine s_v (r_cvi rfl rfl rfl (wrap_in (by omega))) ?_ | refine s_v (r_cv rfl) ?_ | refine s_v (r_peq rfl rfl rfl) ?_ | refine s_v (r_pne rfl rfl rfl) ?_ | refine s_v (r_min rfl rfl) ?_ | refine s_v (r_max rfl rfl) ?_ | refine s_v (r_bd rfl) ?_ | refine s_v (r_pt rfl rfl) ?_ | refine s_v (r_pf rfl rfl) ?_))
        refine s_v (r_ldb (vs := [.int .i64 s.1, .int .i64 s.2]) rfl rfl rfl (kq.get0 e5) rfl rfl) ?_
        refine s_bs (cs := [.int .i64 s.1, .int .i64 s.2]) (e := 26) rfl (fun b6 m4 n6 => ?_)
        have g6 := n6.ge
        have zq := kq.size
        have z6 := n6.kp.size
        obtain ⟨v, m5, hr, own5, k5, _, hrow⟩ := run_app (P := Try.prog) (ty := 27) (w := m4) (base := w2.heap.size) (k := out.length) (xs := fl out) (c := 1) (ad := ⟨b6, 0, none⟩) (m := 1) (news := [.int .i64 s.1, .int .i64 s.2]) (size := 2) (bytes := 16) Try.underlying27 rfl rfl rfl rfl rfl rfl (own_kp (own_kp own2 kq (fun _ _ => id)) n6.kp (fun _ _ => id)) (fun j u hj => by
          rw [addr_add]
          exact blk_cells n6.blk j u hj) rfl rfl (by omega) (by omega) (by omega)
        refine s_go (r_app (e := 26) rfl rfl hr) ?_
        have e : cv (xs.take (i + 1)) = out ++ [s] := by rw [hcs, cstep, if_neg hA, hlast]; simp only [if_neg hB]
        have e2 : fl (out ++ [s]) = fl out ++ [.int .i64 s.1, .int .i64 s.2] := by rw [fl_app]; rfl
        have e3 : (out ++ [s]).length = out.length + 1 := by simp
        have own6 := own5
        obtain ⟨a6, c6, rfl, hc6, _, _⟩ := own_read own5
        have k25 : Kp No w2 m5 := (km2.no (kq.no n6.kp)).trans k5 (fun q hq hqe => by
          have := hlt' q hqe.symm; omega)
        (repeat (first | refine k_nil ?_ | refine k_n ?_ | refine k_r ?_ | refine k_x ?_ | refine b_n ?_ | refine b_r ?_ | refine b_y rfl ?_ | refine b_z rfl ?_ | refine l_r ?_ | refine l_x ?_ | refine k_seq ?_ | refine k_blk ?_ | refine k_reg ?_ | refine k_ret ?_ | refine k_exit ?_ | refine k_skip ?_ | refine s_v (r_mv rfl) ?_ | refine s_v (r_as rfl) ?_ | refine s_v (r_add rfl rfl (by omega)) ?_ | refine s_v (r_sub rfl rfl (by omega)) ?_ | refine s_v (r_mul rfl rfl (by omega)) ?_ | refine s_v (r_bin rfl) ?_ | refine s_v (r_fa rfl rfl) ?_ | refine s_v (r_ld rfl rfl (by first | assumption | exact cell_of_blk (by assumption) (by rfl))) ?_ | refine s_v (r_nc rfl) ?_ | refine s_v (r_not rfl) ?_ | refine s_v (r_mf rfl rfl) ?_ | refine s_v (r_len rfl) ?_ | refine s_v (r_ex rfl) ?_ | refine s_v (r_fd rfl) ?_ | refine s_v (r_rem rfl rfl (by omega) (by omega)) ?_ | refine s_v (r_cvi rfl rfl rfl (wrap_in (by omega))) ?_ | refine s_v (r_cv rfl) ?_ | refine s_v (r_peq rfl rfl rfl) ?_ | refine s_v (r_pne rfl rfl rfl) ?_ | refine s_v (r_min rfl rfl) ?_ | refine s_v (r_max rfl rfl) ?_ | refine s_v (r_bd rfl) ?_ | refine s_v (r_pt rfl rfl) ?_ | refine s_v (r_pf rfl rfl) ?_))
        exact l_next (i + 1, a6, c6) ⟨by rw [e, e3]; rfl, rfl, rfl, rfl, trivial⟩ ⟨by show i + 1 ≤ xs.length; omega, by simp only; rw [e, e2, e3]; exact own6, k25⟩ (by show xs.length - (i + 1) < xs.length - i; omega)
    · have e : i = xs.length := by omega
      subst e
      rw [List.take_length] at own ⊢
      (repeat (first | refine k_nil ?_ | refine k_n ?_ | refine k_r ?_ | refine k_x ?_ | refine b_n ?_ | refine b_r ?_ | refine b_y rfl ?_ | refine b_z rfl ?_ | refine l_r ?_ | refine l_x ?_ | refine k_seq ?_ | refine k_blk ?_ | refine k_reg ?_ | refine k_ret ?_ | refine k_exit ?_ | refine k_skip ?_ | refine s_v (r_mv rfl) ?_ | refine s_v (r_as rfl) ?_ | refine s_v (r_add rfl rfl (by omega)) ?_ | refine s_v (r_sub rfl rfl (by omega)) ?_ | refine s_v (r_mul rfl rfl (by omega)) ?_ | refine s_v (r_bin rfl) ?_ | refine s_v (r_fa rfl rfl) ?_ | refine s_v (r_ld rfl rfl (by first | assumption | exact cell_of_blk (by assumption) (by rfl))) ?_ | refine s_v (r_nc rfl) ?_ | refine s_v (r_not rfl) ?_ | refine s_v (r_mf rfl rfl) ?_ | refine s_v (r_len rfl) ?_ | refine s_v (r_ex rfl) ?_ | refine s_v (r_fd rfl) ?_ | refine s_v (r_rem rfl rfl (by omega) (by omega)) ?_ | refine s_v (r_cvi rfl rfl rfl (wrap_in (by omega))) ?_ | refine s_v (r_cv rfl) ?_ | refine s_v (r_peq rfl rfl rfl) ?_ | refine s_v (r_pne rfl rfl rfl) ?_ | refine s_v (r_min rfl rfl) ?_ | refine s_v (r_max rfl rfl) ?_ | refine s_v (r_bd rfl) ?_ | refine s_v (r_pt rfl rfl) ?_ | refine s_v (r_pf rfl rfl) ?_))
      exact l_cut (a3, c3) ⟨rfl, trivial⟩ ⟨own, km⟩
  rintro ⟨a3, c3⟩ l m ⟨own, km⟩
  (repeat (first | refine k_nil ?_ | refine k_n ?_ | refine k_r ?_ | refine k_x ?_ | refine b_n ?_ | refine b_r ?_ | refine b_y rfl ?_ | refine b_z rfl ?_ | refine l_r ?_ | refine l_x ?_ | refine k_seq ?_ | refine k_blk ?_ | refine k_reg ?_ | refine k_ret ?_ | refine k_exit ?_ | refine k_skip ?_ | refine s_v (r_mv rfl) ?_ | refine s_v (r_as rfl) ?_ | refine s_v (r_add rfl rfl (by omega)) ?_ | refine s_v (r_sub rfl rfl (by omega)) ?_ | refine s_v (r_mul rfl rfl (by omega)) ?_ | refine s_v (r_bin rfl) ?_ | refine s_v (r_fa rfl rfl) ?_ | refine s_v (r_ld rfl rfl (by first | assumption | exact cell_of_blk (by assumption) (by rfl))) ?_ | refine s_v (r_nc rfl) ?_ | refine s_v (r_not rfl) ?_ | refine s_v (r_mf rfl rfl) ?_ | refine s_v (r_len rfl) ?_ | refine s_v (r_ex rfl) ?_ | refine s_v (r_fd rfl) ?_ | refine s_v (r_rem rfl rfl (by omega) (by omega)) ?_ | refine s_v (r_cvi rfl rfl rfl (wrap_in (by omega))) ?_ | refine s_v (r_cv rfl) ?_ | refine s_v (r_peq rfl rfl rfl) ?_ | refine s_v (r_pne rfl rfl rfl) ?_ | refine s_v (r_min rfl rfl) ?_ | refine s_v (r_max rfl rfl) ?_ | refine s_v (r_bd rfl) ?_ | refine s_v (r_pt rfl rfl) ?_ | refine s_v (r_pf rfl rfl) ?_))
  exact ret_1 rfl rfl ⟨a3, c3, rfl, ⟨_, k12.size, km.size, own⟩, k12.no km⟩
end Pg
end Go.Proofs.Ytimgapkngjkagaa
