/- SyntaxJoins: its walk. -/
import Derived.Test.YtgnkdeapifbgeaaDoorHh
import Derived.Test.YtgnkdeapifbgeaaDoorHl
import Derived.Test.YtgnkdeapifbgeaaDoorHm
namespace Go.Proofs.YtgnkdeapifbgeaaDoor.Sy
open Go Go.RowKit Fw
set_option linter.unusedVariables false
set_option maxRecDepth 20000
/-- An element's cells, as a load wants them. -/
theorem cells_of9 {w : World} {b o n : Nat} {vs : List Value} (hl : vs.length = n) (h : ∀ (j : Nat) (u : Value), vs[j]? = some u → w.cell? ⟨b, o + j, none⟩ = some u) : ∀ j, j < n → w.cell? ⟨b, o + j, none⟩ = vs[j]? := fun j hj => by
  obtain ⟨u, hu⟩ : ∃ u, vs[j]? = some u := ⟨_, List.getElem?_eq_getElem (by omega)⟩
  rw [hu]; exact h j u hu
theorem prs_ex {L : List Int} {S : PS} (h : prs L = .ok () S) : S.ex.length ≤ S.i := by
  obtain ⟨_, _, hf2⟩ := txt_of h
  have key : ∀ (E : Env) (m n : Nat) (s t : PS) (x : Unit), fcts E m n s = .ok x t → t.ex.length + s.i ≤ s.ex.length + t.i := by
    intro E m n
    induction n with
    | zero => intro s t x h; cases h
    | succ n ih =>
      intro s t x h
      unfold fcts at h
      split at h
      · cases h; omega
      · obtain ⟨_, s1, h1, h2⟩ := bind_inv h
        have h3 := fct_up h1
        have := ih _ _ _ h2
        omega
  have := key _ _ _ _ _ _ hf2
  simp at this
  omega
set_option maxHeartbeats 1000000 in
theorem JoinsF (s c : ByteArray) (w : World) (hg : Tk.Glob w) (hs : s.size ≤ 9223372036854775807) (hcs : c.size ≤ 9223372036854775807) :
    Ret Tryd.prog 6 [.string s, .string c] w fun v w1 => v = .bool true ∧ Kp No w w1 := by
  refine ret_enter Tryd.func6 rfl Tryd.ntmps6 rfl ?_
  (repeat (first | refine k_nil ?_ | refine k_n ?_ | refine k_r ?_ | refine k_x ?_ | refine b_n ?_ | refine b_r ?_ | refine b_y rfl ?_ | refine b_z rfl ?_ | refine l_r ?_ | refine l_x ?_ | refine k_seq ?_ | refine k_blk ?_ | refine k_reg ?_ | refine k_ret ?_ | refine k_exit ?_ | refine k_skip ?_ | refine Zs ?_))
  refine s_call (us := []) (zs := []) (by kernel_rfl) rfl rfl (awakeF w hg) ?_
  rintro _ w1 ⟨rfl, k1⟩
  (repeat (first | refine k_nil ?_ | refine k_n ?_ | refine k_r ?_ | refine k_x ?_ | refine b_n ?_ | refine b_r ?_ | refine b_y rfl ?_ | refine b_z rfl ?_ | refine l_r ?_ | refine l_x ?_ | refine k_seq ?_ | refine k_blk ?_ | refine k_reg ?_ | refine k_ret ?_ | refine k_exit ?_ | refine k_skip ?_ | refine Zs ?_ | refine Zn ?_ | refine Zu ?_ | refine Zg ?_))
  by_cases h500 : 500 < s.size
  · refine s_set 24 true rfl (decide_eq_true (by omega)) ?_
    (repeat (first | refine k_nil ?_ | refine k_n ?_ | refine k_r ?_ | refine k_x ?_ | refine b_n ?_ | refine b_r ?_ | refine b_y rfl ?_ | refine b_z rfl ?_ | refine l_r ?_ | refine l_x ?_ | refine k_seq ?_ | refine k_blk ?_ | refine k_reg ?_ | refine k_ret ?_ | refine k_exit ?_ | refine k_skip ?_ | refine Zs ?_ | refine Zn ?_ | refine Zu ?_ | refine Zg ?_))
    refine c_t rfl ?_
    (repeat (first | refine k_nil ?_ | refine k_n ?_ | refine k_r ?_ | refine k_x ?_ | refine b_n ?_ | refine b_r ?_ | refine b_y rfl ?_ | refine b_z rfl ?_ | refine l_r ?_ | refine l_x ?_ | refine k_seq ?_ | refine k_blk ?_ | refine k_reg ?_ | refine k_ret ?_ | refine k_exit ?_ | refine k_skip ?_ | refine Zs ?_))
    refine s_call (us := []) (zs := []) (by kernel_rfl) rfl rfl (awakeF w1 (hg.kp k1)) ?_
    rintro _ w2 ⟨rfl, k2⟩
    (repeat (first | refine k_nil ?_ | refine k_n ?_ | refine k_r ?_ | refine k_x ?_ | refine b_n ?_ | refine b_r ?_ | refine b_y rfl ?_ | refine b_z rfl ?_ | refine l_r ?_ | refine l_x ?_ | refine k_seq ?_ | refine k_blk ?_ | refine k_reg ?_ | refine k_ret ?_ | refine k_exit ?_ | refine k_skip ?_ | refine Zs ?_))
    exact ret_1 rfl rfl ⟨rfl, k1.no k2⟩
  refine s_set 24 false rfl (decide_eq_false (by omega)) ?_
  (repeat (first | refine k_nil ?_ | refine k_n ?_ | refine k_r ?_ | refine k_x ?_ | refine b_n ?_ | refine b_r ?_ | refine b_y rfl ?_ | refine b_z rfl ?_ | refine l_r ?_ | refine l_x ?_ | refine k_seq ?_ | refine k_blk ?_ | refine k_reg ?_ | refine k_ret ?_ | refine k_exit ?_ | refine k_skip ?_ | refine Zs ?_ | refine Zn ?_ | refine Zu ?_ | refine Zg ?_))
  refine c_dec rfl (fun hbig => ?_) (fun hsmall => ?_)
  · (repeat (first | refine k_nil ?_ | refine k_n ?_ | refine k_r ?_ | refine k_x ?_ | refine b_n ?_ | refine b_r ?_ | refine b_y rfl ?_ | refine b_z rfl ?_ | refine l_r ?_ | refine l_x ?_ | refine k_seq ?_ | refine k_blk ?_ | refine k_reg ?_ | refine k_ret ?_ | refine k_exit ?_ | refine k_skip ?_ | refine Zs ?_))
    refine s_call (us := []) (zs := []) (by kernel_rfl) rfl rfl (awakeF w1 (hg.kp k1)) ?_
    rintro _ w2 ⟨rfl, k2⟩
    (repeat (first | refine k_nil ?_ | refine k_n ?_ | refine k_r ?_ | refine k_x ?_ | refine b_n ?_ | refine b_r ?_ | refine b_y rfl ?_ | refine b_z rfl ?_ | refine l_r ?_ | refine l_x ?_ | refine k_seq ?_ | refine k_blk ?_ | refine k_reg ?_ | refine k_ret ?_ | refine k_exit ?_ | refine k_skip ?_ | refine Zs ?_))
    exact ret_1 rfl rfl ⟨rfl, k1.no k2⟩
  have hcl := B_len c
  have hsl := B_len s
  (repeat (first | refine k_nil ?_ | refine k_n ?_ | refine k_r ?_ | refine k_x ?_ | refine b_n ?_ | refine b_r ?_ | refine b_y rfl ?_ | refine b_z rfl ?_ | refine l_r ?_ | refine l_x ?_ | refine k_seq ?_ | refine k_blk ?_ | refine k_reg ?_ | refine k_ret ?_ | refine k_exit ?_ | refine k_skip ?_ | refine Zs ?_))
  refine s_call (us := []) (zs := []) (by kernel_rfl) rfl rfl (ParseG s w1 (hg.kp k1) (by omega)) ?_
  rintro _ w3 ⟨k3, ux, us, uf, S, a, e, rfl, ht, hp⟩
  obtain ⟨xa, sa, fa, xc, sc, fc, rfl, rfl, rfl⟩ := ht.val
  (repeat (first | refine k_nil ?_ | refine k_n ?_ | refine k_r ?_ | refine k_x ?_ | refine b_n ?_ | refine b_r ?_ | refine b_y rfl ?_ | refine b_z rfl ?_ | refine l_r ?_ | refine l_x ?_ | refine k_seq ?_ | refine k_blk ?_ | refine k_reg ?_ | refine k_ret ?_ | refine k_exit ?_ | refine k_skip ?_ | refine Zs ?_))
  refine s_al rfl (fun b w4 n4 => ?_)
  refine s_st (vs := [.slice xa S.ex.length xc, .slice sa S.st.length sc, .slice fa S.fn.length fc]) rfl rfl rfl rfl rfl n4.blk (Nat.le_of_ble_eq_true rfl) (fun w5 s5 => ?_)
  have k35 : Kp No w3 w5 := n4.kp.trans s5.kp fun i hi e => by have := n4.ge; omega
  have hb : w5.heap[b]? = some (.cells [.slice xa S.ex.length xc, .slice sa S.st.length sc, .slice fa S.fn.length fc].toArray 27 (0, 0)) := s5.blk
  have kw5 := (k1.no k3).no k35
  clear n4 s5 k35 ht k3
  (repeat (first | refine k_nil ?_ | refine k_n ?_ | refine k_r ?_ | refine k_x ?_ | refine b_n ?_ | refine b_r ?_ | refine b_y rfl ?_ | refine b_z rfl ?_ | refine l_r ?_ | refine l_x ?_ | refine k_seq ?_ | refine k_blk ?_ | refine k_reg ?_ | refine k_ret ?_ | refine k_exit ?_ | refine k_skip ?_ | refine Zs ?_))
  refine s_call (us := []) (zs := []) (by kernel_rfl) rfl rfl (ParseG c w5 (hg.kp kw5) (by omega)) ?_
  rintro _ w6 ⟨k6, vx, vs, vf, T, a', e', rfl, ht', hp'⟩
  obtain ⟨xb, sb, fb, xd, sd, fd, rfl, rfl, rfl⟩ := ht'.val
  (repeat (first | refine k_nil ?_ | refine k_n ?_ | refine k_r ?_ | refine k_x ?_ | refine b_n ?_ | refine b_r ?_ | refine b_y rfl ?_ | refine b_z rfl ?_ | refine l_r ?_ | refine l_x ?_ | refine k_seq ?_ | refine k_blk ?_ | refine k_reg ?_ | refine k_ret ?_ | refine k_exit ?_ | refine k_skip ?_ | refine Zs ?_))
  refine s_al rfl (fun b2 w7 n7 => ?_)
  refine s_st (vs := [.slice xb T.ex.length xd, .slice sb T.st.length sd, .slice fb T.fn.length fd]) rfl rfl rfl rfl rfl n7.blk (Nat.le_of_ble_eq_true rfl) (fun w8 s8 => ?_)
  have k68 : Kp No w6 w8 := n7.kp.trans s8.kp fun i hi e => by have := n7.ge; omega
  have hb2 : w8.heap[b2]? = some (.cells [.slice xb T.ex.length xd, .slice sb T.st.length sd, .slice fb T.fn.length fd].toArray 27 (0, 0)) := s8.blk
  have ht8 := ht'.kp k68
  have kw8 := (kw5.no k6).no k68
  have hb8 := (k6.no k68).get0 hb
  clear n7 s8 k68 ht' k6 hb
  rcases hp with ⟨hp, ha, he, hf⟩ | ⟨_, _, he, _⟩
  case inr =>
    (repeat (first | refine k_nil ?_ | refine k_n ?_ | refine k_r ?_ | refine k_x ?_ | refine b_n ?_ | refine b_r ?_ | refine b_y rfl ?_ | refine b_z rfl ?_ | refine l_r ?_ | refine l_x ?_ | refine k_seq ?_ | refine k_blk ?_ | refine k_reg ?_ | refine k_ret ?_ | refine k_exit ?_ | refine k_skip ?_ | refine Zs ?_))
    refine s_set 44 true rfl (by simpa using he) ?_
    (repeat (first | refine k_nil ?_ | refine k_n ?_ | refine k_r ?_ | refine k_x ?_ | refine b_n ?_ | refine b_r ?_ | refine b_y rfl ?_ | refine b_z rfl ?_ | refine l_r ?_ | refine l_x ?_ | refine k_seq ?_ | refine k_blk ?_ | refine k_reg ?_ | refine k_ret ?_ | refine k_exit ?_ | refine k_skip ?_ | refine Zs ?_ | refine Zn ?_ | refine Zu ?_ | refine Zg ?_))
    refine c_t rfl ?_
    (repeat (first | refine k_nil ?_ | refine k_n ?_ | refine k_r ?_ | refine k_x ?_ | refine b_n ?_ | refine b_r ?_ | refine b_y rfl ?_ | refine b_z rfl ?_ | refine l_r ?_ | refine l_x ?_ | refine k_seq ?_ | refine k_blk ?_ | refine k_reg ?_ | refine k_ret ?_ | refine k_exit ?_ | refine k_skip ?_ | refine Zs ?_))
    exact ret_1 rfl rfl ⟨rfl, kw8⟩
  subst ha he
  (repeat (first | refine k_nil ?_ | refine k_n ?_ | refine k_r ?_ | refine k_x ?_ | refine b_n ?_ | refine b_r ?_ | refine b_y rfl ?_ | refine b_z rfl ?_ | refine l_r ?_ | refine l_x ?_ | refine k_seq ?_ | refine k_blk ?_ | refine k_reg ?_ | refine k_ret ?_ | refine k_exit ?_ | refine k_skip ?_ | refine Zs ?_ | refine Zn ?_ | refine Zu ?_ | refine Zg ?_))
  rcases hp' with ⟨hp', ha', he', hf'⟩ | ⟨_, _, he', _⟩
  case inr =>
    refine c_ne rfl (fun _ => ?_) (fun q => (he' q).elim)
    (repeat (first | refine k_nil ?_ | refine k_n ?_ | refine k_r ?_ | refine k_x ?_ | refine b_n ?_ | refine b_r ?_ | refine b_y rfl ?_ | refine b_z rfl ?_ | refine l_r ?_ | refine l_x ?_ | refine k_seq ?_ | refine k_blk ?_ | refine k_reg ?_ | refine k_ret ?_ | refine k_exit ?_ | refine k_skip ?_ | refine Zs ?_))
    exact ret_1 rfl rfl ⟨rfl, kw8⟩
  subst ha' he'
  refine c_f rfl ?_
  obtain ⟨l1, l2, l3⟩ := prs_len hp
  obtain ⟨m1, m2, m3⟩ := prs_len hp'
  have l4 := prs_ex hp
  have m4 := prs_ex hp'
  obtain ⟨j1, j2⟩ := prs_join hp hp' (by omega) (by omega)
  (repeat (first | refine k_nil ?_ | refine k_n ?_ | refine k_r ?_ | refine k_x ?_ | refine b_n ?_ | refine b_r ?_ | refine b_y rfl ?_ | refine b_z rfl ?_ | refine l_r ?_ | refine l_x ?_ | refine k_seq ?_ | refine k_blk ?_ | refine k_reg ?_ | refine k_ret ?_ | refine k_exit ?_ | refine k_skip ?_ | refine Zs ?_))
  refine s_v (r_cat rfl rfl (by rw [show (ByteArray.mk #[10]).size = 1 from rfl]; omega)) ?_
  (repeat (first | refine k_nil ?_ | refine k_n ?_ | refine k_r ?_ | refine k_x ?_ | refine b_n ?_ | refine b_r ?_ | refine b_y rfl ?_ | refine b_z rfl ?_ | refine l_r ?_ | refine l_x ?_ | refine k_seq ?_ | refine k_blk ?_ | refine k_reg ?_ | refine k_ret ?_ | refine k_exit ?_ | refine k_skip ?_ | refine Zs ?_))
  refine s_v (r_cat rfl rfl (by rw [ByteArray.size_append, show (ByteArray.mk #[10]).size = 1 from rfl]; omega)) ?_
  obtain ⟨y, hy⟩ : ∃ y, y = (s ++ (⟨#[10]⟩ : ByteArray)) ++ c := ⟨_, rfl⟩
  have hys : y.size = s.size + 1 + c.size := by rw [hy, ByteArray.size_append, ByteArray.size_append]; rfl
  have hyB : B y = B s ++ 10 :: B c := by rw [hy, B_append, B_append]; show (B s ++ [10]) ++ B c = _; simp
  rw [← hy]
  rw [← hyB] at j1 j2
  refine s_call (us := []) (zs := []) (by kernel_rfl) rfl rfl (ParseG y w8 (hg.kp kw8) (by omega)) ?_
  rintro _ w9 ⟨k9, zx, zs, zf, Z, a3, e3, rfl, hz, hpz⟩
  obtain ⟨xe, se, fe, xf, sf, ff, rfl, rfl, rfl⟩ := hz.val
  (repeat (first | refine k_nil ?_ | refine k_n ?_ | refine k_r ?_ | refine k_x ?_ | refine b_n ?_ | refine b_r ?_ | refine b_y rfl ?_ | refine b_z rfl ?_ | refine l_r ?_ | refine l_x ?_ | refine k_seq ?_ | refine k_blk ?_ | refine k_reg ?_ | refine k_ret ?_ | refine k_exit ?_ | refine k_skip ?_ | refine Zs ?_))
  refine s_al rfl (fun b3 w10 n10 => ?_)
  refine s_st (vs := [.slice xe Z.ex.length xf, .slice se Z.st.length sf, .slice fe Z.fn.length ff]) rfl rfl rfl rfl rfl n10.blk (Nat.le_of_ble_eq_true rfl) (fun w11 s11 => ?_)
  have k911 : Kp No w9 w11 := n10.kp.trans s11.kp fun i hi e => by have := n10.ge; omega
  have hb3 : w11.heap[b3]? = some (.cells [.slice xe Z.ex.length xf, .slice se Z.st.length sf, .slice fe Z.fn.length ff].toArray 27 (0, 0)) := s11.blk
  have hz11 := hz.kp k911
  have kw11 := (kw8.no k9).no k911
  have hbA := (k9.no k911).get0 hb8
  have hbB := (k9.no k911).get0 hb2
  have ht11 := ht8.kp (k9.no k911)
  clear n10 s11 hz k9 k911 hb8 hb2 ht8
  (repeat (first | refine k_nil ?_ | refine k_n ?_ | refine k_r ?_ | refine k_x ?_ | refine b_n ?_ | refine b_r ?_ | refine b_y rfl ?_ | refine b_z rfl ?_ | refine l_r ?_ | refine l_x ?_ | refine k_seq ?_ | refine k_blk ?_ | refine k_reg ?_ | refine k_ret ?_ | refine k_exit ?_ | refine k_skip ?_ | refine Zs ?_))
  refine c_dec rfl (fun hmany => ?_) (fun hfew => ?_)
  · obtain ⟨p, hp5⟩ := j1 (by omega)
    rcases hpz with ⟨h, _⟩ | ⟨h, _⟩
    · rw [hp5] at h; cases h
    rw [hp5] at h
    cases h
    (repeat (first | refine k_nil ?_ | refine k_n ?_ | refine k_r ?_ | refine k_x ?_ | refine b_n ?_ | refine b_r ?_ | refine b_y rfl ?_ | refine b_z rfl ?_ | refine l_r ?_ | refine l_x ?_ | refine k_seq ?_ | refine k_blk ?_ | refine k_reg ?_ | refine k_ret ?_ | refine k_exit ?_ | refine k_skip ?_ | refine Zs ?_))
    exact ret_1 rfl rfl ⟨rfl, kw11⟩
  obtain ⟨Q, hQ, q1, q2, q3, q4⟩ := j2 (by omega)
  rcases hpz.symm with ⟨h, _⟩ | ⟨h, ha3, he3, _⟩
  · rw [hQ] at h; cases h
  rw [hQ] at h
  cases h
  subst ha3 he3
  have hfu := prs_len hQ
  have hfx := prs_ex hQ
  have hyl := B_len y
  (repeat (first | refine k_nil ?_ | refine k_n ?_ | refine k_r ?_ | refine k_x ?_ | refine b_n ?_ | refine b_r ?_ | refine b_y rfl ?_ | refine b_z rfl ?_ | refine l_r ?_ | refine l_x ?_ | refine k_seq ?_ | refine k_blk ?_ | refine k_reg ?_ | refine k_ret ?_ | refine k_exit ?_ | refine k_skip ?_ | refine Zs ?_ | refine Zn ?_ | refine Zu ?_ | refine Zg ?_))
  refine s_set 82 false rfl (by rw [q1]; simp) ?_
  (repeat (first | refine k_nil ?_ | refine k_n ?_ | refine k_r ?_ | refine k_x ?_ | refine b_n ?_ | refine b_r ?_ | refine b_y rfl ?_ | refine b_z rfl ?_ | refine l_r ?_ | refine l_x ?_ | refine k_seq ?_ | refine k_blk ?_ | refine k_reg ?_ | refine k_ret ?_ | refine k_exit ?_ | refine k_skip ?_ | refine Zs ?_ | refine Zn ?_ | refine Zu ?_ | refine Zg ?_))
  refine s_set 95 false rfl (by rw [q2]; simp) ?_
  (repeat (first | refine k_nil ?_ | refine k_n ?_ | refine k_r ?_ | refine k_x ?_ | refine b_n ?_ | refine b_r ?_ | refine b_y rfl ?_ | refine b_z rfl ?_ | refine l_r ?_ | refine l_x ?_ | refine k_seq ?_ | refine k_blk ?_ | refine k_reg ?_ | refine k_ret ?_ | refine k_exit ?_ | refine k_skip ?_ | refine Zs ?_ | refine Zn ?_ | refine Zu ?_ | refine Zg ?_))
  refine c_ne rfl (fun q => (q (by rw [q3]; simp)).elim) (fun _ => ?_)
  (repeat (first | refine k_nil ?_ | refine k_n ?_ | refine k_r ?_ | refine k_x ?_ | refine b_n ?_ | refine b_r ?_ | refine b_y rfl ?_ | refine b_z rfl ?_ | refine l_r ?_ | refine l_x ?_ | refine k_seq ?_ | refine k_blk ?_ | refine k_reg ?_ | refine k_ret ?_ | refine k_exit ?_ | refine k_skip ?_ | refine Zs ?_))
  refine k_loop (σ := Nat) (fun i => [(0, .string s), (5, .pointer (some ⟨b, 0, none⟩)), (11, .pointer (some ⟨b3, 0, none⟩)), (109, .slice sb T.st.length sd), (110, .int .i64 (T.st.length : Int)), (111, .int .i64 (i : Int))]) (fun i w' => Kp No w11 w' ∧ i ≤ T.st.length) (fun i => T.st.length - i) 0 ⟨rfl, rfl, rfl, rfl, rfl, rfl, trivial⟩ ⟨Kp.refl _ _, Nat.zero_le _⟩ ?_
  rintro i l w12 ⟨k12, hi⟩
  have hbA2 := k12.get0 hbA
  have hbC2 := k12.get0 hb3
  (repeat (first | refine k_nil ?_ | refine k_n ?_ | refine k_r ?_ | refine k_x ?_ | refine b_n ?_ | refine b_r ?_ | refine b_y rfl ?_ | refine b_z rfl ?_ | refine l_r ?_ | refine l_x ?_ | refine k_seq ?_ | refine k_blk ?_ | refine k_reg ?_ | refine k_ret ?_ | refine k_exit ?_ | refine k_skip ?_ | refine Zs ?_))
  refine c_dec rfl (fun q => ?_) (fun q => ?_)
  · have q : i < T.st.length := by omega
    obtain ⟨x, hx⟩ : ∃ x, T.st[i]? = some x := ⟨_, List.getElem?_eq_getElem q⟩
    obtain ⟨y', hy', e1, e2, e3⟩ := q4 i x hx
    obtain ⟨gx, lv, mv, rfl, hlv, hmv, hcx⟩ := (ht11.kp k12).st hx
    obtain ⟨gy, lv', mv', rfl, hlv', hmv', hcy⟩ := (hz11.kp k12).st hy'
    obtain ⟨va, vc, rfl⟩ := hlv.val
    obtain ⟨va2, vc2, rfl⟩ := hmv.val
    obtain ⟨ua, uc, rfl⟩ := hlv'.val
    obtain ⟨ua2, uc2, rfl⟩ := hmv'.val
    have hrx := prs_rg hp' x (List.mem_of_getElem? hx)
    unfold Rg at hrx
    have hil : S.st.length + i < Z.st.length := (List.getElem?_eq_some_iff.1 hy').1
    have ei : ((S.st.length + i : Nat) : Int) = (S.st.length : Int) + (i : Int) := Int.natCast_add _ _
    rw [ei] at hcy
    (repeat (first | refine k_nil ?_ | refine k_n ?_ | refine k_r ?_ | refine k_x ?_ | refine b_n ?_ | refine b_r ?_ | refine b_y rfl ?_ | refine b_z rfl ?_ | refine l_r ?_ | refine l_x ?_ | refine k_seq ?_ | refine k_blk ?_ | refine k_reg ?_ | refine k_ret ?_ | refine k_exit ?_ | refine k_skip ?_ | refine Zs ?_))
    refine s_v (r_ia (size := 9) rfl rfl rfl rfl (by omega) (by omega)) ?_
    refine s_v (r_lda (n := 9) (vs := stC (x, .slice va x.th.length vc, .slice va2 x.el.length vc2)) rfl rfl rfl rfl (cells_of9 rfl hcx)) ?_
    refine s_al rfl (fun b4 w13 n13 => ?_)
    (repeat (first | refine k_nil ?_ | refine k_n ?_ | refine k_r ?_ | refine k_x ?_ | refine b_n ?_ | refine b_r ?_ | refine b_y rfl ?_ | refine b_z rfl ?_ | refine l_r ?_ | refine l_x ?_ | refine k_seq ?_ | refine k_blk ?_ | refine k_reg ?_ | refine k_ret ?_ | refine k_exit ?_ | refine k_skip ?_ | refine Zs ?_))
    refine s_st (vs := stC (x, .slice va x.th.length vc, .slice va2 x.el.length vc2)) rfl rfl rfl rfl rfl n13.blk (Nat.le_of_ble_eq_true rfl) (fun w14 s14 => ?_)
    have k14 : Kp No w12 w14 := n13.kp.trans s14.kp fun i hi e => by have := n13.ge; omega
    have hbA3 := k14.get0 hbA2
    have hbC3 := k14.get0 hbC2
    have hb4 : w14.heap[b4]? = some (.cells [Value.int .i64 x.k, .int .i64 x.f, .int .i64 x.e, sv x.nm, .int .i64 x.n, .int .i64 x.a, .int .i64 x.b, .slice va x.th.length vc, .slice va2 x.el.length vc2].toArray 39 (0, 0)) := s14.blk
    clear n13 s14 hbA2 hbC2
    (repeat (first | refine k_nil ?_ | refine k_n ?_ | refine k_r ?_ | refine k_x ?_ | refine b_n ?_ | refine b_r ?_ | refine b_y rfl ?_ | refine b_z rfl ?_ | refine l_r ?_ | refine l_x ?_ | refine k_seq ?_ | refine k_blk ?_ | refine k_reg ?_ | refine k_ret ?_ | refine k_exit ?_ | refine k_skip ?_ | refine Zs ?_))
    refine s_v (r_ia (size := 9) rfl rfl rfl rfl (by omega) (by omega)) ?_
    refine s_v (r_lda (n := 9) (vs := stC (y', .slice ua y'.th.length uc, .slice ua2 y'.el.length uc2)) rfl rfl rfl rfl (cells_of9 rfl fun j u hj => k14.cell0 (hcy j u hj))) ?_
    refine s_al rfl (fun b5 w15 n15 => ?_)
    refine s_st (vs := stC (y', .slice ua y'.th.length uc, .slice ua2 y'.el.length uc2)) rfl rfl rfl rfl rfl n15.blk (Nat.le_of_ble_eq_true rfl) (fun w16 s16 => ?_)
    have k16 : Kp No w14 w16 := n15.kp.trans s16.kp fun i hi e => by have := n15.ge; omega
    have hb4' := k16.get0 hb4
    have hb5 : w16.heap[b5]? = some (.cells [Value.int .i64 y'.k, .int .i64 y'.f, .int .i64 y'.e, sv y'.nm, .int .i64 y'.n, .int .i64 y'.a, .int .i64 y'.b, .slice ua y'.th.length uc, .slice ua2 y'.el.length uc2].toArray 39 (0, 0)) := s16.blk
    clear n15 s16 hb4
    (repeat (first | refine k_nil ?_ | refine k_n ?_ | refine k_r ?_ | refine k_x ?_ | refine b_n ?_ | refine b_r ?_ | refine b_y rfl ?_ | refine b_z rfl ?_ | refine l_r ?_ | refine l_x ?_ | refine k_seq ?_ | refine k_blk ?_ | refine k_reg ?_ | refine k_ret ?_ | refine k_exit ?_ | refine k_skip ?_ | refine Zs ?_))
    refine s_set 130 false rfl (by rw [e1]; exact bne_self_eq_false _) ?_
    (repeat (first | refine k_nil ?_ | refine k_n ?_ | refine k_r ?_ | refine k_x ?_ | refine b_n ?_ | refine b_r ?_ | refine b_y rfl ?_ | refine b_z rfl ?_ | refine l_r ?_ | refine l_x ?_ | refine k_seq ?_ | refine k_blk ?_ | refine k_reg ?_ | refine k_ret ?_ | refine k_exit ?_ | refine k_skip ?_ | refine Zs ?_ | refine Zn ?_ | refine Zu ?_ | refine Zg ?_))
    refine s_set 143 false rfl (by rw [e2, hsl]; exact bne_self_eq_false _) ?_
    (repeat (first | refine k_nil ?_ | refine k_n ?_ | refine k_r ?_ | refine k_x ?_ | refine b_n ?_ | refine b_r ?_ | refine b_y rfl ?_ | refine b_z rfl ?_ | refine l_r ?_ | refine l_x ?_ | refine k_seq ?_ | refine k_blk ?_ | refine k_reg ?_ | refine k_ret ?_ | refine k_exit ?_ | refine k_skip ?_ | refine Zs ?_ | refine Zn ?_ | refine Zu ?_ | refine Zg ?_))
    refine c_ne rfl (fun q => (q (by rw [e3, hsl])).elim) (fun _ => ?_)
    (repeat (first | refine k_nil ?_ | refine k_n ?_ | refine k_r ?_ | refine k_x ?_ | refine b_n ?_ | refine b_r ?_ | refine b_y rfl ?_ | refine b_z rfl ?_ | refine l_r ?_ | refine l_x ?_ | refine k_seq ?_ | refine k_blk ?_ | refine k_reg ?_ | refine k_ret ?_ | refine k_exit ?_ | refine k_skip ?_ | refine Zs ?_))
    exact l_next (i + 1) ⟨rfl, rfl, rfl, rfl, rfl, rfl, trivial⟩ ⟨(k12.no k14).no k16, by omega⟩ (by omega)
  · (repeat (first | refine k_nil ?_ | refine k_n ?_ | refine k_r ?_ | refine k_x ?_ | refine b_n ?_ | refine b_r ?_ | refine b_y rfl ?_ | refine b_z rfl ?_ | refine l_r ?_ | refine l_x ?_ | refine k_seq ?_ | refine k_blk ?_ | refine k_reg ?_ | refine k_ret ?_ | refine k_exit ?_ | refine k_skip ?_ | refine Zs ?_))
    exact ret_1 rfl rfl ⟨rfl, kw11.no k12⟩
end Go.Proofs.YtgnkdeapifbgeaaDoor.Sy
