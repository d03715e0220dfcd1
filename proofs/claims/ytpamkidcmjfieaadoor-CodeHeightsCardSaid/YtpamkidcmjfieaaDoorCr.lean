/- Code: slices.Repeat of one number. -/
import Derived.Test.YtpamkidcmjfieaaDoorSp
import Derived.Test.YtpamkidcmjfieaaDoorFz
import Derived.Test.YtpamkidcmjfieaaDoorChecked
import Derived.Test.YtpamkidcmjfieaaDoorSh
import Derived.Laws.CopyRow
import Derived.Test.YtpamkidcmjfieaaDoorCj
namespace Go.Proofs.YtpamkidcmjfieaaDoor
open Go Go.RowKit Fw Nu
set_option linter.unusedVariables false
set_option maxRecDepth 20000
namespace Fw
section
variable {P : Program} {w : World} {ρ : Operand → Value} {dst : Option Tmp} {ty : TypeId} {pos : String} {af : Array Edge} {g : Option (Nat × Bool)} {v : Value}
/-- copy of single cells into a row that is known. -/
theorem r_cpy {t e : TypeId} {x y : Operand} {gb o k c m c' r : Nat} {ad : Addr} {cs news : List Value} {T : TypeId} (ht : P.underlying t = some (.slice e)) (hsz : szT P e = some 1) (hd : ρ x = .slice (some ⟨gb, o, none⟩) k c) (hs : ρ y = .slice (some ad) m c')
    (hr : r = min m k) (hl : news.length = r) (hsrc : ∀ j u, news[j]? = some u → w.cell? (ad.add j) = some u) (h1 : news.all Value.oneCell' = true) (hb : w.heap[gb]? = some (.cells cs.toArray T (0, 0))) (ho : o + r ≤ cs.length) :
    Rn P ρ ⟨dst, .call ⟨.builtin .copy, #[x, y], #[t, t]⟩, ty, pos, af, g⟩ w (.ok (.value (.int .i64 r)) (w.setRow gb (setAt cs o news).toArray)) := by
  refine run_bi (xs := [x, y]) (Builtin.copy_ #[t, t] ty #[ρ x, ρ y]) (fun cn args e => by subst e; rfl) ?_
  rw [hd, hs]
  have hsz' : (P.info? e).map (·.size) = some 1 := by
    obtain ⟨i, h1, h2⟩ := szT_info hsz
    rw [h1, Option.map_some, h2]
  have := run_copy_row P w t t ty e gb o k c ad m c' cs.toArray T news ht hsz' hb (by rw [hl, hr]) hsrc (by simpa [hl] using ho) (by simpa using h1)
  rw [setAt_eq news o cs (by omega)]
  rw [hl] at this ⊢
  exact this
end
end Fw
namespace Cd
theorem mulF (x y : Nat) (hx : x < 18446744073709551616) (hy : y < 18446744073709551616) (w : World) : Ret Tryd.prog 20 [.int .u64 x, .int .u64 y] w fun v w1 => v = .tuple #[.int .u64 ((x * y / 18446744073709551616 : Nat) : Int), .int .u64 ((x * y % 18446744073709551616 : Nat) : Int)] ∧ w1 = w := by
  refine Calls.mono (Tryd.bits_Mul x y hx hy w) ?_
  rintro _ _ ⟨rfl, h⟩
  exact ⟨_, rfl, rfl, h⟩
theorem setAt_rep {cur : List Value} {x : Value} {n m N : Nat} (hl : cur.length = N) (hn : n + m ≤ N) (h : ∀ j, j < n → cur[j]? = some x) : (setAt cur n (List.replicate m x)).length = N ∧ ∀ j, j < n + m → (setAt cur n (List.replicate m x))[j]? = some x := by
  refine ⟨by rw [setAt_length, hl], fun j hj => ?_⟩
  rw [setAt_eq _ _ _ (by rw [List.length_replicate]; omega), List.append_assoc]
  by_cases hjn : j < n
  · rw [List.getElem?_append_left (by rw [List.length_take]; omega), List.getElem?_take, if_pos hjn]
    exact h j hjn
  · rw [List.getElem?_append_right (by rw [List.length_take]; omega), List.length_take, show min n cur.length = n from by omega, List.getElem?_append_left (by rw [List.length_replicate]; omega), List.getElem?_replicate, if_pos (by omega)]
set_option maxHeartbeats 4000000 in
theorem repeatF (b c N : Nat) (x : Int) (w : World) (hb : w.heap[b]? = some (.cells [Value.int .i64 x].toArray 3 (0, 0))) (h1 : 1 ≤ N) (h2 : N ≤ 1000000) :
    Ret Tryd.prog 10 [.slice (some ⟨b, 0, none⟩) 1 c, .int .i64 N] w fun v w1 => ∃ g, v = .slice (some ⟨g, 0, none⟩) N N ∧ w1.heap[g]? = some (.cells (List.replicate N (Value.int .i64 x)).toArray 3 (0, 0)) ∧ w.heap.size ≤ g ∧ Kp No w w1 := by
  refine ret_enter Tryd.func10 rfl Tryd.ntmps10 rfl ?_
  (repeat (first | refine k_nil ?_ | refine k_n ?_ | refine k_r ?_ | refine k_x ?_ | refine b_n ?_ | refine b_r ?_ | refine b_y rfl ?_ | refine b_z rfl ?_ | refine l_r ?_ | refine l_x ?_ | refine k_seq ?_ | refine k_blk ?_ | refine k_reg ?_ | refine k_ret ?_ | refine k_exit ?_ | refine k_skip ?_ | refine Zs ?_))
  refine c_dec rfl (fun h => absurd h (by omega)) (fun _ => ?_)
  (repeat (first | refine k_nil ?_ | refine k_n ?_ | refine k_r ?_ | refine k_x ?_ | refine b_n ?_ | refine b_r ?_ | refine b_y rfl ?_ | refine b_z rfl ?_ | refine l_r ?_ | refine l_x ?_ | refine k_seq ?_ | refine k_blk ?_ | refine k_reg ?_ | refine k_ret ?_ | refine k_exit ?_ | refine k_skip ?_ | refine Zs ?_))
  have ew : ∀ n : Nat, n ≤ 1000000 → IntKind.u64.wrap (n : Int) = (n : Int) := fun n h => by rw [IntKind.wrap_u64]; omega
  have ei : IntKind.i64.wrap (N : Int) = (N : Int) := wrap_in (by omega)
  rw [ew N h2, ew 1 (by omega)]
  refine s_call (us := []) (zs := []) (by kernel_rfl) rfl rfl (mulF 1 N (by omega) (by omega) w) ?_
  rintro _ w1 ⟨rfl, rfl⟩
  rw [show 1 * N / 18446744073709551616 = 0 from by omega, show 1 * N % 18446744073709551616 = N from by omega]
  (repeat (first | refine k_nil ?_ | refine k_n ?_ | refine k_r ?_ | refine k_x ?_ | refine b_n ?_ | refine b_r ?_ | refine b_y rfl ?_ | refine b_z rfl ?_ | refine l_r ?_ | refine l_x ?_ | refine k_seq ?_ | refine k_blk ?_ | refine k_reg ?_ | refine k_ret ?_ | refine k_exit ?_ | refine k_skip ?_ | refine Zs ?_))
  refine s_set 23 false rfl (by decide) ?_
  (repeat (first | refine k_nil ?_ | refine k_n ?_ | refine k_r ?_ | refine k_x ?_ | refine b_n ?_ | refine b_r ?_ | refine b_y rfl ?_ | refine b_z rfl ?_ | refine l_r ?_ | refine l_x ?_ | refine k_seq ?_ | refine k_blk ?_ | refine k_reg ?_ | refine k_ret ?_ | refine k_exit ?_ | refine k_skip ?_ | refine Zs ?_ | refine Zn ?_ | refine Zu ?_ | refine Zg ?_))
  refine c_dec rfl (fun h => absurd h (by omega)) (fun _ => ?_)
  (repeat (first | refine k_nil ?_ | refine k_n ?_ | refine k_r ?_ | refine k_x ?_ | refine b_n ?_ | refine b_r ?_ | refine b_y rfl ?_ | refine b_z rfl ?_ | refine l_r ?_ | refine l_x ?_ | refine k_seq ?_ | refine k_blk ?_ | refine k_reg ?_ | refine k_ret ?_ | refine k_exit ?_ | refine k_skip ?_ | refine Zs ?_))
  try rw [ei]
  refine s_ms1 (m := N) (c := N) rfl rfl rfl rfl rfl rfl rfl (Nat.le_refl _) (by show 8 * N ≤ _; omega) (by omega) (fun g w2 n2 => ?_)
  have g2 := n2.ge
  have eb := n2.kp.get0 hb
  have ltb := lt_of_get hb
  (repeat (first | refine k_nil ?_ | refine k_n ?_ | refine k_r ?_ | refine k_x ?_ | refine b_n ?_ | refine b_r ?_ | refine b_y rfl ?_ | refine b_z rfl ?_ | refine l_r ?_ | refine l_x ?_ | refine k_seq ?_ | refine k_blk ?_ | refine k_reg ?_ | refine k_ret ?_ | refine k_exit ?_ | refine k_skip ?_ | refine Zs ?_))
  refine s_wr n2.blk (r_cpy (r := 1) (news := [.int .i64 x]) rfl rfl rfl rfl (by omega) rfl (fun j u hj => ?_) rfl n2.blk (by rw [List.length_replicate]; omega)) (fun w3 s3 => ?_)
  · match j, hj with
    | 0, hj => cases hj; exact cell_of_blk eb rfl
  have k3 : Kp No w1 w3 := n2.kp.trans s3.kp (fun q hq e => by have e : q = g := e; omega)
  have hl0 : (setAt (List.replicate N (Value.int .i64 0)) 0 [.int .i64 x]).length = N := by rw [setAt_length, List.length_replicate]
  (repeat (first | refine k_nil ?_ | refine k_n ?_ | refine k_r ?_ | refine k_x ?_ | refine b_n ?_ | refine b_r ?_ | refine b_y rfl ?_ | refine b_z rfl ?_ | refine l_r ?_ | refine l_x ?_ | refine k_seq ?_ | refine k_blk ?_ | refine k_reg ?_ | refine k_ret ?_ | refine k_exit ?_ | refine k_skip ?_ | refine Zs ?_))
  refine k_loop (σ := Nat) (fun n => [(7, .slice (some ⟨g, 0, none⟩) N N), (8, .int .i64 n)])
    (fun n m => 1 ≤ n ∧ n ≤ N ∧ Kp No w1 m ∧ ∃ cur : List Value, cur.length = N ∧ m.heap[g]? = some (.cells cur.toArray 3 (0, 0)) ∧ ∀ j, j < n → cur[j]? = some (.int .i64 x)) (fun n => N - n) 1 ⟨rfl, rfl, trivial⟩ ⟨Nat.le_refl _, h1, k3, _, hl0, s3.blk, fun j hj => ?_⟩ ?_
  · obtain rfl : j = 0 := by omega
    rw [setAt_eq _ _ _ (by simp; omega)]
    rfl
  rintro n l m ⟨hn1, hn2, km, cur, hcl, hcb, hcj⟩
  (repeat (first | refine k_nil ?_ | refine k_n ?_ | refine k_r ?_ | refine k_x ?_ | refine b_n ?_ | refine b_r ?_ | refine b_y rfl ?_ | refine b_z rfl ?_ | refine l_r ?_ | refine l_x ?_ | refine k_seq ?_ | refine k_blk ?_ | refine k_reg ?_ | refine k_ret ?_ | refine k_exit ?_ | refine k_skip ?_ | refine Zs ?_))
  refine c_dec rfl (fun hlt => ?_) (fun hge => ?_)
  · have hlt' : n < N := by omega
    (repeat (first | refine k_nil ?_ | refine k_n ?_ | refine k_r ?_ | refine k_x ?_ | refine b_n ?_ | refine b_r ?_ | refine b_y rfl ?_ | refine b_z rfl ?_ | refine l_r ?_ | refine l_x ?_ | refine k_seq ?_ | refine k_blk ?_ | refine k_reg ?_ | refine k_ret ?_ | refine k_exit ?_ | refine k_skip ?_ | refine Zs ?_))
    refine k_h (fun w' => Kp (fun k => k = g) m w') [(0, false), (1, false), (2, false), (3, false), (4, false), (5, false), (6, false), (7, true), (8, false), (9, false)] 99 (by kernel_rfl) (by exact waits_of_out (by kernel_rfl)) (by kernel_rfl) (by kernel_rfl) rfl rfl (fun m1 k1 _ => ?_)
    have k1' : Kp (fun k => k = g) m m1 := k1.mono (fun _ _ h => False.elim h)
    refine h_v k1' (fun w' hw => r_mv rfl) ?_
    refine h_v k1' (fun w' hw => r_mv rfl) ?_
    refine h_v k1' (fun w' hw => r_mv rfl) ?_
    refine h_v k1' (fun w' hw => r_slx (a' := some ⟨g, 0 + n * 1, none⟩) (n' := N - n) (c' := N - n) rfl rfl rfl rfl rfl (by omega) (by omega) (by omega) (by omega) (subA_at (by omega)) (by omega) (by omega)) ?_
    refine h_v k1' (fun w' hw => r_mv rfl) ?_
    refine h_v k1' (fun w' hw => r_mv rfl) ?_
    refine h_v k1' (fun w' hw => r_slx (a' := some ⟨g, 0, none⟩) (n' := n) (c' := N) rfl rfl rfl rfl rfl (by omega) (by omega) (by omega) (by omega) subA_0 (by omega) (by omega)) ?_
    have e1 := k1.get0 hcb
    refine h_wr e1 (r_cpy (r := min n (N - n)) (news := List.replicate (min n (N - n)) (.int .i64 x)) rfl rfl rfl rfl rfl (List.length_replicate ..) (fun j u hj => ?_) (by simp [List.all_replicate]; right; rfl) e1 (by omega)) (fun m2 s2 => ⟨fun _ => k1'.trans s2.kp (fun _ _ h => h), ?_⟩)
    · rw [List.getElem?_replicate] at hj
      split at hj
      · cases hj
        rw [addr_add]
        exact cell_of_blk e1 (by rw [Nat.zero_add]; exact hcj j (by omega))
      · cases hj
    have k2 : Kp (fun k => k = g) m m2 := k1'.trans s2.kp (fun _ _ h => h)
    refine h_v k2 (fun w' hw => r_add rfl rfl (by omega)) ?_
    refine h_v k2 (fun w' hw => r_as rfl) ?_
    refine h_nil ?_
    obtain ⟨q1, q2⟩ := setAt_rep (x := .int .i64 x) (m := min n (N - n)) hcl (by omega) hcj
    have e2 := s2.blk
    rw [show 0 + n * 1 = n from by omega] at e2
    (repeat (first | refine k_nil ?_ | refine k_n ?_ | refine k_r ?_ | refine k_x ?_ | refine b_n ?_ | refine b_r ?_ | refine b_y rfl ?_ | refine b_z rfl ?_ | refine l_r ?_ | refine l_x ?_ | refine k_seq ?_ | refine k_blk ?_ | refine k_reg ?_ | refine k_ret ?_ | refine k_exit ?_ | refine k_skip ?_ | refine Zs ?_))
    refine l_next (n + min n (N - n)) ⟨rfl, by rw [Int.natCast_add]; rfl, trivial⟩ ⟨by omega, by omega, km.trans k2 (fun q hq e => by omega), _, q1, e2, q2⟩ (by omega)
  · obtain rfl : n = N := by omega
    have hcur : cur = List.replicate n (.int .i64 x) := by
      refine List.ext_getElem? (fun j => ?_)
      by_cases hj : j < n
      · rw [hcj j hj, List.getElem?_replicate, if_pos hj]
      · rw [List.getElem?_eq_none (by omega), List.getElem?_eq_none (by rw [List.length_replicate]; omega)]
    subst hcur
    (repeat (first | refine k_nil ?_ | refine k_n ?_ | refine k_r ?_ | refine k_x ?_ | refine b_n ?_ | refine b_r ?_ | refine b_y rfl ?_ | refine b_z rfl ?_ | refine l_r ?_ | refine l_x ?_ | refine k_seq ?_ | refine k_blk ?_ | refine k_reg ?_ | refine k_ret ?_ | refine k_exit ?_ | refine k_skip ?_ | refine Zs ?_))
    exact ret_1 rfl rfl ⟨g, rfl, hcb, g2, km⟩
end Cd
end Go.Proofs.YtpamkidcmjfieaaDoor
