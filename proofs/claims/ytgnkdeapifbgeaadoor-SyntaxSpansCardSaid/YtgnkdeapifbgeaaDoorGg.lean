/- The parser adds statements; a number's digits. -/
import Derived.Test.YtgnkdeapifbgeaaDoorGf
namespace Go.Proofs.YtgnkdeapifbgeaaDoor.Sy
open Go Go.RowKit Fw
set_option linter.unusedVariables false
set_option maxRecDepth 20000
theorem lenS {X : Cx} {w : World} {s : PS} {V : VS} (h : At X w s V) : Ret Tryd.prog 65 [.pointer (some ⟨X.p, 4, none⟩)] w fun v w1 => v = .int .i64 (s.st.length : Int) ∧ w1 = w := by
  obtain ⟨ry, a2, o2, l2⟩ := h.ss
  obtain ⟨a, c, e, _⟩ := own_read o2
  have hb := h.blk
  rw [e] at hb
  refine ret_enter Tryd.func65 rfl Tryd.ntmps65 rfl ?_
  (repeat (first | refine k_nil ?_ | refine k_n ?_ | refine k_r ?_ | refine k_x ?_ | refine b_n ?_ | refine b_r ?_ | refine b_y rfl ?_ | refine b_z rfl ?_ | refine l_r ?_ | refine l_x ?_ | refine k_seq ?_ | refine k_blk ?_ | refine k_reg ?_ | refine k_ret ?_ | refine k_exit ?_ | refine k_skip ?_ | refine Zs ?_))
  exact ret_1 rfl rfl ⟨rfl, rfl⟩
theorem lenF {X : Cx} {w : World} {s : PS} {V : VS} (h : At X w s V) : Ret Tryd.prog 18 [.pointer (some ⟨X.p, 5, none⟩)] w fun v w1 => v = .int .i64 (s.fn.length : Int) ∧ w1 = w := by
  obtain ⟨ry, a2, o2, l2⟩ := h.fs
  obtain ⟨a, c, e, _⟩ := own_read o2
  have hb := h.blk
  rw [e] at hb
  refine ret_enter Tryd.func18 rfl Tryd.ntmps18 rfl ?_
  (repeat (first | refine k_nil ?_ | refine k_n ?_ | refine k_r ?_ | refine k_x ?_ | refine b_n ?_ | refine b_r ?_ | refine b_y rfl ?_ | refine b_z rfl ?_ | refine l_r ?_ | refine l_x ?_ | refine k_seq ?_ | refine k_blk ?_ | refine k_reg ?_ | refine k_ret ?_ | refine k_exit ?_ | refine k_skip ?_ | refine Zs ?_))
  exact ret_1 rfl rfl ⟨rfl, rfl⟩
theorem addF {X : Cx} {w : World} {s : PS} {V : VS} (h : At X w s V) (ok : Ok X) (fr : Int) (x : St) (lv mv : Value) (hl : LI w lv x.th) (hm : LI w mv x.el) (how : Ow V lv) (hom : Ow V mv) (hi : 1 ≤ s.i) :
    Does X 57 [.pointer (some ⟨X.p, 0, none⟩), .int .i64 fr, .agg (stC (x, lv, mv)).toArray] w V (add X.E fr x s) intV := by
  intro _
  have hlt := h.lt
  have hbig := ok.big
  have hsl := h.sl
  obtain ⟨la, lc, rfl⟩ := hl.val
  obtain ⟨ma, mc, rfl⟩ := hm.val
  refine retP_enter Tryd.func57 rfl Tryd.ntmps57 rfl ?_
  (repeat (first | refine k_nil ?_ | refine k_n ?_ | refine k_r ?_ | refine k_x ?_ | refine b_n ?_ | refine b_r ?_ | refine b_y rfl ?_ | refine b_z rfl ?_ | refine l_r ?_ | refine l_x ?_ | refine k_seq ?_ | refine k_blk ?_ | refine k_reg ?_ | refine k_ret ?_ | refine k_exit ?_ | refine k_skip ?_ | refine Zs ?_))
  refine s_box (cs := stC (x, .slice la x.th.length lc, .slice ma x.el.length mc)) rfl rfl (fun b5 w1 n1 => ?_)
  (repeat (first | refine k_nil ?_ | refine k_n ?_ | refine k_r ?_ | refine k_x ?_ | refine b_n ?_ | refine b_r ?_ | refine b_y rfl ?_ | refine b_z rfl ?_ | refine l_r ?_ | refine l_x ?_ | refine k_seq ?_ | refine k_blk ?_ | refine k_reg ?_ | refine k_ret ?_ | refine k_exit ?_ | refine k_skip ?_ | refine Zs ?_))
  refine s_call (us := []) (zs := []) (by kernel_rfl) rfl rfl (lenS (h.no n1.kp)) ?_
  rintro v w1' ⟨rfl, rfl⟩
  (repeat (first | refine k_nil ?_ | refine k_n ?_ | refine k_r ?_ | refine k_x ?_ | refine b_n ?_ | refine b_r ?_ | refine b_y rfl ?_ | refine b_z rfl ?_ | refine l_r ?_ | refine l_x ?_ | refine k_seq ?_ | refine k_blk ?_ | refine k_reg ?_ | refine k_ret ?_ | refine k_exit ?_ | refine k_skip ?_ | refine Zs ?_))
  refine c_dec rfl (fun q => ?_) (fun q => ?_)
  · (repeat (first | refine k_nil ?_ | refine k_n ?_ | refine k_r ?_ | refine k_x ?_ | refine b_n ?_ | refine b_r ?_ | refine b_y rfl ?_ | refine b_z rfl ?_ | refine l_r ?_ | refine l_x ?_ | refine k_seq ?_ | refine k_blk ?_ | refine k_reg ?_ | refine k_ret ?_ | refine k_exit ?_ | refine k_skip ?_ | refine Zs ?_))
    refine s_callX (us := []) (zs := []) (by kernel_rfl) rfl rfl (failF (h.no n1.kp) ok 5) ?_
    rintro c w3 ⟨rfl, k3⟩
    exact ⟨5, hr X.E s, by rw [add, if_pos (by omega)]; rfl, rfl, (n1.kp.no k3).mono fun _ _ h => h.elim⟩
  (repeat (first | refine k_nil ?_ | refine k_n ?_ | refine k_r ?_ | refine k_x ?_ | refine b_n ?_ | refine b_r ?_ | refine b_y rfl ?_ | refine b_z rfl ?_ | refine l_r ?_ | refine l_x ?_ | refine k_seq ?_ | refine k_blk ?_ | refine k_reg ?_ | refine k_ret ?_ | refine k_exit ?_ | refine k_skip ?_ | refine Zs ?_))
  refine s_call (us := []) (zs := []) (by kernel_rfl) rfl rfl (spanF (h.no n1.kp) ok (by omega) fr) ?_
  rintro v w2 ⟨rfl, k2⟩
  have g2 : Sg X w V w2 s V := ((Sg.start h).no n1.kp).no k2
  have B2 : Bx X w w2 V b5 (stC (x, .slice la x.th.length lc, .slice ma x.el.length mc)) 39 := (Bx.new (w0 := w) h (Nat.le_refl _) n1).no k2
  have hb2 : w2.heap[b5]? = some (.cells [Value.int .i64 x.k, .int .i64 x.f, .int .i64 x.e, sv x.nm, .int .i64 x.n, .int .i64 x.a, .int .i64 x.b, .slice la x.th.length lc, .slice ma x.el.length mc].toArray 39 (0, 0)) := B2.blk
  (repeat (first | refine k_nil ?_ | refine k_n ?_ | refine k_r ?_ | refine k_x ?_ | refine b_n ?_ | refine b_r ?_ | refine b_y rfl ?_ | refine b_z rfl ?_ | refine l_r ?_ | refine l_x ?_ | refine k_seq ?_ | refine k_blk ?_ | refine k_reg ?_ | refine k_ret ?_ | refine k_exit ?_ | refine k_skip ?_ | refine Zs ?_))
  refine s_st (vs := [.int .i64 fr, .int .i64 (pe X.E s)]) rfl rfl rfl rfl rfl hb2 (Nat.le_of_ble_eq_true rfl) (fun w3 s3 => ?_)
  obtain ⟨g3, B3⟩ := g2.put B2 (cs' := stC ({ x with f := fr, e := pe X.E s }, .slice la x.th.length lc, .slice ma x.el.length mc)) ⟨s3.kp, s3.sz, s3.blk⟩ rfl
  have h3 := g3.at_
  obtain ⟨rx, a1, o1, l1⟩ := h3.ss
  have hb3 := h3.blk
  (repeat (first | refine k_nil ?_ | refine k_n ?_ | refine k_r ?_ | refine k_x ?_ | refine b_n ?_ | refine b_r ?_ | refine b_y rfl ?_ | refine b_z rfl ?_ | refine l_r ?_ | refine l_x ?_ | refine k_seq ?_ | refine k_blk ?_ | refine k_reg ?_ | refine k_ret ?_ | refine k_exit ?_ | refine k_skip ?_ | refine Zs ?_))
  have B3' : w3.heap[b5]? = some (.cells (stC ({ x with f := fr, e := pe X.E s }, .slice la x.th.length lc, .slice ma x.el.length mc)).toArray 39 (0, 0)) := B3.blk
  refine k_h (fun w' => Kp (Sx X V) w3 w') [(0, false), (1, false), (2, false), (3, false), (4, true), (5, false)] 6 (by kernel_rfl) (waits_none) (by kernel_rfl) (by kernel_rfl) (by kernel_rfl) rfl (fun w4 k4 q4 => ?_)
  have k4' : Kp (Sx X V) w3 w4 := k4.mono fun _ _ h => h.elim
  refine h_v k4' (fun w' hw => r_mv rfl) ?_
  refine h_v k4' (fun w' hw => r_nc rfl) ?_
  refine h_v k4' (fun w' hw => r_fa rfl rfl) ?_
  refine h_v k4' (fun w' hw => r_ldb (vs := stC ({ x with f := fr, e := pe X.E s }, .slice la x.th.length lc, .slice ma x.el.length mc)) rfl rfl rfl (hw.get B3' B3.ns) rfl rfl) ?_
  have h4 := h3.no k4
  have o4 := own_kp o1 k4 fun _ _ h => h
  refine h_call (us := []) (zs := []) (by kernel_rfl) rfl rfl (arS X.p 4 [X.tv, X.wv, .int .i64 (s.i : Int), V.x, V.s, V.f] 64 V.s s.st.length (rx.flatMap stC) { x with f := fr, e := pe X.E s } la ma x.th.length lc x.el.length mc w4 h4.blk rfl o4 (by omega) rfl) ?_
  rintro v w5 ⟨rfl, v1, hb5, o5, k5, row5⟩
  have k5' : Kp (Sx X V) w4 w5 := k5.mono fun i _ e => e.elim .inl fun e => .inr (.inr (.inl e))
  have kk : Kp (Sx X V) w3 w5 := k4'.trans k5' fun _ _ h => h
  refine ⟨fun _ => kk, ?_⟩
  refine h_v kk (fun w' hw => r_as rfl) ?_
  refine h_nil ?_
  have P : ∀ {base : Nat} {e : TypeId} {size : Nat} {v : Value} {n : Nat} {cs : List Value}, w4.ownsRow base e size v n cs → Nat.beq e 64 = false → Nat.beq e 39 = false → w5.ownsRow base e size v n cs := fun ho he he0 => own_put2 h4 o4 k5 ho he he0
  obtain ⟨rx', a1', o1', l1'⟩ := h4.xs
  obtain ⟨ry, a2, o2, l2⟩ := h4.ss
  obtain ⟨rz, a3, o3, l3⟩ := h4.fs
  have l1'' : ∀ r ∈ rx, (LI w5 r.2.1 r.1.th ∧ Ow V r.2.1) ∧ LI w5 r.2.2 r.1.el ∧ Ow V r.2.2 := fun r hr => ⟨⟨P (own_kp (l1 r hr).1.1 k4 fun _ _ h => h) rfl rfl, (l1 r hr).1.2⟩, P (own_kp (l1 r hr).2.1 k4 fun _ _ h => h) rfl rfl, (l1 r hr).2.2⟩
  have up : ∀ {v : Value} {l : List Int}, LI w v l → LI w5 v l := fun hv => P (own_kp (own_kp (own_kp hv (n1.kp.no k2) fun _ _ h => h) s3.kp (fun g hg e => by
    obtain ⟨c, hc⟩ := own_ty (own_kp hv (n1.kp.no k2) fun _ _ h => h) hg
    exact ty_ne hc hb2 rfl e)) k4 fun _ _ h => h) rfl rfl
  (repeat (first | refine k_nil ?_ | refine k_n ?_ | refine k_r ?_ | refine k_x ?_ | refine b_n ?_ | refine b_r ?_ | refine b_y rfl ?_ | refine b_z rfl ?_ | refine l_r ?_ | refine l_x ?_ | refine k_seq ?_ | refine k_blk ?_ | refine k_reg ?_ | refine k_ret ?_ | refine k_exit ?_ | refine k_skip ?_ | refine Zs ?_))
  refine retP_1 rfl rfl ⟨_, { s with st := s.st ++ [{ x with f := fr, e := pe X.E s }] }, { V with s := v1 }, by rw [add, if_neg (by omega)], rfl, ⟨hb5, P h4.tk rfl rfl, P h4.wd rfl rfl,
    ⟨rx', a1', P o1' rfl rfl, fun r hr => ⟨P (l1' r hr).1 rfl rfl, (l1' r hr).2⟩⟩, ⟨rx ++ [({ x with f := fr, e := pe X.E s }, .slice la x.th.length lc, .slice ma x.el.length mc)], by simp [a1], ?_, ?_⟩, ⟨rz, a3, P o3 rfl rfl, fun r hr => ⟨⟨P (l3 r hr).1.1 rfl rfl, (l3 r hr).1.2⟩, P (l3 r hr).2.1 rfl rfl, (l3 r hr).2.2⟩⟩, hlt, h4.xl, by simp; omega, h4.fl, fun b hb => Nat.lt_of_lt_of_le (h4.ob b hb) k5.size⟩, ?_⟩
  · rw [List.flatMap_append]
    simpa using o5
  · intro r hr
    rcases List.mem_append.1 hr with hr | hr
    · exact l1'' r hr
    · rw [List.mem_singleton] at hr; subst hr; exact ⟨⟨up hl, how⟩, up hm, hom⟩
  · refine (g3.gs.no k4).trans ⟨k5', fun b hb hs => ?_, fun b hb hs => hs⟩
    rcases hs with hs | hs | hs | hs
    · exact .inl hs
    · exact .inr (.inl hs)
    · rcases row5 b hs with h | h
      · exact .inr (.inr (.inl h))
      · omega
    · exact .inr (.inr (.inr hs))
theorem wrap_u8 {n : Int} (h : 0 ≤ n ∧ n < 256) : IntKind.u8.wrap n = n := by
  simp [IntKind.wrap, IntKind.bits, IntKind.signed]; omega
theorem num_step (l : List Int) (i : Nat) (c : Int) (h : l[i]? = some c) : num (l.take (i + 1)) = num (l.take i) * 10 + (c - 48) := by
  have : l.take (i + 1) = l.take i ++ [c] := by rw [List.take_add_one, h]; rfl
  rw [this, num, List.foldl_append]; rfl
theorem num_tk (l : List Int) (h : ∀ c ∈ l, 48 ≤ c ∧ c ≤ 57) : ∀ i, i ≤ l.length → 0 ≤ num (l.take i) ∧ num (l.take i) < 10 ^ i := by
  intro i
  induction i with
  | zero => intro _; simp [num]
  | succ i ih =>
    intro hi
    have h1 := ih (by omega)
    obtain ⟨c, hc⟩ : ∃ c, l[i]? = some c := ⟨_, List.getElem?_eq_getElem (by omega)⟩
    have h2 := h c (List.mem_of_getElem? hc)
    rw [num_step l i c hc, Int.pow_succ]
    omega
theorem numberF (x : ByteArray) (w : World) (hs : x.size ≤ 18) (hd : ∀ c ∈ B x, 48 ≤ c ∧ c ≤ 57) : Ret Tryd.prog 62 [.string x] w fun v w1 => v = .int .i64 (num (B x)) ∧ w1 = w := by
  have hlen := B_len x
  refine ret_enter Tryd.func62 rfl Tryd.ntmps62 rfl ?_
  (repeat (first | refine k_nil ?_ | refine k_n ?_ | refine k_r ?_ | refine k_x ?_ | refine b_n ?_ | refine b_r ?_ | refine b_y rfl ?_ | refine b_z rfl ?_ | refine l_r ?_ | refine l_x ?_ | refine k_seq ?_ | refine k_blk ?_ | refine k_reg ?_ | refine k_ret ?_ | refine k_exit ?_ | refine k_skip ?_ | refine Zs ?_))
  refine k_loop (σ := Nat) (fun i => [(0, .string x), (3, .int .i64 (num ((B x).take i))), (6, .int .i64 (x.size : Int)), (7, .int .i64 (i : Int))]) (fun i w1 => w1 = w ∧ i ≤ x.size) (fun i => x.size - i) 0 ⟨rfl, rfl, rfl, rfl, trivial⟩ ⟨rfl, Nat.zero_le _⟩ ?_
  rintro i l w1 ⟨rfl, hi⟩
  (repeat (first | refine k_nil ?_ | refine k_n ?_ | refine k_r ?_ | refine k_x ?_ | refine b_n ?_ | refine b_r ?_ | refine b_y rfl ?_ | refine b_z rfl ?_ | refine l_r ?_ | refine l_x ?_ | refine k_seq ?_ | refine k_blk ?_ | refine k_reg ?_ | refine k_ret ?_ | refine k_exit ?_ | refine k_skip ?_ | refine Zs ?_))
  refine c_dec rfl (fun q => ?_) (fun q => ?_)
  · have q : i < x.size := by omega
    obtain ⟨c, hc⟩ : ∃ c, (B x)[i]? = some c := ⟨_, List.getElem?_eq_getElem (by omega)⟩
    have hb := B_get hc
    have h2 := hd c (List.mem_of_getElem? hc)
    obtain ⟨h3, h4⟩ := num_tk (B x) hd i (by omega)
    have h5 : (10 : Int) ^ i ≤ 10 ^ 17 := (show ∀ j : Fin 18, (10 : Int) ^ (j : Nat) ≤ 10 ^ 17 by decide) ⟨i, by omega⟩
    have h6 : num ((B x).take i) < 100000000000000000 := by
      have : (10 : Int) ^ 17 = 100000000000000000 := by decide
      omega
    have hst := num_step (B x) i c hc
    (repeat (first | refine k_nil ?_ | refine k_n ?_ | refine k_r ?_ | refine k_x ?_ | refine b_n ?_ | refine b_r ?_ | refine b_y rfl ?_ | refine b_z rfl ?_ | refine l_r ?_ | refine l_x ?_ | refine k_seq ?_ | refine k_blk ?_ | refine k_reg ?_ | refine k_ret ?_ | refine k_exit ?_ | refine k_skip ?_ | refine Zs ?_))
    refine s_v (r_ix rfl rfl rfl (by omega) (by omega)) ?_
    rw [hb]
    (repeat (first | refine k_nil ?_ | refine k_n ?_ | refine k_r ?_ | refine k_x ?_ | refine b_n ?_ | refine b_r ?_ | refine b_y rfl ?_ | refine b_z rfl ?_ | refine l_r ?_ | refine l_x ?_ | refine k_seq ?_ | refine k_blk ?_ | refine k_reg ?_ | refine k_ret ?_ | refine k_exit ?_ | refine k_skip ?_ | refine Zs ?_))
    refine l_next (i + 1) ⟨rfl, by
      show Value.int .i64 (IntKind.i64.wrap (num ((B x).take i) * 10 + IntKind.i64.wrap (IntKind.u8.wrap (c - 48)))) = _
      rw [wrap_u8 (n := c - 48) (by omega), show IntKind.i64.wrap (c - 48) = c - 48 from wrap_in (by omega), show IntKind.i64.wrap (num ((B x).take i) * 10 + (c - 48)) = num ((B x).take i) * 10 + (c - 48) from wrap_in (by omega), hst], rfl, rfl, trivial⟩ ⟨rfl, by omega⟩ (by omega)
  · (repeat (first | refine k_nil ?_ | refine k_n ?_ | refine k_r ?_ | refine k_x ?_ | refine b_n ?_ | refine b_r ?_ | refine b_y rfl ?_ | refine b_z rfl ?_ | refine l_r ?_ | refine l_x ?_ | refine k_seq ?_ | refine k_blk ?_ | refine k_reg ?_ | refine k_ret ?_ | refine k_exit ?_ | refine k_skip ?_ | refine Zs ?_))
    have : i = x.size := by omega
    refine ret_1 rfl rfl ⟨?_, rfl⟩
    rw [this, ← hlen, List.take_length]
end Go.Proofs.YtgnkdeapifbgeaaDoor.Sy
