/- The parser puts expressions and statements; a number's digits. -/
import Derived.Test.YtgnkdeapifbgeaaDoorGe
namespace Go.Proofs.YtgnkdeapifbgeaaDoor.Sy
open Go Go.RowKit Fw
set_option linter.unusedVariables false
set_option maxRecDepth 20000
/-- A list's value. -/
theorem LI.val {w : World} {v : Value} {l : List Int} (h : LI w v l) : ∃ a c, v = .slice a l.length c := by
  obtain ⟨a, c, e, _⟩ := own_read h
  exact ⟨a, c, e⟩
theorem LS.val {w : World} {v : Value} {l : List (List Int)} (h : LS w v l) : ∃ a c, v = .slice a l.length c := by
  obtain ⟨a, c, e, _⟩ := own_read h
  exact ⟨a, c, e⟩
/-- Behind a Put: all but one arena is kept. -/
theorem own_put2 {X : Cx} {w w1 : World} {s : PS} {V : VS} (h : At X w s V) {v0 : Value} {base0 size0 n0 : Nat} {cs0 : List Value} {e0 : TypeId} (o0 : w.ownsRow base0 e0 size0 v0 n0 cs0) (k : Kp (fun i => i = X.p ∨ v0.ownBlock = some i) w w1)
    {base : Nat} {e : TypeId} {size : Nat} {v : Value} {n : Nat} {cs : List Value} (ho : w.ownsRow base e size v n cs) (he : Nat.beq e 64 = false) (he0 : Nat.beq e e0 = false) : w1.ownsRow base e size v n cs :=
  own_kp ho k fun g hg hs => by
    obtain ⟨c, hc⟩ := own_ty ho hg
    rcases hs with hs | hs
    · exact ty_ne hc h.blk he hs
    · obtain ⟨c', hc'⟩ := own_ty o0 hs
      exact ty_ne hc hc' he0 rfl
theorem putF {X : Cx} {w : World} {s : PS} {V : VS} (h : At X w s V) (ok : Ok X) (fr : Int) (x : Ex) (lv : Value) (hl : LI w lv x.l) (how : Ow V lv) (hx : s.ex.length + 1 ≤ s.i) :
    Does X 70 [.pointer (some ⟨X.p, 0, none⟩), .int .i64 fr, .agg (exC (x, lv)).toArray] w V (put X.E fr x s) intV := by
  intro _
  have hlt := h.lt
  have hbig := ok.big
  obtain ⟨la, lc, rfl⟩ := hl.val
  refine retP_enter Tryd.func70 rfl Tryd.ntmps70 rfl ?_
  (repeat (first | refine k_nil ?_ | refine k_n ?_ | refine k_r ?_ | refine k_x ?_ | refine b_n ?_ | refine b_r ?_ | refine b_y rfl ?_ | refine b_z rfl ?_ | refine l_r ?_ | refine l_x ?_ | refine k_seq ?_ | refine k_blk ?_ | refine k_reg ?_ | refine k_ret ?_ | refine k_exit ?_ | refine k_skip ?_ | refine Zs ?_))
  refine s_box (cs := exC (x, .slice la x.l.length lc)) rfl rfl (fun b5 w1 n1 => ?_)
  (repeat (first | refine k_nil ?_ | refine k_n ?_ | refine k_r ?_ | refine k_x ?_ | refine b_n ?_ | refine b_r ?_ | refine b_y rfl ?_ | refine b_z rfl ?_ | refine l_r ?_ | refine l_x ?_ | refine k_seq ?_ | refine k_blk ?_ | refine k_reg ?_ | refine k_ret ?_ | refine k_exit ?_ | refine k_skip ?_ | refine Zs ?_))
  refine s_call (us := []) (zs := []) (by kernel_rfl) rfl rfl (spanF (h.no n1.kp) ok (by omega) fr) ?_
  rintro v w2 ⟨rfl, k2⟩
  have g2 : Sg X w V w2 s V := ((Sg.start h).no n1.kp).no k2
  have B2 : Bx X w w2 V b5 (exC (x, .slice la x.l.length lc)) 35 := (Bx.new (w0 := w) h (Nat.le_refl _) n1).no k2
  have hb2 : w2.heap[b5]? = some (.cells [Value.int .i64 x.k, .int .i64 x.f, .int .i64 x.e, .int .i64 x.n, sv x.nm, sv x.op, .int .i64 x.a, .int .i64 x.b, .slice la x.l.length lc].toArray 35 (0, 0)) := B2.blk
  (repeat (first | refine k_nil ?_ | refine k_n ?_ | refine k_r ?_ | refine k_x ?_ | refine b_n ?_ | refine b_r ?_ | refine b_y rfl ?_ | refine b_z rfl ?_ | refine l_r ?_ | refine l_x ?_ | refine k_seq ?_ | refine k_blk ?_ | refine k_reg ?_ | refine k_ret ?_ | refine k_exit ?_ | refine k_skip ?_ | refine Zs ?_))
  refine s_st (vs := [.int .i64 fr, .int .i64 (pe X.E s)]) rfl rfl rfl rfl rfl hb2 (Nat.le_of_ble_eq_true rfl) (fun w3 s3 => ?_)
  obtain ⟨g3, B3⟩ := g2.put B2 (cs' := exC ({ x with f := fr, e := pe X.E s }, .slice la x.l.length lc)) ⟨s3.kp, s3.sz, s3.blk⟩ rfl
  have h3 := g3.at_
  obtain ⟨rx, a1, o1, l1⟩ := h3.xs
  have hb3 := h3.blk
  (repeat (first | refine k_nil ?_ | refine k_n ?_ | refine k_r ?_ | refine k_x ?_ | refine b_n ?_ | refine b_r ?_ | refine b_y rfl ?_ | refine b_z rfl ?_ | refine l_r ?_ | refine l_x ?_ | refine k_seq ?_ | refine k_blk ?_ | refine k_reg ?_ | refine k_ret ?_ | refine k_exit ?_ | refine k_skip ?_ | refine Zs ?_))
  have B3' : w3.heap[b5]? = some (.cells (exC ({ x with f := fr, e := pe X.E s }, .slice la x.l.length lc)).toArray 35 (0, 0)) := B3.blk
  refine k_h (fun w' => Kp (Sx X V) w3 w') [(0, false), (1, false), (2, false), (3, false), (4, true), (5, false)] 6 (by kernel_rfl) (waits_none) (by kernel_rfl) (by kernel_rfl) (by kernel_rfl) rfl (fun w4 k4 q4 => ?_)
  have k4' : Kp (Sx X V) w3 w4 := k4.mono fun _ _ h => h.elim
  refine h_v k4' (fun w' hw => r_mv rfl) ?_
  refine h_v k4' (fun w' hw => r_nc rfl) ?_
  refine h_v k4' (fun w' hw => r_fa rfl rfl) ?_
  refine h_v k4' (fun w' hw => r_ldb (vs := exC ({ x with f := fr, e := pe X.E s }, .slice la x.l.length lc)) rfl rfl rfl (hw.get B3' B3.ns) rfl rfl) ?_
  have h4 := h3.no k4
  have o4 := own_kp o1 k4 fun _ _ h => h
  refine h_call (us := []) (zs := []) (by kernel_rfl) rfl rfl (arX X.p 3 [X.tv, X.wv, .int .i64 (s.i : Int), V.x, V.s, V.f] 64 V.x s.ex.length (rx.flatMap exC) { x with f := fr, e := pe X.E s } la x.l.length lc w4 h4.blk rfl o4 (by omega) rfl) ?_
  rintro v w5 ⟨rfl, v1, hb5, o5, k5, row5⟩
  have k5' : Kp (Sx X V) w4 w5 := k5.mono fun i _ e => e.elim .inl fun e => .inr (.inl e)
  have kk : Kp (Sx X V) w3 w5 := k4'.trans k5' fun _ _ h => h
  refine ⟨fun _ => kk, ?_⟩
  refine h_v kk (fun w' hw => r_as rfl) ?_
  refine h_nil ?_
  have P : ∀ {base : Nat} {e : TypeId} {size : Nat} {v : Value} {n : Nat} {cs : List Value}, w4.ownsRow base e size v n cs → Nat.beq e 64 = false → Nat.beq e 35 = false → w5.ownsRow base e size v n cs := fun ho he he0 => own_put2 h4 o4 k5 ho he he0
  obtain ⟨rx', a1', o1', l1'⟩ := h4.xs
  obtain ⟨ry, a2, o2, l2⟩ := h4.ss
  obtain ⟨rz, a3, o3, l3⟩ := h4.fs
  have l1'' : ∀ r ∈ rx, LI w5 r.2 r.1.l ∧ Ow V r.2 := fun r hr => ⟨P (own_kp (l1 r hr).1 k4 fun _ _ h => h) rfl rfl, (l1 r hr).2⟩
  have hl5 : LI w5 (.slice la x.l.length lc) x.l := P (own_kp (own_kp (own_gs h (((n1.kp.no k2).mono fun _ _ h => h.elim)) hl rfl) s3.kp (fun g hg e => by
    obtain ⟨c, hc⟩ := own_ty (own_kp hl (n1.kp.no k2) fun _ _ h => h) hg
    exact ty_ne hc hb2 rfl e)) k4 fun _ _ h => h) rfl rfl
  (repeat (first | refine k_nil ?_ | refine k_n ?_ | refine k_r ?_ | refine k_x ?_ | refine b_n ?_ | refine b_r ?_ | refine b_y rfl ?_ | refine b_z rfl ?_ | refine l_r ?_ | refine l_x ?_ | refine k_seq ?_ | refine k_blk ?_ | refine k_reg ?_ | refine k_ret ?_ | refine k_exit ?_ | refine k_skip ?_ | refine Zs ?_))
  refine retP_1 rfl rfl ⟨_, { s with ex := s.ex ++ [{ x with f := fr, e := pe X.E s }] }, { V with x := v1 }, rfl, rfl, ⟨hb5, P h4.tk rfl rfl, P h4.wd rfl rfl, ⟨rx ++ [({ x with f := fr, e := pe X.E s }, .slice la x.l.length lc)], by simp [a1], ?_, ?_⟩,
    ⟨ry, a2, P o2 rfl rfl, fun r hr => ⟨⟨P (l2 r hr).1.1 rfl rfl, (l2 r hr).1.2⟩, P (l2 r hr).2.1 rfl rfl, (l2 r hr).2.2⟩⟩, ⟨rz, a3, P o3 rfl rfl, fun r hr => ⟨⟨P (l3 r hr).1.1 rfl rfl, (l3 r hr).1.2⟩, P (l3 r hr).2.1 rfl rfl, (l3 r hr).2.2⟩⟩, hlt, by simp; omega, h4.sl, h4.fl, fun b hb => Nat.lt_of_lt_of_le (h4.ob b hb) k5.size⟩, ?_⟩
  · rw [List.flatMap_append]
    simpa using o5
  · intro r hr
    rcases List.mem_append.1 hr with hr | hr
    · exact l1'' r hr
    · rw [List.mem_singleton] at hr; subst hr; exact ⟨hl5, how⟩
  · refine (g3.gs.no k4).trans ⟨k5', fun b hb hs => ?_, fun b hb hs => hs⟩
    rcases hs with hs | hs | hs | hs
    · exact .inl hs
    · rcases row5 b hs with h | h
      · exact .inr (.inl h)
      · omega
    · exact .inr (.inr (.inl hs))
    · exact .inr (.inr (.inr hs))
end Go.Proofs.YtgnkdeapifbgeaaDoor.Sy
