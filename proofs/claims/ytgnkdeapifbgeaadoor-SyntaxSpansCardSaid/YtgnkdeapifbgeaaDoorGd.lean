/- The parser's small parts: want, kind, deep, span, number. -/
import Derived.Test.YtgnkdeapifbgeaaDoorGc
namespace Go.Proofs.YtgnkdeapifbgeaaDoor.Sy
open Go Go.RowKit Fw
set_option linter.unusedVariables false
set_option maxRecDepth 20000
theorem Rd1 {w : World} {b : Nat} {x : ByteArray} {T : TypeId} (h : w.heap[b]? = some (.cells [Value.string x].toArray T (0, 0))) : Tk.Rd w (some ⟨b, 0, none⟩) [x] :=
  .inr ⟨b, 0, rfl, fun j s hj => by
    cases j with
    | zero => cases hj; exact cell_of_blk h rfl
    | succ j => simp at hj⟩
/-- A row of texts that was just made. -/
theorem RdN {w : World} {b : Nat} {ls : List ByteArray} {T : TypeId} (h : w.heap[b]? = some (.cells (ls.map Value.string).toArray T (0, 0))) : Tk.Rd w (some ⟨b, 0, none⟩) ls :=
  .inr ⟨b, 0, rfl, fun j s hj => by rw [Nat.zero_add]; exact cell_of_blk h (by rw [List.getElem?_map, hj]; rfl)⟩
def unitV {α : Type} (_ : α) (_ : World) (v : Value) : Prop := v = .tuple #[]
def intV (x : Int) (_ : World) (v : Value) : Prop := v = .int .i64 x
def strV (x : List Int) (_ : World) (v : Value) : Prop := v = sv x
theorem wantF {X : Cx} {w : World} {s : PS} {V : VS} (h : At X w s V) (ok : Ok X) (y : ByteArray) (hy : B y ≠ []) :
    Does X 29 [.pointer (some ⟨X.p, 0, none⟩), .string y] w V (want X.E (B y) s) unitV := by
  intro _
  refine retP_enter Tryd.func29 rfl Tryd.ntmps29 rfl ?_
  (repeat (first | refine k_nil ?_ | refine k_n ?_ | refine k_r ?_ | refine k_x ?_ | refine b_n ?_ | refine b_r ?_ | refine b_y rfl ?_ | refine b_z rfl ?_ | refine l_r ?_ | refine l_x ?_ | refine k_seq ?_ | refine k_blk ?_ | refine k_reg ?_ | refine k_ret ?_ | refine k_exit ?_ | refine k_skip ?_ | refine Zs ?_))
  refine s_bs (cs := [.string y]) rfl (fun b1 w1 n1 => ?_)
  have h1 := h.no n1.kp
  refine s_call (us := []) (zs := []) (by kernel_rfl) rfl rfl (takeF h1 ok [y] (some ⟨b1, 0, none⟩) 1 (Rd1 n1.blk) (Nat.le_of_ble_eq_true rfl) (by simpa using hy)) ?_
  rintro v w2 ⟨x, hx, ⟨q, rfl, hz, g2⟩ | ⟨q, rfl, k2⟩⟩
  · (repeat (first | refine k_nil ?_ | refine k_n ?_ | refine k_r ?_ | refine k_x ?_ | refine b_n ?_ | refine b_r ?_ | refine b_y rfl ?_ | refine b_z rfl ?_ | refine l_r ?_ | refine l_x ?_ | refine k_seq ?_ | refine k_blk ?_ | refine k_reg ?_ | refine k_ret ?_ | refine k_exit ?_ | refine k_skip ?_ | refine Zs ?_))
    refine c_b rfl (fun hb => (by rw [show _ = _ from hz] at hb; cases hb)) (fun hb => ?_)
    (repeat (first | refine k_nil ?_ | refine k_n ?_ | refine k_r ?_ | refine k_x ?_ | refine b_n ?_ | refine b_r ?_ | refine b_y rfl ?_ | refine b_z rfl ?_ | refine l_r ?_ | refine l_x ?_ | refine k_seq ?_ | refine k_blk ?_ | refine k_reg ?_ | refine k_ret ?_ | refine k_exit ?_ | refine k_skip ?_ | refine Zs ?_))
    refine endP_0 rfl ⟨(), adv s, V, ?_, rfl, (Sg.no (Sg.start h) n1.kp).call g2⟩
    rw [want, if_pos (by simpa using q)]
  · (repeat (first | refine k_nil ?_ | refine k_n ?_ | refine k_r ?_ | refine k_x ?_ | refine b_n ?_ | refine b_r ?_ | refine b_y rfl ?_ | refine b_z rfl ?_ | refine l_r ?_ | refine l_x ?_ | refine k_seq ?_ | refine k_blk ?_ | refine k_reg ?_ | refine k_ret ?_ | refine k_exit ?_ | refine k_skip ?_ | refine Zs ?_))
    refine c_b rfl (fun hb => ?_) (fun hb => (by rw [show _ = _ from ez] at hb; cases hb))
    (repeat (first | refine k_nil ?_ | refine k_n ?_ | refine k_r ?_ | refine k_x ?_ | refine b_n ?_ | refine b_r ?_ | refine b_y rfl ?_ | refine b_z rfl ?_ | refine l_r ?_ | refine l_x ?_ | refine k_seq ?_ | refine k_blk ?_ | refine k_reg ?_ | refine k_ret ?_ | refine k_exit ?_ | refine k_skip ?_ | refine Zs ?_))
    refine s_callX (us := []) (zs := []) (by kernel_rfl) rfl rfl (failF (h1.no k2) ok 3) ?_
    rintro c w3 ⟨rfl, k3⟩
    exact ⟨3, hr X.E s, by rw [want, if_neg (by simpa using q)]; rfl, rfl, (((n1.kp).no k2).no k3).mono fun _ _ h => h.elim⟩
theorem kindF {X : Cx} {w : World} {s : PS} {V : VS} (h : At X w s V) (ok : Ok X) (k : Int) (hk : k ≠ 0) :
    Does X 30 [.pointer (some ⟨X.p, 0, none⟩), .int .i64 k] w V (knd X.E k s) strV := by
  intro _
  obtain ⟨t, x, ht, hx, e1, e2, e3⟩ := h.tok ok
  obtain ⟨g, c, e, hc⟩ := h.tokens
  obtain ⟨c1, c2, c3⟩ := hc _ _ ht
  have hb := h.blk
  rw [e] at hb
  have hl := h.lt
  have hll := ok.len
  have hbig := ok.big
  refine retP_enter Tryd.func30 rfl Tryd.ntmps30 rfl ?_
  (repeat (first | refine k_nil ?_ | refine k_n ?_ | refine k_r ?_ | refine k_x ?_ | refine b_n ?_ | refine b_r ?_ | refine b_y rfl ?_ | refine b_z rfl ?_ | refine l_r ?_ | refine l_x ?_ | refine k_seq ?_ | refine k_blk ?_ | refine k_reg ?_ | refine k_ret ?_ | refine k_exit ?_ | refine k_skip ?_ | refine Zs ?_))
  refine k_q (by kernel_rfl) (by kernel_rfl) ?_
  (repeat (first | refine Zq ?_ | refine Zqn ?_ | refine Zqu ?_ | refine Zqg ?_))
  refine q_nil (fun w1 k1 => ?_)
  have h1 := h.no k1
  (repeat (first | refine k_nil ?_ | refine k_n ?_ | refine k_r ?_ | refine k_x ?_ | refine b_n ?_ | refine b_r ?_ | refine b_y rfl ?_ | refine b_z rfl ?_ | refine l_r ?_ | refine l_x ?_ | refine k_seq ?_ | refine k_blk ?_ | refine k_reg ?_ | refine k_ret ?_ | refine k_exit ?_ | refine k_skip ?_ | refine Zs ?_))
  refine c_ne rfl (fun q => ?_) (fun q => ?_)
  · (repeat (first | refine k_nil ?_ | refine k_n ?_ | refine k_r ?_ | refine k_x ?_ | refine b_n ?_ | refine b_r ?_ | refine b_y rfl ?_ | refine b_z rfl ?_ | refine l_r ?_ | refine l_x ?_ | refine k_seq ?_ | refine k_blk ?_ | refine k_reg ?_ | refine k_ret ?_ | refine k_exit ?_ | refine k_skip ?_ | refine Zs ?_))
    refine s_callX (us := []) (zs := []) (by kernel_rfl) rfl rfl (failF h1 ok 3) ?_
    rintro c w3 ⟨rfl, k3⟩
    exact ⟨3, hr X.E s, by rw [knd, if_neg (by rw [e1]; exact q)]; rfl, rfl, (k1.no k3).mono fun _ _ h => h.elim⟩
  · have hb1 := h1.blk
    obtain ⟨g', cw, e', hc'⟩ := h1.texts ok
    rw [e'] at hb1
    (repeat (first | refine k_nil ?_ | refine k_n ?_ | refine k_r ?_ | refine k_x ?_ | refine b_n ?_ | refine b_r ?_ | refine b_y rfl ?_ | refine b_z rfl ?_ | refine l_r ?_ | refine l_x ?_ | refine k_seq ?_ | refine k_blk ?_ | refine k_reg ?_ | refine k_ret ?_ | refine k_exit ?_ | refine k_skip ?_ | refine Zs ?_))
    refine s_st (vs := [.int .i64 ((s.i : Int) + 1)]) rfl rfl rfl rfl rfl hb1 (Nat.le_of_ble_eq_true rfl) (fun w2 s2 => ?_)
    have s2' : Sb w1 X.p [X.tv, X.wv, .int .i64 ((s.i + 1 : Nat) : Int), V.x, V.s, V.f] 64 w2 := ⟨s2.kp, s2.sz, by rw [e']; exact s2.blk⟩
    have g2 := h1.adv ok (.inr (by rw [e1, q]; exact hk)) s2'
    have hb2 : w2.heap[X.p]? = some (.cells [X.tv, .slice (some ⟨g', 0, none⟩) X.wl.length cw, .int .i64 ((s.i : Int) + 1), V.x, V.s, V.f].toArray 64 (0, 0)) := s2.blk
    obtain ⟨g'', cw', e'', hc''⟩ := g2.at_.texts ok
    rw [e'] at e''
    cases e''
    have c2 : w2.cell? ⟨g', 0 + ((s.i : Int) + 1 - 1).toNat * 1, none⟩ = some (.string x) := by
      have := hc'' _ _ hx
      have e4 : ((s.i : Int) + 1 - 1).toNat = (s.i : Int).toNat := by omega
      rw [e4]; exact this
    (repeat (first | refine k_nil ?_ | refine k_n ?_ | refine k_r ?_ | refine k_x ?_ | refine b_n ?_ | refine b_r ?_ | refine b_y rfl ?_ | refine b_z rfl ?_ | refine l_r ?_ | refine l_x ?_ | refine k_seq ?_ | refine k_blk ?_ | refine k_reg ?_ | refine k_ret ?_ | refine k_exit ?_ | refine k_skip ?_ | refine Zs ?_))
    refine k_q (by kernel_rfl) (by kernel_rfl) ?_
    (repeat (first | refine Zq ?_ | refine Zqn ?_ | refine Zqu ?_ | refine Zqg ?_))
    refine q_nil (fun w3 k3 => ?_)
    (repeat (first | refine k_nil ?_ | refine k_n ?_ | refine k_r ?_ | refine k_x ?_ | refine b_n ?_ | refine b_r ?_ | refine b_y rfl ?_ | refine b_z rfl ?_ | refine l_r ?_ | refine l_x ?_ | refine k_seq ?_ | refine k_blk ?_ | refine k_reg ?_ | refine k_ret ?_ | refine k_exit ?_ | refine k_skip ?_ | refine Zs ?_))
    refine retP_1 rfl rfl ⟨Sy.wd X.E s, adv s, V, by rw [knd, if_pos (by rw [e1]; exact q)], ?_, (Sg.call (Sg.no (Sg.start h) k1) g2).no k3⟩
    show _ = sv _
    rw [e3, sv_B]
theorem deepF {X : Cx} {w : World} {s : PS} {V : VS} (h : At X w s V) (ok : Ok X) (d : Int) :
    Does X 46 [.pointer (some ⟨X.p, 0, none⟩), .int .i64 d] w V (deep X.E d s) unitV := by
  intro _
  refine retP_enter Tryd.func46 rfl Tryd.ntmps46 rfl ?_
  (repeat (first | refine k_nil ?_ | refine k_n ?_ | refine k_r ?_ | refine k_x ?_ | refine b_n ?_ | refine b_r ?_ | refine b_y rfl ?_ | refine b_z rfl ?_ | refine l_r ?_ | refine l_x ?_ | refine k_seq ?_ | refine k_blk ?_ | refine k_reg ?_ | refine k_ret ?_ | refine k_exit ?_ | refine k_skip ?_ | refine Zs ?_))
  refine c_dec rfl (fun q => ?_) (fun q => ?_)
  · (repeat (first | refine k_nil ?_ | refine k_n ?_ | refine k_r ?_ | refine k_x ?_ | refine b_n ?_ | refine b_r ?_ | refine b_y rfl ?_ | refine b_z rfl ?_ | refine l_r ?_ | refine l_x ?_ | refine k_seq ?_ | refine k_blk ?_ | refine k_reg ?_ | refine k_ret ?_ | refine k_exit ?_ | refine k_skip ?_ | refine Zs ?_))
    refine s_callX (us := []) (zs := []) (by kernel_rfl) rfl rfl (failF h ok 4) ?_
    rintro c w3 ⟨rfl, k3⟩
    exact ⟨4, hr X.E s, by rw [deep, if_pos q]; rfl, rfl, k3.mono fun _ _ h => h.elim⟩
  · (repeat (first | refine k_nil ?_ | refine k_n ?_ | refine k_r ?_ | refine k_x ?_ | refine b_n ?_ | refine b_r ?_ | refine b_y rfl ?_ | refine b_z rfl ?_ | refine l_r ?_ | refine l_x ?_ | refine k_seq ?_ | refine k_blk ?_ | refine k_reg ?_ | refine k_ret ?_ | refine k_exit ?_ | refine k_skip ?_ | refine Zs ?_))
    exact endP_0 rfl ⟨(), s, V, by rw [deep, if_neg q], rfl, Sg.start h⟩
theorem spanF {X : Cx} {w : World} {s : PS} {V : VS} (h : At X w s V) (ok : Ok X) (hi : 1 ≤ s.i) (fr : Int) :
    Ret Tryd.prog 33 [.pointer (some ⟨X.p, 0, none⟩), .int .i64 fr] w fun v w1 => v = .agg #[.int .i64 fr, .int .i64 (pe X.E s)] ∧ Kp No w w1 := by
  obtain ⟨g, c, e, hc⟩ := h.tokens
  have hl := h.lt
  have hbig := ok.big
  obtain ⟨t, ht⟩ : ∃ t, X.T[s.i - 1]? = some t := ⟨_, List.getElem?_eq_getElem (by omega)⟩
  have e1 : pe X.E s = t.2.2 := by simp [pe, Cx.E, ht]
  obtain ⟨_, _, c3⟩ := hc _ _ ht
  have c3 : w.cell? ⟨g, 0 + ((s.i : Int) - 1).toNat * 3 + 1 + 1, none⟩ = some (.int .i64 t.2.2) := by
    have e4 : ((s.i : Int) - 1).toNat = ((s.i - 1 : Nat) : Int).toNat := by omega
    rw [e4]; exact c3
  have hb := h.blk
  rw [e] at hb
  rw [e1]
  refine ret_enter Tryd.func33 rfl Tryd.ntmps33 rfl ?_
  (repeat (first | refine k_nil ?_ | refine k_n ?_ | refine k_r ?_ | refine k_x ?_ | refine b_n ?_ | refine b_r ?_ | refine b_y rfl ?_ | refine b_z rfl ?_ | refine l_r ?_ | refine l_x ?_ | refine k_seq ?_ | refine k_blk ?_ | refine k_reg ?_ | refine k_ret ?_ | refine k_exit ?_ | refine k_skip ?_ | refine Zs ?_))
  refine s_al rfl (fun b4 w1 n1 => ?_)
  have h1 := h.no n1.kp
  have hb1 := n1.kp.get0 hb
  have c31 := n1.kp.cell0 c3
  (repeat (first | refine k_nil ?_ | refine k_n ?_ | refine k_r ?_ | refine k_x ?_ | refine b_n ?_ | refine b_r ?_ | refine b_y rfl ?_ | refine b_z rfl ?_ | refine l_r ?_ | refine l_x ?_ | refine k_seq ?_ | refine k_blk ?_ | refine k_reg ?_ | refine k_ret ?_ | refine k_exit ?_ | refine k_skip ?_ | refine Zs ?_))
  refine k_h (fun w' => Kp No w1 w') [(0, false), (1, false), (2, false), (3, false), (4, false), (5, false), (6, false), (7, false), (8, false), (9, false), (10, false), (11, false), (12, false), (13, false), (14, false), (15, true)] 15 (by kernel_rfl) (waits_of_last (by kernel_rfl)) (by kernel_rfl) (by kernel_rfl) (by kernel_rfl) rfl (fun w2 k2 q2 => ?_)
  (repeat (first | refine Zh ?_))
  refine h_v k2 (fun w' hw => r_ld rfl rfl (cell_of_blk (hw.get0 hb1) rfl)) ?_
  (repeat (first | refine Zh ?_))
  refine h_v k2 (fun w' hw => r_ld rfl rfl (cell_of_blk (hw.get0 hb1) rfl)) ?_
  refine h_v k2 (fun w' hw => r_sub rfl rfl (by omega)) ?_
  refine h_v k2 (fun w' hw => r_ia rfl rfl rfl rfl (by omega) (by omega)) ?_
  (repeat (first | refine Zh ?_))
  refine h_v k2 (fun w' hw => r_ld rfl rfl (hw.cell0 c31)) ?_
  (repeat (first | refine Zh ?_))
  refine h_v k2 (fun w' hw => r_bd rfl) ?_
  refine h_st (vs := [.int .i64 fr, .int .i64 t.2.2]) rfl rfl rfl rfl rfl (k2.get0 n1.blk) (Nat.le_of_ble_eq_true rfl) (fun w3 s3 => ⟨fun h => (h rfl).elim, ?_⟩)
  refine h_nil ?_
  (repeat (first | refine k_nil ?_ | refine k_n ?_ | refine k_r ?_ | refine k_x ?_ | refine b_n ?_ | refine b_r ?_ | refine b_y rfl ?_ | refine b_z rfl ?_ | refine l_r ?_ | refine l_x ?_ | refine k_seq ?_ | refine k_blk ?_ | refine k_reg ?_ | refine k_ret ?_ | refine k_exit ?_ | refine k_skip ?_ | refine Zs ?_))
  refine ret_c1 rfl (rv_ag (vs := [.int .i64 fr, .int .i64 t.2.2]) rfl rfl rfl s3.blk rfl rfl) ⟨rfl, ?_⟩
  refine (n1.kp.no k2).trans s3.kp fun i hi e => ?_
  have := n1.ge
  omega
end Go.Proofs.YtgnkdeapifbgeaaDoor.Sy
