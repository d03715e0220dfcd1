/- The parser takes one word, or looks for it; primary. -/
import Derived.Test.YtgnkdeapifbgeaaDoorGl
namespace Go.Proofs.YtgnkdeapifbgeaaDoor.Sy
open Go Go.RowKit Fw
set_option linter.unusedVariables false
set_option maxRecDepth 20000
theorem take1 {X : Cx} {w : World} {s : PS} {V : VS} (h : At X w s V) (ok : Ok X) (y : ByteArray) (hy : B y ≠ []) {b : Nat} {T : TypeId} (hb : w.heap[b]? = some (.cells [Value.string y].toArray T (0, 0))) :
    Ret Tryd.prog 31 [ptr X, .slice (some ⟨b, 0, none⟩) 1 1] w fun v w1 => ∃ x, (v = .string x ∧ (Sy.wd X.E s = B y ∧ (x.toList == (⟨#[]⟩ : ByteArray).toList) = false ∧ Sg X w V w1 (adv s) V) ∨ v = .string x ∧ (Sy.wd X.E s ≠ B y ∧ (x.toList == (⟨#[]⟩ : ByteArray).toList) = true ∧ Kp No w w1)) := by
  refine (takeF h ok [y] (some ⟨b, 0, none⟩) 1 (Rd1 hb) (Nat.le_of_ble_eq_true rfl) (by simpa using hy)).mono ?_
  rintro v w1 ⟨x, hx, ⟨q, rfl, hz, g⟩ | ⟨q, rfl, k⟩⟩
  · exact ⟨x, .inl ⟨rfl, by simpa using q, hz, g⟩⟩
  · exact ⟨⟨#[]⟩, .inr ⟨rfl, by simpa using q, ez, k⟩⟩
theorem is1 {X : Cx} {w : World} {s : PS} {V : VS} (h : At X w s V) (ok : Ok X) (y : ByteArray) (hy : B y ≠ []) {b : Nat} {T : TypeId} (hb : w.heap[b]? = some (.cells [Value.string y].toArray T (0, 0))) :
    Ret Tryd.prog 27 [ptr X, .slice (some ⟨b, 0, none⟩) 1 1] w fun v w1 => v = .bool (decide (Sy.wd X.E s = B y)) ∧ Kp No w w1 := by
  refine (isF h ok [y] (some ⟨b, 0, none⟩) 1 (Rd1 hb) (Nat.le_of_ble_eq_true rfl) (by simpa using hy)).mono ?_
  rintro v w1 ⟨rfl, k⟩
  exact ⟨by simp, k⟩
theorem is2 {X : Cx} {w : World} {s : PS} {V : VS} (h : At X w s V) (ok : Ok X) (y z : ByteArray) (hy : B y ≠ []) (hz : B z ≠ []) {b : Nat} {T : TypeId} (hb : w.heap[b]? = some (.cells [Value.string y, Value.string z].toArray T (0, 0))) :
    Ret Tryd.prog 27 [ptr X, .slice (some ⟨b, 0, none⟩) 2 2] w fun v w1 => v = .bool (decide (Sy.wd X.E s = B y ∨ Sy.wd X.E s = B z)) ∧ Kp No w w1 := by
  refine (isF h ok [y, z] (some ⟨b, 0, none⟩) 2 (RdN hb) (Nat.le_of_ble_eq_true rfl) (by simp [Ne.symm hy, Ne.symm hz])).mono ?_
  rintro v w1 ⟨rfl, k⟩
  exact ⟨by simp, k⟩
theorem B_of {l : List Int} (h : l.all (fun c => decide (0 ≤ c) && decide (c < 256)) = true) : B (Tk.strOf l) = l := by
  have e : Tk.strOf l = strOfNums l := rfl
  rw [e]
  refine B_nums fun c hc => ?_
  have := List.all_eq_true.1 h c hc
  simpa using this
/-- A number's digits. -/
theorem At.digs {X : Cx} {w : World} {s : PS} {V : VS} (h : At X w s V) (ok : Ok X) (hk : kd X.E s = 2) : ∃ x, Sy.wd X.E s = B x ∧ x.size ≤ 18 ∧ ∀ c ∈ B x, 48 ≤ c ∧ c ≤ 57 := by
  obtain ⟨t, x, ht, hx, e1, e2, e3⟩ := h.tok ok
  obtain ⟨h1, h2⟩ := ok.num _ _ _ ht hx (by rw [← e1]; exact hk)
  exact ⟨x, e3, h1, h2⟩
theorem numF {X : Cx} {w0 w : World} {s : PS} {V : VS} (h : At X w0 s V) (ok : Ok X) (hk : kd X.E s = 2) : Ret Tryd.prog 62 [sv (Sy.wd X.E s)] w fun v w1 => v = .int .i64 (num (Sy.wd X.E s)) ∧ w1 = w := by
  obtain ⟨x, hx, h1, h2⟩ := h.digs ok hk
  rw [hx, sv_B]
  exact numberF x w h1 h2
section
variable {X : Cx} {L : Lv}
theorem putX {w0 w : World} {s : PS} {V0 V : VS} (g : Sg X w0 V0 w s V) (ok : Ok X) (fr : Int) (x : Ex) (lv : Value) (hl : LI w lv x.l) (how : Ow V lv) (hx : s.ex.length + 1 ≤ s.i) :
    RetP Tryd.prog 70 [ptr X, .int .i64 fr, .agg (exC (x, lv)).toArray] w (okP X w V (put X.E fr x s) intV) (fun _ _ => False) := by
  refine (putF g.at_ ok fr x lv hl how hx put_no).mono (fun _ _ h => h) ?_
  rintro c w1 ⟨k, p, e, _⟩
  cases e
def CallD (X : Cx) (L : Lv) : Prop := ∀ fr nm d s V w, 0 ≤ d ∧ d ≤ 64 → At X w s V → Does X 67 [ptr X, .int .i64 fr, sv nm, .int .i64 d] w V (call X.E L fr nm d s) intV
theorem primF (ok : Ok X) (hB : Bd L) (hL : Wk X L) (hC : CallD X L) (d : Int) (s : PS) (V : VS) (w : World) (hd : 0 ≤ d ∧ d ≤ 64) (h : At X w s V) : Does X 71 [ptr X, .int .i64 d] w V (sPrim X.E L d s) intV := by
  intro hr
  have hxl := h.xl
  have hxa : (adv s).ex.length + 1 ≤ (adv s).i := by
    show s.ex.length + 1 ≤ s.i + 1
    omega
  unfold sPrim at hr ⊢
  refine retP_enter Tryd.func71 rfl Tryd.ntmps71 rfl ?_
  (repeat (first | refine k_nil ?_ | refine k_n ?_ | refine k_r ?_ | refine k_x ?_ | refine b_n ?_ | refine b_r ?_ | refine b_y rfl ?_ | refine b_z rfl ?_ | refine l_r ?_ | refine l_x ?_ | refine k_seq ?_ | refine k_blk ?_ | refine k_reg ?_ | refine k_ret ?_ | refine k_exit ?_ | refine k_skip ?_ | refine Zs ?_))
  refine s_call (us := []) (zs := []) (by kernel_rfl) rfl rfl (hereF h ok) ?_
  rintro _ w1 ⟨rfl, k1⟩
  have g1 := (Sg.start h).no k1
  have h1 := g1.at_
  obtain ⟨t, x0, ht, hx0, e1, e2, e3⟩ := h1.tok ok
  obtain ⟨gt, ct, et, hct⟩ := h1.tokens
  obtain ⟨c1, c2, c3⟩ := hct _ _ ht
  have hb := h1.blk
  rw [et] at hb
  have hlt := h1.lt
  have hll := ok.len
  have hbig := ok.big
  (repeat (first | refine k_nil ?_ | refine k_n ?_ | refine k_r ?_ | refine k_x ?_ | refine b_n ?_ | refine b_r ?_ | refine b_y rfl ?_ | refine b_z rfl ?_ | refine l_r ?_ | refine l_x ?_ | refine k_seq ?_ | refine k_blk ?_ | refine k_reg ?_ | refine k_ret ?_ | refine k_exit ?_ | refine k_skip ?_ | refine Zs ?_))
  refine k_q (by kernel_rfl) (by kernel_rfl) ?_
  (repeat (first | refine Zq ?_ | refine Zqn ?_ | refine Zqu ?_ | refine Zqg ?_))
  refine q_nil (fun w2 k2 => ?_)
  have g2 := g1.no k2
  clear hb c1 c2 c3 hct et ht hx0 e2 e3
  (repeat (first | refine k_nil ?_ | refine k_n ?_ | refine k_r ?_ | refine k_x ?_ | refine b_n ?_ | refine b_r ?_ | refine b_y rfl ?_ | refine b_z rfl ?_ | refine l_r ?_ | refine l_x ?_ | refine k_seq ?_ | refine k_blk ?_ | refine k_reg ?_ | refine k_ret ?_ | refine k_exit ?_ | refine k_skip ?_ | refine Zs ?_))
  refine c_eq rfl (fun q => ?_) (fun q => ?_)
  · have q : kd X.E s = 2 := by rw [e1]; exact q
    rw [if_pos q] at hr ⊢
    (repeat (first | refine k_nil ?_ | refine k_n ?_ | refine k_r ?_ | refine k_x ?_ | refine b_n ?_ | refine b_r ?_ | refine b_y rfl ?_ | refine b_z rfl ?_ | refine l_r ?_ | refine l_x ?_ | refine k_seq ?_ | refine k_blk ?_ | refine k_reg ?_ | refine k_ret ?_ | refine k_exit ?_ | refine k_skip ?_ | refine Zs ?_))
    refine s_callP (us := []) (zs := []) (by kernel_rfl) rfl rfl (kindF g2.at_ ok 2 (by decide) (by unfold knd; rw [if_pos q]; exact fun e => by cases e)) ?_ ?_
    · rintro c w3 ⟨k, p, e, _⟩
      unfold knd at e
      rw [if_pos q] at e
      cases e
    rintro _ w3 ⟨nm, s3, V3, e3, rfl, g3⟩
    unfold knd at e3
    rw [if_pos q] at e3
    cases e3
    have g3 := g2.call g3
    (repeat (first | refine k_nil ?_ | refine k_n ?_ | refine k_r ?_ | refine k_x ?_ | refine b_n ?_ | refine b_r ?_ | refine b_y rfl ?_ | refine b_z rfl ?_ | refine l_r ?_ | refine l_x ?_ | refine k_seq ?_ | refine k_blk ?_ | refine k_reg ?_ | refine k_ret ?_ | refine k_exit ?_ | refine k_skip ?_ | refine Zs ?_))
    refine s_call (us := []) (zs := []) (by kernel_rfl) rfl rfl (numF h ok q) ?_
    rintro _ w4 ⟨rfl, rfl⟩
    (repeat (first | refine k_nil ?_ | refine k_n ?_ | refine k_r ?_ | refine k_x ?_ | refine b_n ?_ | refine b_r ?_ | refine b_y rfl ?_ | refine b_z rfl ?_ | refine l_r ?_ | refine l_x ?_ | refine k_seq ?_ | refine k_blk ?_ | refine k_reg ?_ | refine k_ret ?_ | refine k_exit ?_ | refine k_skip ?_ | refine Zs ?_))
    refine s_callP (us := []) (zs := []) (by kernel_rfl) rfl rfl (putX g3 ok (Sy.hr X.E s) { k := 1, n := num (Sy.wd X.E s) } (.slice none 0 0) LI.nil Ow.nil hxa) (fun _ _ h => h.elim) ?_
    rintro _ w5 ⟨b, s5, V5, e5, rfl, g5⟩
    (repeat (first | refine k_nil ?_ | refine k_n ?_ | refine k_r ?_ | refine k_x ?_ | refine b_n ?_ | refine b_r ?_ | refine b_y rfl ?_ | refine b_z rfl ?_ | refine l_r ?_ | refine l_x ?_ | refine k_seq ?_ | refine k_blk ?_ | refine k_reg ?_ | refine k_ret ?_ | refine k_exit ?_ | refine k_skip ?_ | refine Zs ?_))
    exact retP_1 rfl rfl ⟨b, s5, V5, e5, rfl, g3.call g5⟩
  rw [if_neg (by rw [e1]; exact q)] at hr ⊢
  (repeat (first | refine k_nil ?_ | refine k_n ?_ | refine k_r ?_ | refine k_x ?_ | refine b_n ?_ | refine b_r ?_ | refine b_y rfl ?_ | refine b_z rfl ?_ | refine l_r ?_ | refine l_x ?_ | refine k_seq ?_ | refine k_blk ?_ | refine k_reg ?_ | refine k_ret ?_ | refine k_exit ?_ | refine k_skip ?_ | refine Zs ?_))
  refine s_bs (cs := [kT, kF, kR]) (e := 9) rfl (fun b3 w3 n3 => ?_)
  have g3 := g2.no n3.kp
  refine s_call (us := []) (zs := []) (by kernel_rfl) rfl rfl (takeF g3.at_ ok [Tk.strOf wTrue, Tk.strOf wFalse, Tk.strOf wRead] (some ⟨b3, 0, none⟩) 3 (RdN n3.blk) (by decide) (by decide)) ?_
  have em : [Tk.strOf wTrue, Tk.strOf wFalse, Tk.strOf wRead].map B = [wTrue, wFalse, wRead] := by kernel_rfl
  rw [em]
  rintro _ w4 ⟨x, hx, ⟨q4, rfl, hz, g4⟩ | ⟨q4, rfl, k4⟩⟩
  · have g4 := g3.call g4
    (repeat (first | refine k_nil ?_ | refine k_n ?_ | refine k_r ?_ | refine k_x ?_ | refine b_n ?_ | refine b_r ?_ | refine b_y rfl ?_ | refine b_z rfl ?_ | refine l_r ?_ | refine l_x ?_ | refine k_seq ?_ | refine k_blk ?_ | refine k_reg ?_ | refine k_ret ?_ | refine k_exit ?_ | refine k_skip ?_ | refine Zs ?_))
    refine c_b rfl (fun hb => ?_) (fun hb => (by rw [show _ = _ from congrArg not hz] at hb; cases hb))
    (repeat (first | refine k_nil ?_ | refine k_n ?_ | refine k_r ?_ | refine k_x ?_ | refine b_n ?_ | refine b_r ?_ | refine b_y rfl ?_ | refine b_z rfl ?_ | refine l_r ?_ | refine l_x ?_ | refine k_seq ?_ | refine k_blk ?_ | refine k_reg ?_ | refine k_ret ?_ | refine k_exit ?_ | refine k_skip ?_ | refine Zs ?_))
    refine s_call (us := []) (zs := []) (by kernel_rfl) rfl rfl (plainF w4) ?_
    rintro _ w5 ⟨bm, rfl, hm, k5⟩
    have g5 := g4.no k5
    obtain ⟨kk, i, hf, hres⟩ : ∃ (kk : Int) (i : Nat), Instr.findNow .string (.string x) plainM.toList 0 = some (some (i, .int .i64 kk)) ∧ ((if Sy.wd X.E s = wTrue then put X.E (Sy.hr X.E s) { k := 2 } (adv s) else if Sy.wd X.E s = wFalse then put X.E (Sy.hr X.E s) { k := 3 } (adv s) else if Sy.wd X.E s = wRead then put X.E (Sy.hr X.E s) { k := 7 } (adv s)
        else if Sy.wd X.E s = wLpar then (L.expr (d + 1) (adv s)).bind fun a s1 => (want X.E wRpar s1).bind fun _ s2 => .ok a s2
        else (knd X.E 1 s).bind fun nm s1 =>
          if Sy.wd X.E s1 = wLbra then (L.expr (d + 1) (adv s1)).bind fun a s2 => (want X.E wRbra s2).bind fun _ s3 => put X.E (Sy.hr X.E s) { k := 5, nm := nm, a := a } s3
          else if Sy.wd X.E s1 = wLpar then call X.E L (Sy.hr X.E s) nm d s1
          else put X.E (Sy.hr X.E s) { k := 4, nm := nm } s1) = put X.E (Sy.hr X.E s) { k := kk } (adv s)) := by
      have ex : ∀ l, l.all (fun c => decide (0 ≤ c) && decide (c < 256)) = true → Sy.wd X.E s = l → x = Tk.strOf l := fun l hl e => B_inj (by rw [hx, e, B_of hl])
      simp only [List.mem_cons, List.not_mem_nil, or_false] at q4
      rcases q4 with q4 | q4 | q4
      · refine ⟨2, 0, ?_, by rw [if_pos q4]⟩
        rw [ex _ (by decide) q4]; kernel_rfl
      · refine ⟨3, 1, ?_, by rw [if_neg (by rw [q4]; decide), if_pos q4]⟩
        rw [ex _ (by decide) q4]; kernel_rfl
      · refine ⟨7, 2, ?_, by rw [if_neg (by rw [q4]; decide), if_neg (by rw [q4]; decide), if_pos q4]⟩
        rw [ex _ (by decide) q4]; kernel_rfl
    rw [hres] at hr ⊢
    (repeat (first | refine k_nil ?_ | refine k_n ?_ | refine k_r ?_ | refine k_x ?_ | refine b_n ?_ | refine b_r ?_ | refine b_y rfl ?_ | refine b_z rfl ?_ | refine l_r ?_ | refine l_x ?_ | refine k_seq ?_ | refine k_blk ?_ | refine k_reg ?_ | refine k_ret ?_ | refine k_exit ?_ | refine k_skip ?_ | refine Zs ?_))
    refine s_v (r_lk (td := .string) (k := .string x) rfl rfl rfl rfl trivial hm hf) ?_
    (repeat (first | refine k_nil ?_ | refine k_n ?_ | refine k_r ?_ | refine k_x ?_ | refine b_n ?_ | refine b_r ?_ | refine b_y rfl ?_ | refine b_z rfl ?_ | refine l_r ?_ | refine l_x ?_ | refine k_seq ?_ | refine k_blk ?_ | refine k_reg ?_ | refine k_ret ?_ | refine k_exit ?_ | refine k_skip ?_ | refine Zs ?_))
    refine s_callP (us := []) (zs := []) (by kernel_rfl) rfl rfl (putX g5 ok (Sy.hr X.E s) { k := kk } (.slice none 0 0) LI.nil Ow.nil hxa) (fun _ _ h => h.elim) ?_
    rintro _ w6 ⟨b, s6, V6, e6, rfl, g6⟩
    (repeat (first | refine k_nil ?_ | refine k_n ?_ | refine k_r ?_ | refine k_x ?_ | refine b_n ?_ | refine b_r ?_ | refine b_y rfl ?_ | refine b_z rfl ?_ | refine l_r ?_ | refine l_x ?_ | refine k_seq ?_ | refine k_blk ?_ | refine k_reg ?_ | refine k_ret ?_ | refine k_exit ?_ | refine k_skip ?_ | refine Zs ?_))
    exact retP_1 rfl rfl ⟨b, s6, V6, e6, rfl, g5.call g6⟩
  simp only [List.mem_cons, List.not_mem_nil, or_false, not_or] at q4
  rw [if_neg q4.1, if_neg q4.2.1, if_neg q4.2.2] at hr ⊢
  have g4 := g3.no k4
  (repeat (first | refine k_nil ?_ | refine k_n ?_ | refine k_r ?_ | refine k_x ?_ | refine b_n ?_ | refine b_r ?_ | refine b_y rfl ?_ | refine b_z rfl ?_ | refine l_r ?_ | refine l_x ?_ | refine k_seq ?_ | refine k_blk ?_ | refine k_reg ?_ | refine k_ret ?_ | refine k_exit ?_ | refine k_skip ?_ | refine Zs ?_))
  refine c_b rfl (fun hb => (by rw [show _ = _ from congrArg not ez] at hb; cases hb)) (fun hb => ?_)
  (repeat (first | refine k_nil ?_ | refine k_n ?_ | refine k_r ?_ | refine k_x ?_ | refine b_n ?_ | refine b_r ?_ | refine b_y rfl ?_ | refine b_z rfl ?_ | refine l_r ?_ | refine l_x ?_ | refine k_seq ?_ | refine k_blk ?_ | refine k_reg ?_ | refine k_ret ?_ | refine k_exit ?_ | refine k_skip ?_ | refine Zs ?_))
  refine s_bs (cs := [.string (Tk.strOf wLpar)]) (e := 9) rfl (fun b5 w5 n5 => ?_)
  have g5 := g4.no n5.kp
  have el : B (Tk.strOf wLpar) = wLpar := B_of (by decide)
  refine s_call (us := []) (zs := []) (by kernel_rfl) rfl rfl (take1 g5.at_ ok (Tk.strOf wLpar) (by rw [el]; decide) n5.blk) ?_
  rw [el]
  rintro _ w6 ⟨y, ⟨rfl, q6, hz, g6⟩ | ⟨rfl, q6, hz, k6⟩⟩
  · rw [if_pos q6] at hr ⊢
    have g6 := g5.call g6
    (repeat (first | refine k_nil ?_ | refine k_n ?_ | refine k_r ?_ | refine k_x ?_ | refine b_n ?_ | refine b_r ?_ | refine b_y rfl ?_ | refine b_z rfl ?_ | refine l_r ?_ | refine l_x ?_ | refine k_seq ?_ | refine k_blk ?_ | refine k_reg ?_ | refine k_ret ?_ | refine k_exit ?_ | refine k_skip ?_ | refine Zs ?_))
    refine c_b rfl (fun hb => ?_) (fun hb => (by rw [show _ = _ from congrArg not hz] at hb; cases hb))
    (repeat (first | refine k_nil ?_ | refine k_n ?_ | refine k_r ?_ | refine k_x ?_ | refine b_n ?_ | refine b_r ?_ | refine b_y rfl ?_ | refine b_z rfl ?_ | refine l_r ?_ | refine l_x ?_ | refine k_seq ?_ | refine k_blk ?_ | refine k_reg ?_ | refine k_ret ?_ | refine k_exit ?_ | refine k_skip ?_ | refine Zs ?_))
    refine s_callP (us := []) (zs := []) (by kernel_rfl) rfl rfl (hL.expr (d + 1) _ V w6 (by omega) g6.at_ (bind_ne hr)) (erP.up g6 rfl) ?_
    rintro _ w7 ⟨a, s7, V7, e7, rfl, g7⟩
    rw [e7, bind_ok] at hr ⊢
    have g7 := g6.call g7
    (repeat (first | refine k_nil ?_ | refine k_n ?_ | refine k_r ?_ | refine k_x ?_ | refine b_n ?_ | refine b_r ?_ | refine b_y rfl ?_ | refine b_z rfl ?_ | refine l_r ?_ | refine l_x ?_ | refine k_seq ?_ | refine k_blk ?_ | refine k_reg ?_ | refine k_ret ?_ | refine k_exit ?_ | refine k_skip ?_ | refine Zs ?_))
    have er : B (Tk.strOf wRpar) = wRpar := B_of (by decide)
    refine s_callP (us := []) (zs := []) (by kernel_rfl) rfl rfl (wantF g7.at_ ok (Tk.strOf wRpar) (by rw [er]; decide) (by rw [er]; exact bind_ne hr)) (by rw [er]; exact erP.up g7 rfl) ?_
    rw [er]
    rintro _ w8 ⟨_, s8, V8, e8, rfl, g8⟩
    rw [e8, bind_ok] at hr ⊢
    (repeat (first | refine k_nil ?_ | refine k_n ?_ | refine k_r ?_ | refine k_x ?_ | refine b_n ?_ | refine b_r ?_ | refine b_y rfl ?_ | refine b_z rfl ?_ | refine l_r ?_ | refine l_x ?_ | refine k_seq ?_ | refine k_blk ?_ | refine k_reg ?_ | refine k_ret ?_ | refine k_exit ?_ | refine k_skip ?_ | refine Zs ?_))
    exact retP_1 rfl rfl ⟨a, s8, V8, rfl, rfl, g7.call g8⟩
  rw [if_neg q6] at hr ⊢
  have g6 := g5.no k6
  (repeat (first | refine k_nil ?_ | refine k_n ?_ | refine k_r ?_ | refine k_x ?_ | refine b_n ?_ | refine b_r ?_ | refine b_y rfl ?_ | refine b_z rfl ?_ | refine l_r ?_ | refine l_x ?_ | refine k_seq ?_ | refine k_blk ?_ | refine k_reg ?_ | refine k_ret ?_ | refine k_exit ?_ | refine k_skip ?_ | refine Zs ?_))
  refine c_b rfl (fun hb => (by rw [show _ = _ from congrArg not hz] at hb; cases hb)) (fun hb => ?_)
  (repeat (first | refine k_nil ?_ | refine k_n ?_ | refine k_r ?_ | refine k_x ?_ | refine b_n ?_ | refine b_r ?_ | refine b_y rfl ?_ | refine b_z rfl ?_ | refine l_r ?_ | refine l_x ?_ | refine k_seq ?_ | refine k_blk ?_ | refine k_reg ?_ | refine k_ret ?_ | refine k_exit ?_ | refine k_skip ?_ | refine Zs ?_))
  refine s_callP (us := []) (zs := []) (by kernel_rfl) rfl rfl (kindF g6.at_ ok 1 (by decide) (bind_ne hr)) (erP.up g6 rfl) ?_
  rintro _ w7 ⟨nm, s7, V7, e7, rfl, g7⟩
  have u7 := knd_up e7
  rw [e7, bind_ok] at hr ⊢
  have g7 := g6.call g7
  have hx7 : s7.ex.length + 1 ≤ s7.i := by unfold Up at u7; omega
  (repeat (first | refine k_nil ?_ | refine k_n ?_ | refine k_r ?_ | refine k_x ?_ | refine b_n ?_ | refine b_r ?_ | refine b_y rfl ?_ | refine b_z rfl ?_ | refine l_r ?_ | refine l_x ?_ | refine k_seq ?_ | refine k_blk ?_ | refine k_reg ?_ | refine k_ret ?_ | refine k_exit ?_ | refine k_skip ?_ | refine Zs ?_))
  refine s_bs (cs := [.string (Tk.strOf wLbra)]) (e := 9) rfl (fun b8 w8 n8 => ?_)
  have g8 := g7.no n8.kp
  have el : B (Tk.strOf wLbra) = wLbra := B_of (by decide)
  refine s_call (us := []) (zs := []) (by kernel_rfl) rfl rfl (take1 g8.at_ ok (Tk.strOf wLbra) (by rw [el]; decide) n8.blk) ?_
  rw [el]
  rintro _ w9 ⟨y, ⟨rfl, q9, hz, g9⟩ | ⟨rfl, q9, hz, k9⟩⟩
  · rw [if_pos q9] at hr ⊢
    have g9 := g8.call g9
    (repeat (first | refine k_nil ?_ | refine k_n ?_ | refine k_r ?_ | refine k_x ?_ | refine b_n ?_ | refine b_r ?_ | refine b_y rfl ?_ | refine b_z rfl ?_ | refine l_r ?_ | refine l_x ?_ | refine k_seq ?_ | refine k_blk ?_ | refine k_reg ?_ | refine k_ret ?_ | refine k_exit ?_ | refine k_skip ?_ | refine Zs ?_))
    refine c_b rfl (fun hb => ?_) (fun hb => (by rw [show _ = _ from congrArg not hz] at hb; cases hb))
    (repeat (first | refine k_nil ?_ | refine k_n ?_ | refine k_r ?_ | refine k_x ?_ | refine b_n ?_ | refine b_r ?_ | refine b_y rfl ?_ | refine b_z rfl ?_ | refine l_r ?_ | refine l_x ?_ | refine k_seq ?_ | refine k_blk ?_ | refine k_reg ?_ | refine k_ret ?_ | refine k_exit ?_ | refine k_skip ?_ | refine Zs ?_))
    refine s_callP (us := []) (zs := []) (by kernel_rfl) rfl rfl (hL.expr (d + 1) _ V7 w9 (by omega) g9.at_ (bind_ne hr)) (erP.up g9 rfl) ?_
    rintro _ w10 ⟨a, s10, V10, e10, rfl, g10⟩
    rw [e10, bind_ok] at hr ⊢
    have g10 := g9.call g10
    (repeat (first | refine k_nil ?_ | refine k_n ?_ | refine k_r ?_ | refine k_x ?_ | refine b_n ?_ | refine b_r ?_ | refine b_y rfl ?_ | refine b_z rfl ?_ | refine l_r ?_ | refine l_x ?_ | refine k_seq ?_ | refine k_blk ?_ | refine k_reg ?_ | refine k_ret ?_ | refine k_exit ?_ | refine k_skip ?_ | refine Zs ?_))
    have er : B (Tk.strOf wRbra) = wRbra := B_of (by decide)
    refine s_callP (us := []) (zs := []) (by kernel_rfl) rfl rfl (wantF g10.at_ ok (Tk.strOf wRbra) (by rw [er]; decide) (by rw [er]; exact bind_ne hr)) (by rw [er]; exact erP.up g10 rfl) ?_
    rw [er]
    rintro _ w11 ⟨_, s11, V11, e11, rfl, g11⟩
    rw [e11, bind_ok] at hr ⊢
    have g11 := g10.call g11
    have hx11 : s11.ex.length + 1 ≤ s11.i := by
      have u := ((adv_up s7).trans (hB.expr _ _ _ _ e10)).trans (want_up e11)
      unfold Up at u
      omega
    (repeat (first | refine k_nil ?_ | refine k_n ?_ | refine k_r ?_ | refine k_x ?_ | refine b_n ?_ | refine b_r ?_ | refine b_y rfl ?_ | refine b_z rfl ?_ | refine l_r ?_ | refine l_x ?_ | refine k_seq ?_ | refine k_blk ?_ | refine k_reg ?_ | refine k_ret ?_ | refine k_exit ?_ | refine k_skip ?_ | refine Zs ?_))
    refine s_callP (us := []) (zs := []) (by kernel_rfl) rfl rfl (putX g11 ok (Sy.hr X.E s) { k := 5, nm := nm, a := a } (.slice none 0 0) LI.nil Ow.nil hx11) (fun _ _ h => h.elim) ?_
    rintro _ w12 ⟨b, s12, V12, e12, rfl, g12⟩
    (repeat (first | refine k_nil ?_ | refine k_n ?_ | refine k_r ?_ | refine k_x ?_ | refine b_n ?_ | refine b_r ?_ | refine b_y rfl ?_ | refine b_z rfl ?_ | refine l_r ?_ | refine l_x ?_ | refine k_seq ?_ | refine k_blk ?_ | refine k_reg ?_ | refine k_ret ?_ | refine k_exit ?_ | refine k_skip ?_ | refine Zs ?_))
    exact retP_1 rfl rfl ⟨b, s12, V12, e12, rfl, g11.call g12⟩
  rw [if_neg q9] at hr ⊢
  have g9 := g8.no k9
  (repeat (first | refine k_nil ?_ | refine k_n ?_ | refine k_r ?_ | refine k_x ?_ | refine b_n ?_ | refine b_r ?_ | refine b_y rfl ?_ | refine b_z rfl ?_ | refine l_r ?_ | refine l_x ?_ | refine k_seq ?_ | refine k_blk ?_ | refine k_reg ?_ | refine k_ret ?_ | refine k_exit ?_ | refine k_skip ?_ | refine Zs ?_))
  refine c_b rfl (fun hb => (by rw [show _ = _ from congrArg not hz] at hb; cases hb)) (fun hb => ?_)
  (repeat (first | refine k_nil ?_ | refine k_n ?_ | refine k_r ?_ | refine k_x ?_ | refine b_n ?_ | refine b_r ?_ | refine b_y rfl ?_ | refine b_z rfl ?_ | refine l_r ?_ | refine l_x ?_ | refine k_seq ?_ | refine k_blk ?_ | refine k_reg ?_ | refine k_ret ?_ | refine k_exit ?_ | refine k_skip ?_ | refine Zs ?_))
  refine s_bs (cs := [.string (Tk.strOf wLpar)]) (e := 9) rfl (fun b10 w10 n10 => ?_)
  have g10 := g9.no n10.kp
  have el : B (Tk.strOf wLpar) = wLpar := B_of (by decide)
  refine s_call (us := []) (zs := []) (by kernel_rfl) rfl rfl (is1 g10.at_ ok (Tk.strOf wLpar) (by rw [el]; decide) n10.blk) ?_
  rw [el]
  rintro _ w11 ⟨rfl, k11⟩
  have g11 := g10.no k11
  (repeat (first | refine k_nil ?_ | refine k_n ?_ | refine k_r ?_ | refine k_x ?_ | refine b_n ?_ | refine b_r ?_ | refine b_y rfl ?_ | refine b_z rfl ?_ | refine l_r ?_ | refine l_x ?_ | refine k_seq ?_ | refine k_blk ?_ | refine k_reg ?_ | refine k_ret ?_ | refine k_exit ?_ | refine k_skip ?_ | refine Zs ?_))
  refine c_dec rfl (fun q => ?_) (fun q => ?_)
  · rw [if_pos q] at hr ⊢
    (repeat (first | refine k_nil ?_ | refine k_n ?_ | refine k_r ?_ | refine k_x ?_ | refine b_n ?_ | refine b_r ?_ | refine b_y rfl ?_ | refine b_z rfl ?_ | refine l_r ?_ | refine l_x ?_ | refine k_seq ?_ | refine k_blk ?_ | refine k_reg ?_ | refine k_ret ?_ | refine k_exit ?_ | refine k_skip ?_ | refine Zs ?_))
    refine s_callP (us := []) (zs := []) (by kernel_rfl) rfl rfl (hC (Sy.hr X.E s) nm d s7 V7 w11 hd g11.at_ hr) (erP.up0 g11) ?_
    rintro _ w12 ⟨b, s12, V12, e12, rfl, g12⟩
    (repeat (first | refine k_nil ?_ | refine k_n ?_ | refine k_r ?_ | refine k_x ?_ | refine b_n ?_ | refine b_r ?_ | refine b_y rfl ?_ | refine b_z rfl ?_ | refine l_r ?_ | refine l_x ?_ | refine k_seq ?_ | refine k_blk ?_ | refine k_reg ?_ | refine k_ret ?_ | refine k_exit ?_ | refine k_skip ?_ | refine Zs ?_))
    exact retP_1 rfl rfl ⟨b, s12, V12, e12, rfl, g11.call g12⟩
  · (repeat (first | refine k_nil ?_ | refine k_n ?_ | refine k_r ?_ | refine k_x ?_ | refine b_n ?_ | refine b_r ?_ | refine b_y rfl ?_ | refine b_z rfl ?_ | refine l_r ?_ | refine l_x ?_ | refine k_seq ?_ | refine k_blk ?_ | refine k_reg ?_ | refine k_ret ?_ | refine k_exit ?_ | refine k_skip ?_ | refine Zs ?_))
    rw [if_neg q] at hr ⊢
    refine s_callP (us := []) (zs := []) (by kernel_rfl) rfl rfl (putX g11 ok (Sy.hr X.E s) { k := 4, nm := nm } (.slice none 0 0) LI.nil Ow.nil hx7) (fun _ _ h => h.elim) ?_
    rintro _ w9 ⟨b, s9, V9, e9, rfl, g9⟩
    (repeat (first | refine k_nil ?_ | refine k_n ?_ | refine k_r ?_ | refine k_x ?_ | refine b_n ?_ | refine b_r ?_ | refine b_y rfl ?_ | refine b_z rfl ?_ | refine l_r ?_ | refine l_x ?_ | refine k_seq ?_ | refine k_blk ?_ | refine k_reg ?_ | refine k_ret ?_ | refine k_exit ?_ | refine k_skip ?_ | refine Zs ?_))
    exact retP_1 rfl rfl ⟨b, s9, V9, e9, rfl, g11.call g9⟩
end
end Go.Proofs.YtgnkdeapifbgeaaDoor.Sy
