/- The parser's calls and blocks. -/
import Derived.Test.YtgnkdeapifbgeaaDoorGn
namespace Go.Proofs.YtgnkdeapifbgeaaDoor.Sy
open Go Go.RowKit Fw
set_option linter.unusedVariables false
set_option maxRecDepth 20000
theorem Sg.more {X : Cx} {w0 w : World} {s : PS} {V0 V : VS} {e : TypeId} {v : Value} {n : Nat} {cs : List Value} (h : Sg X w0 V0 w s V) (hl : Ls w0 w V e v n cs) : Sg X w0 V0 w s (V.add v.ownBlock) :=
  ⟨h.at_.more _ fun b hb => by obtain ⟨c, hc⟩ := own_ty hl.own hb; exact lt_of_get hc, ⟨h.gs.kp, h.gs.fr, fun b hb hs => hs.elim (h.gs.fo b hb) fun e => by have := (hl.nw b e).1; omega⟩⟩
theorem Ls.ow {V : VS} {v : Value} : Ow (V.add v.ownBlock) v := fun g hg => .inr hg
/-- A list's box and one more store into it. -/
structure CallS where
  m : Nat
  l : List Int
  lv : Value
  s : PS
  V : VS
theorem snoc_int {l : List Int} {a : Int} : l.map (Value.int .i64) ++ [Value.int .i64 a] = (l ++ [a]).map (Value.int .i64) := by simp
section
variable {X : Cx} {n : Nat}
theorem callF (ok : Ok X) (hW : ∀ m, m ≤ n → Wk X (lv X.E m)) : CallD X (lv X.E n) := by
  intro fr nm d s V w hd h hr
  have el : B (Tk.strOf wLpar) = wLpar := B_of (by decide)
  have er : B (Tk.strOf wRpar) = wRpar := B_of (by decide)
  have ec : B (Tk.strOf wComma) = wComma := B_of (by decide)
  have hbig := ok.big
  unfold call at hr ⊢
  refine retP_enter Tryd.func67 rfl Tryd.ntmps67 rfl ?_
  (repeat (first | refine k_nil ?_ | refine k_n ?_ | refine k_r ?_ | refine k_x ?_ | refine b_n ?_ | refine b_r ?_ | refine b_y rfl ?_ | refine b_z rfl ?_ | refine l_r ?_ | refine l_x ?_ | refine k_seq ?_ | refine k_blk ?_ | refine k_reg ?_ | refine k_ret ?_ | refine k_exit ?_ | refine k_skip ?_ | refine Zs ?_))
  refine s_callP (us := []) (zs := []) (by kernel_rfl) rfl rfl (wantF h ok (Tk.strOf wLpar) (by rw [el]; decide) (by rw [el]; exact bind_ne hr)) (by rw [el]; exact erP.up (Sg.start h) rfl) ?_
  rw [el]
  rintro _ w1 ⟨_, s1, V1, e1, rfl, g1⟩
  rw [e1, bind_ok] at hr ⊢
  (repeat (first | refine k_nil ?_ | refine k_n ?_ | refine k_r ?_ | refine k_x ?_ | refine b_n ?_ | refine b_r ?_ | refine b_y rfl ?_ | refine b_z rfl ?_ | refine l_r ?_ | refine l_x ?_ | refine k_seq ?_ | refine k_blk ?_ | refine k_reg ?_ | refine k_ret ?_ | refine k_exit ?_ | refine k_skip ?_ | refine Zs ?_))
  refine s_al rfl (fun b w2 n2 => ?_)
  have g2 := g1.no n2.kp
  have B2 := Bx.new (w0 := w) g1.at_ g1.size n2
  refine s_st (vs := exC ({ k := 6, nm := nm }, .slice none 0 0)) rfl rfl rfl rfl rfl B2.blk (Nat.le_of_ble_eq_true rfl) (fun w3 s3 => ?_)
  obtain ⟨g3, B3⟩ := g2.put B2 (cs' := exC ({ k := 6, nm := nm }, .slice none 0 0)) ⟨s3.kp, s3.sz, s3.blk⟩ rfl
  obtain ⟨R, hR⟩ : ∃ R, (lv X.E n).args fr nm d [] s1 = R := ⟨_, rfl⟩
  rw [hR] at hr ⊢
  refine k_nil ?_
  refine k_n ?_
  refine k_seq ?_
  refine k_blk ?_
  refine k_loop (σ := CallS) (fun x => [(0, ptr X), (1, .int .i64 fr), (3, .int .i64 d), (9, .pointer (some ⟨b, 0, none⟩))])
    (fun x w' => x.m ≤ n ∧ (lv X.E x.m).args fr nm d x.l x.s = R ∧ Sg X w V w' x.s x.V ∧ Bx X w w' x.V b (exC ({ k := 6, nm := nm }, x.lv)) 35 ∧ Ls w w' x.V 3 x.lv x.l.length (x.l.map (Value.int .i64)) ∧ x.l.length ≤ x.s.i) (fun x => x.m) ⟨n, [], .slice none 0 0, s1, V1⟩ ⟨rfl, rfl, rfl, rfl, trivial⟩ ⟨Nat.le_refl _, hR, g3, B3, Ls.nil, Nat.zero_le _⟩ ?_
  rintro ⟨m, l, lv, s4, V4⟩ lr w4 ⟨hm, hR4, g4, B4, l4, hl4⟩
  simp only at hm hR4 g4 B4 l4 hl4
  clear hR g3 B3 s3 n2 g2 B2 e1 g1
  cases m with
  | zero => exact (hr (by rw [← hR4]; rfl)).elim
  | succ m =>
  have hR4 : sArgs X.E (Sy.lv X.E m) fr nm d l s4 = R := hR4
  unfold sArgs at hR4
  obtain ⟨la, lc, e, _⟩ := own_read l4.own
  subst e
  (repeat (first | refine k_nil ?_ | refine k_n ?_ | refine k_r ?_ | refine k_x ?_ | refine b_n ?_ | refine b_r ?_ | refine b_y rfl ?_ | refine b_z rfl ?_ | refine l_r ?_ | refine l_x ?_ | refine k_seq ?_ | refine k_blk ?_ | refine k_reg ?_ | refine k_ret ?_ | refine k_exit ?_ | refine k_skip ?_ | refine Zs ?_))
  refine s_bs (cs := [.string (Tk.strOf wRpar)]) (e := 9) rfl (fun b5 w5 n5 => ?_)
  have g5 := g4.no n5.kp
  have B5 := B4.no n5.kp
  have l5 := l4.no n5.kp
  refine s_call (us := []) (zs := []) (by kernel_rfl) rfl rfl (take1 g5.at_ ok (Tk.strOf wRpar) (by rw [er]; decide) n5.blk) ?_
  rw [er]
  rintro _ w6 ⟨y, ⟨rfl, q6, hz, g6⟩ | ⟨rfl, q6, hz, k6⟩⟩
  · rw [if_pos q6] at hR4
    have B6 := B5.gs g6.gs
    have l6 := l5.gs g5.at_ g6.gs rfl
    have g6 := g5.call g6
    have b6 : w6.heap[b]? = some (.cells [Value.int .i64 6, .int .i64 0, .int .i64 0, .int .i64 0, sv nm, sv [], .int .i64 0, .int .i64 0, .slice la l.length lc].toArray 35 (0, 0)) := B6.blk
    (repeat (first | refine k_nil ?_ | refine k_n ?_ | refine k_r ?_ | refine k_x ?_ | refine b_n ?_ | refine b_r ?_ | refine b_y rfl ?_ | refine b_z rfl ?_ | refine l_r ?_ | refine l_x ?_ | refine k_seq ?_ | refine k_blk ?_ | refine k_reg ?_ | refine k_ret ?_ | refine k_exit ?_ | refine k_skip ?_ | refine Zs ?_))
    refine c_b rfl (fun hb => (by rw [show _ = _ from hz] at hb; cases hb)) (fun hb => ?_)
    (repeat (first | refine k_nil ?_ | refine k_n ?_ | refine k_r ?_ | refine k_x ?_ | refine b_n ?_ | refine b_r ?_ | refine b_y rfl ?_ | refine b_z rfl ?_ | refine l_r ?_ | refine l_x ?_ | refine k_seq ?_ | refine k_blk ?_ | refine k_reg ?_ | refine k_ret ?_ | refine k_exit ?_ | refine k_skip ?_ | refine Zs ?_))
    refine s_v (r_ldb (vs := exC ({ k := 6, nm := nm, l := l }, .slice la l.length lc)) rfl rfl rfl b6 rfl rfl) ?_
    have hx : (adv s4).ex.length + 1 ≤ (adv s4).i := by
      have := g4.at_.xl
      show s4.ex.length + 1 ≤ s4.i + 1
      omega
    refine s_callP (us := []) (zs := []) (by kernel_rfl) rfl rfl (putX (g6.more l6) ok fr { k := 6, nm := nm, l := l } (.slice la l.length lc) l6.own Ls.ow hx) (fun _ _ h => h.elim) ?_
    rintro _ w7 ⟨c, s7, V7, e7, rfl, g7⟩
    (repeat (first | refine k_nil ?_ | refine k_n ?_ | refine k_r ?_ | refine k_x ?_ | refine b_n ?_ | refine b_r ?_ | refine b_y rfl ?_ | refine b_z rfl ?_ | refine l_r ?_ | refine l_x ?_ | refine k_seq ?_ | refine k_blk ?_ | refine k_reg ?_ | refine k_ret ?_ | refine k_exit ?_ | refine k_skip ?_ | refine Zs ?_))
    exact retP_1 rfl rfl ⟨c, s7, V7, by rw [← hR4, e7], rfl, (g6.more l6).call g7⟩
  rw [if_neg q6] at hR4
  have B6 := B5.no k6
  have l6 := l5.no k6
  have g6 := g5.no k6
  have b6 : w6.heap[b]? = some (.cells [Value.int .i64 6, .int .i64 0, .int .i64 0, .int .i64 0, sv nm, sv [], .int .i64 0, .int .i64 0, .slice la l.length lc].toArray 35 (0, 0)) := B6.blk
  (repeat (first | refine k_nil ?_ | refine k_n ?_ | refine k_r ?_ | refine k_x ?_ | refine b_n ?_ | refine b_r ?_ | refine b_y rfl ?_ | refine b_z rfl ?_ | refine l_r ?_ | refine l_x ?_ | refine k_seq ?_ | refine k_blk ?_ | refine k_reg ?_ | refine k_ret ?_ | refine k_exit ?_ | refine k_skip ?_ | refine Zs ?_))
  refine c_b rfl (fun hb => ?_) (fun hb => (by rw [show _ = _ from hz] at hb; cases hb))
  (repeat (first | refine k_nil ?_ | refine k_n ?_ | refine k_r ?_ | refine k_x ?_ | refine b_n ?_ | refine b_r ?_ | refine b_y rfl ?_ | refine b_z rfl ?_ | refine l_r ?_ | refine l_x ?_ | refine k_seq ?_ | refine k_blk ?_ | refine k_reg ?_ | refine k_ret ?_ | refine k_exit ?_ | refine k_skip ?_ | refine Zs ?_))
  refine k_cutc (σ := PS × VS) (fun _ => [(0, ptr X), (1, .int .i64 fr), (3, .int .i64 d), (9, .pointer (some ⟨b, 0, none⟩))])
    (fun x w' => (if l = [] then Rs.ok () s4 else want X.E wComma s4) = .ok () x.1 ∧ Sg X w V w' x.1 x.2 ∧ Bx X w w' x.2 b (exC ({ k := 6, nm := nm }, .slice la l.length lc)) 35 ∧ Ls w w' x.2 3 (.slice la l.length lc) l.length (l.map (Value.int .i64)) ∧ l.length ≤ x.1.i) ?_ ?_
  · refine c_dec rfl (fun q => ?_) (fun q => ?_)
    · have q : l ≠ [] := fun e => by rw [e] at q; simp at q
      rw [if_neg q] at hR4
      (repeat (first | refine k_nil ?_ | refine k_n ?_ | refine k_r ?_ | refine k_x ?_ | refine b_n ?_ | refine b_r ?_ | refine b_y rfl ?_ | refine b_z rfl ?_ | refine l_r ?_ | refine l_x ?_ | refine k_seq ?_ | refine k_blk ?_ | refine k_reg ?_ | refine k_ret ?_ | refine k_exit ?_ | refine k_skip ?_ | refine Zs ?_))
      refine s_callP (us := []) (zs := []) (by kernel_rfl) rfl rfl (wantF g6.at_ ok (Tk.strOf wComma) (by rw [ec]; decide) (by rw [ec]; exact want_no)) (by rw [ec]; exact erP.up g6 hR4.symm) ?_
      rw [ec]
      rintro _ w7 ⟨_, s7, V7, e7, rfl, g7⟩
      (repeat (first | refine k_nil ?_ | refine k_n ?_ | refine k_r ?_ | refine k_x ?_ | refine b_n ?_ | refine b_r ?_ | refine b_y rfl ?_ | refine b_z rfl ?_ | refine l_r ?_ | refine l_x ?_ | refine k_seq ?_ | refine k_blk ?_ | refine k_reg ?_ | refine k_ret ?_ | refine k_exit ?_ | refine k_skip ?_ | refine Zs ?_))
      exact l_cut (s7, V7) ⟨rfl, rfl, rfl, rfl, trivial⟩ ⟨by rw [if_neg q]; exact e7, g6.call g7, B6.gs g7.gs, l6.gs g6.at_ g7.gs rfl, Nat.le_trans hl4 (Nat.le_of_succ_le (want_up e7).1)⟩
    · have q : l = [] := by
        cases l with
        | nil => rfl
        | cons a l => exact (q (by simp)).elim
      (repeat (first | refine k_nil ?_ | refine k_n ?_ | refine k_r ?_ | refine k_x ?_ | refine b_n ?_ | refine b_r ?_ | refine b_y rfl ?_ | refine b_z rfl ?_ | refine l_r ?_ | refine l_x ?_ | refine k_seq ?_ | refine k_blk ?_ | refine k_reg ?_ | refine k_ret ?_ | refine k_exit ?_ | refine k_skip ?_ | refine Zs ?_))
      exact l_cut (s4, V4) ⟨rfl, rfl, rfl, rfl, trivial⟩ ⟨by rw [if_pos q], g6, B6, l6, hl4⟩
  · rintro ⟨s7, V7⟩ lr7 w7 ⟨e7, g7, B7, l7, hl7⟩
    simp only at e7 g7 B7 l7 hl7
    rw [e7, bind_ok] at hR4
    clear g6 B6 l6 b6 k6 n5 g5 B5 l5 g4 B4 l4 hz
    refine k_seq ?_
    have b7 : w7.heap[b]? = some (.cells [Value.int .i64 6, .int .i64 0, .int .i64 0, .int .i64 0, sv nm, sv [], .int .i64 0, .int .i64 0, .slice la l.length lc].toArray 35 (0, 0)) := B7.blk
    refine k_hP (fun w' => w'.heap[b]? = some (.cells [Value.int .i64 6, .int .i64 0, .int .i64 0, .int .i64 0, sv nm, sv [], .int .i64 0, .int .i64 0, .slice la l.length lc].toArray 35 (0, 0))) [(0, false), (1, false), (2, false), (3, false), (4, false), (5, true), (6, true), (7, true), (8, false), (9, true)] 9 (by kernel_rfl) (waits_of_last (by kernel_rfl)) (by kernel_rfl) (by kernel_rfl) (by kernel_rfl) rfl (fun w8 k8 q8 => ?_)
    have g8 := g7.no k8
    have B8 := B7.no k8
    have l8 := l7.no k8
    have b8 := k8.get0 b7
    refine v_v b8 (fun w' hw => r_fa rfl rfl) ?_
    refine v_v b8 (fun w' hw => r_ld rfl rfl (cell_of_blk hw rfl)) ?_
    refine v_v b8 (fun w' hw => r_mv rfl) ?_
    refine v_v b8 (fun w' hw => r_mv rfl) ?_
    refine v_v b8 (fun w' hw => r_add rfl rfl (by omega)) ?_
    refine v_call (us := []) (zs := []) (by kernel_rfl) rfl rfl ((hW m (by omega)).expr (d + 1) s7 V7 w8 (by omega) g8.at_ (bind_ne (show _ ≠ _ by rw [hR4]; exact hr))) (erP.up g8 hR4.symm) ?_
    rintro _ w9 ⟨a, s9, V9, e9, rfl, g9⟩
    have u9 := (bd_lv (E := X.E) m).expr _ _ _ _ e9
    rw [e9, bind_ok] at hR4
    have B9 := B8.gs g9.gs
    have l9 := l8.gs g8.at_ g9.gs rfl
    have g9 := g8.call g9
    refine ⟨fun _ => B9.blk, ?_⟩
    refine h_bs (cs := [.int .i64 a]) (e := 3) rfl (fun b10 w10 n10 => ?_)
    have g10 := g9.no n10.kp
    have B10 := B9.no n10.kp
    have l10 := l9.no n10.kp
    have hi9 := g9.at_.lt
    have hlen : l.length ≤ 20001 := by unfold Up at u9; omega
    refine ⟨fun _ => B10.blk, ?_⟩
    refine h_app (size := 1) (bytes := 8) (base := 0) (news := [.int .i64 a]) rfl rfl rfl rfl rfl rfl rfl rfl l10.own rfl (blk_cells n10.blk) rfl rfl (by omega) (by omega) (Nat.zero_le _) ?_
    intro v11 w11 ap
    obtain ⟨g11, l11⟩ := g10.lst h l10 ap rfl
    have hbl : ¬ some b = (Value.slice la l.length lc).ownBlock := fun e => by
      obtain ⟨c, hc⟩ := own_ty l10.own e.symm
      exact ty_ne hc B10.blk rfl rfl
    have B11 : Bx X w w11 V9 b (exC ({ k := 6, nm := nm }, .slice la l.length lc)) 35 := ⟨B10.ge, ap.kp.get B10.blk hbl, B10.ns⟩
    refine ⟨fun _ => B11.blk, ?_⟩
    refine h_v B11.blk (fun w' hw => r_fa rfl rfl) ?_
    obtain ⟨a1, c1, e1, _⟩ := own_read l11.own
    subst e1
    refine h_st (vs := [.slice a1 (l.length + 1) c1]) rfl rfl rfl rfl rfl B11.blk (Nat.le_of_ble_eq_true rfl) (fun w12 s12 => ⟨fun h => (h rfl).elim, ?_⟩)
    obtain ⟨g12, B12⟩ := g11.put B11 (cs' := exC ({ k := 6, nm := nm }, .slice a1 (l.length + 1) c1)) ⟨s12.kp, s12.sz, s12.blk⟩ rfl
    have l12 : Ls w w12 V9 3 (.slice a1 (l.length + 1) c1) (l ++ [a]).length ((l ++ [a]).map (Value.int .i64)) := by
      have : Ls w w12 V9 3 (.slice a1 (l.length + 1) c1) (l.length + 1) (l.map (Value.int .i64) ++ [Value.int .i64 a]) := ⟨own_kp l11.own s12.kp fun g hg e => by
        obtain ⟨c, hc⟩ := own_ty l11.own hg
        exact ty_ne hc B11.blk rfl e, l11.nw⟩
      rw [snoc_int] at this
      simpa using this
    refine h_nil ?_
    (repeat (first | refine k_nil ?_ | refine k_n ?_ | refine k_r ?_ | refine k_x ?_ | refine b_n ?_ | refine b_r ?_ | refine b_y rfl ?_ | refine b_z rfl ?_ | refine l_r ?_ | refine l_x ?_ | refine k_seq ?_ | refine k_blk ?_ | refine k_reg ?_ | refine k_ret ?_ | refine k_exit ?_ | refine k_skip ?_ | refine Zs ?_))
    refine s_bs (cs := [.string (Tk.strOf wComma), .string (Tk.strOf wRpar)]) (e := 9) rfl (fun b13 w13 n13 => ?_)
    have g13 := g12.no n13.kp
    refine s_call (us := []) (zs := []) (by kernel_rfl) rfl rfl (is2 g13.at_ ok (Tk.strOf wComma) (Tk.strOf wRpar) (by rw [ec]; decide) (by rw [er]; decide) n13.blk) ?_
    rw [ec, er]
    rintro _ w14 ⟨rfl, k14⟩
    have g14 := g13.no k14
    (repeat (first | refine k_nil ?_ | refine k_n ?_ | refine k_r ?_ | refine k_x ?_ | refine b_n ?_ | refine b_r ?_ | refine b_y rfl ?_ | refine b_z rfl ?_ | refine l_r ?_ | refine l_x ?_ | refine k_seq ?_ | refine k_blk ?_ | refine k_reg ?_ | refine k_ret ?_ | refine k_exit ?_ | refine k_skip ?_ | refine Zs ?_))
    refine c_b rfl (fun hb => ?_) (fun hb => ?_)
    · have hb : (!decide (Sy.wd X.E s9 = wComma ∨ Sy.wd X.E s9 = wRpar)) = true := hb
      rw [if_neg (by simpa using hb)] at hR4
      (repeat (first | refine k_nil ?_ | refine k_n ?_ | refine k_r ?_ | refine k_x ?_ | refine b_n ?_ | refine b_r ?_ | refine b_y rfl ?_ | refine b_z rfl ?_ | refine l_r ?_ | refine l_x ?_ | refine k_seq ?_ | refine k_blk ?_ | refine k_reg ?_ | refine k_ret ?_ | refine k_exit ?_ | refine k_skip ?_ | refine Zs ?_))
      refine s_callX (us := []) (zs := []) (by kernel_rfl) rfl rfl (failF g14.at_ ok 3) ?_
      rintro c w15 ⟨rfl, k15⟩
      exact ⟨3, Sy.hr X.E s9, hR4.symm, rfl, g14.gs.kp.no k15⟩
    · have hb : (!decide (Sy.wd X.E s9 = wComma ∨ Sy.wd X.E s9 = wRpar)) = false := hb
      have hq : Sy.wd X.E s9 = wComma ∨ Sy.wd X.E s9 = wRpar := by
        by_cases q : Sy.wd X.E s9 = wComma ∨ Sy.wd X.E s9 = wRpar
        · exact q
        · rw [decide_eq_false q] at hb; cases hb
      rw [if_pos hq] at hR4
      (repeat (first | refine k_nil ?_ | refine k_n ?_ | refine k_r ?_ | refine k_x ?_ | refine b_n ?_ | refine b_r ?_ | refine b_y rfl ?_ | refine b_z rfl ?_ | refine l_r ?_ | refine l_x ?_ | refine k_seq ?_ | refine k_blk ?_ | refine k_reg ?_ | refine k_ret ?_ | refine k_exit ?_ | refine k_skip ?_ | refine Zs ?_))
      exact l_next ⟨m, l ++ [a], .slice a1 (l.length + 1) c1, s9, V9⟩ ⟨rfl, rfl, rfl, rfl, trivial⟩ ⟨by simp only; omega, hR4, g14, (B12.no n13.kp).no k14, (l12.no n13.kp).no k14, by unfold Up at u9; simp; omega⟩ (by simp)
/-- What a block's call comes to. -/
def BlockD (X : Cx) (L : Lv) : Prop := ∀ d s V w, 0 ≤ d ∧ d ≤ 65 → At X w s V → block X.E L d s ≠ .out →
  RetP Tryd.prog 32 [ptr X, .int .i64 d] w (fun v w' => ∃ l s' V', block X.E L d s = .ok l s' ∧ Sg X w V w' s' V' ∧ Ls w w' V' 3 v l.length (l.map (Value.int .i64))) (erP X w V (block X.E L d s))
theorem blockF (ok : Ok X) (hW : ∀ m, m ≤ n → Wk X (lv X.E m)) : BlockD X (lv X.E n) := by
  intro d s V w hd h hr
  have el : B (Tk.strOf wLcur) = wLcur := B_of (by decide)
  have er : B (Tk.strOf wRcur) = wRcur := B_of (by decide)
  have hbig := ok.big
  unfold block at hr ⊢
  refine retP_enter Tryd.func32 rfl Tryd.ntmps32 rfl ?_
  (repeat (first | refine k_nil ?_ | refine k_n ?_ | refine k_r ?_ | refine k_x ?_ | refine b_n ?_ | refine b_r ?_ | refine b_y rfl ?_ | refine b_z rfl ?_ | refine l_r ?_ | refine l_x ?_ | refine k_seq ?_ | refine k_blk ?_ | refine k_reg ?_ | refine k_ret ?_ | refine k_exit ?_ | refine k_skip ?_ | refine Zs ?_))
  refine s_bs (cs := [.string (Tk.strOf wLcur)]) (e := 9) rfl (fun b1 w1 n1 => ?_)
  have g1 := (Sg.start h).no n1.kp
  refine s_call (us := []) (zs := []) (by kernel_rfl) rfl rfl (is1 g1.at_ ok (Tk.strOf wLcur) (by rw [el]; decide) n1.blk) ?_
  rw [el]
  rintro _ w2 ⟨rfl, k2⟩
  have g2 := g1.no k2
  (repeat (first | refine k_nil ?_ | refine k_n ?_ | refine k_r ?_ | refine k_x ?_ | refine b_n ?_ | refine b_r ?_ | refine b_y rfl ?_ | refine b_z rfl ?_ | refine l_r ?_ | refine l_x ?_ | refine k_seq ?_ | refine k_blk ?_ | refine k_reg ?_ | refine k_ret ?_ | refine k_exit ?_ | refine k_skip ?_ | refine Zs ?_))
  refine k_cutc (σ := VS) (fun _ => [(0, ptr X), (1, .int .i64 d)]) (fun V3 w' => (if Sy.wd X.E s = wLcur then deep X.E d s else Rs.ok () s) = .ok () s ∧ (Sy.wd X.E s = wLcur → d ≤ 64) ∧ Sg X w V w' s V3) ?_ ?_
  · refine c_dec rfl (fun q => ?_) (fun q => ?_)
    · rw [if_pos q] at hr ⊢
      (repeat (first | refine k_nil ?_ | refine k_n ?_ | refine k_r ?_ | refine k_x ?_ | refine b_n ?_ | refine b_r ?_ | refine b_y rfl ?_ | refine b_z rfl ?_ | refine l_r ?_ | refine l_x ?_ | refine k_seq ?_ | refine k_blk ?_ | refine k_reg ?_ | refine k_ret ?_ | refine k_exit ?_ | refine k_skip ?_ | refine Zs ?_))
      refine s_callP (us := []) (zs := []) (by kernel_rfl) rfl rfl (deepF g2.at_ ok d (bind_ne hr)) (erP.up g2 rfl) ?_
      rintro _ w3 ⟨_, s3, V3, e3, rfl, g3⟩
      have hd' := deep_le e3
      have e3' := deep_up e3
      subst e3'
      (repeat (first | refine k_nil ?_ | refine k_n ?_ | refine k_r ?_ | refine k_x ?_ | refine b_n ?_ | refine b_r ?_ | refine b_y rfl ?_ | refine b_z rfl ?_ | refine l_r ?_ | refine l_x ?_ | refine k_seq ?_ | refine k_blk ?_ | refine k_reg ?_ | refine k_ret ?_ | refine k_exit ?_ | refine k_skip ?_ | refine Zs ?_))
      exact l_cut V3 ⟨rfl, rfl, trivial⟩ ⟨e3, fun _ => hd', g2.call g3⟩
    · rw [if_neg q] at hr ⊢
      (repeat (first | refine k_nil ?_ | refine k_n ?_ | refine k_r ?_ | refine k_x ?_ | refine b_n ?_ | refine b_r ?_ | refine b_y rfl ?_ | refine b_z rfl ?_ | refine l_r ?_ | refine l_x ?_ | refine k_seq ?_ | refine k_blk ?_ | refine k_reg ?_ | refine k_ret ?_ | refine k_exit ?_ | refine k_skip ?_ | refine Zs ?_))
      exact l_cut V ⟨rfl, rfl, trivial⟩ ⟨rfl, fun e => (q e).elim, g2⟩
  rintro V3 lr w3 ⟨e3, hd3, g3⟩
  rw [e3, bind_ok] at hr ⊢
  refine k_seq ?_
  (repeat (first | refine k_nil ?_ | refine k_n ?_ | refine k_r ?_ | refine k_x ?_ | refine b_n ?_ | refine b_r ?_ | refine b_y rfl ?_ | refine b_z rfl ?_ | refine l_r ?_ | refine l_x ?_ | refine k_seq ?_ | refine k_blk ?_ | refine k_reg ?_ | refine k_ret ?_ | refine k_exit ?_ | refine k_skip ?_ | refine Zs ?_))
  refine s_callP (us := []) (zs := []) (by kernel_rfl) rfl rfl (wantF g3.at_ ok (Tk.strOf wLcur) (by rw [el]; decide) (by rw [el]; exact want_no)) (by rw [el]; exact erP.up g3 rfl) ?_
  rw [el]
  rintro _ w4 ⟨_, s4, V4, e4, rfl, g4⟩
  have hd4 : d ≤ 64 := hd3 (by
    unfold want at e4
    split at e4
    · assumption
    · cases e4)
  rw [e4, bind_ok] at hr ⊢
  have g4 := g3.call g4
  obtain ⟨R, hR⟩ : ∃ R, (lv X.E n).stmts d [] s4 = R := ⟨_, rfl⟩
  rw [hR] at hr ⊢
  (repeat (first | refine k_nil ?_ | refine k_n ?_ | refine k_r ?_ | refine k_x ?_ | refine b_n ?_ | refine b_r ?_ | refine b_y rfl ?_ | refine b_z rfl ?_ | refine l_r ?_ | refine l_x ?_ | refine k_seq ?_ | refine k_blk ?_ | refine k_reg ?_ | refine k_ret ?_ | refine k_exit ?_ | refine k_skip ?_ | refine Zs ?_))
  refine k_loop (σ := CallS) (fun x => [(0, ptr X), (1, .int .i64 d), (5, x.lv)])
    (fun x w' => x.m ≤ n ∧ (lv X.E x.m).stmts d x.l x.s = R ∧ Sg X w V w' x.s x.V ∧ Ls w w' x.V 3 x.lv x.l.length (x.l.map (Value.int .i64)) ∧ x.l.length ≤ x.s.i) (fun x => x.m) ⟨n, [], .slice none 0 0, s4, V4⟩ ⟨rfl, rfl, rfl, trivial⟩ ⟨Nat.le_refl _, hR, g4, Ls.nil, Nat.zero_le _⟩ ?_
  rintro ⟨m, l, lv, s5, V5⟩ lr5 w5 ⟨hm, hR5, g5, l5, hl5⟩
  simp only at hm hR5 g5 l5 hl5
  clear hR g3 g4 g2 g1 n1 e3 e4
  cases m with
  | zero => exact (hr (by rw [← hR5]; rfl)).elim
  | succ m =>
  have hR5 : sStmts X.E (Sy.lv X.E m) d l s5 = R := hR5
  unfold sStmts at hR5
  obtain ⟨la, lc, e, _⟩ := own_read l5.own
  subst e
  (repeat (first | refine k_nil ?_ | refine k_n ?_ | refine k_r ?_ | refine k_x ?_ | refine b_n ?_ | refine b_r ?_ | refine b_y rfl ?_ | refine b_z rfl ?_ | refine l_r ?_ | refine l_x ?_ | refine k_seq ?_ | refine k_blk ?_ | refine k_reg ?_ | refine k_ret ?_ | refine k_exit ?_ | refine k_skip ?_ | refine Zs ?_))
  refine s_bs (cs := [.string (Tk.strOf wRcur)]) (e := 9) rfl (fun b6 w6 n6 => ?_)
  have g6 := g5.no n6.kp
  have l6 := l5.no n6.kp
  refine s_call (us := []) (zs := []) (by kernel_rfl) rfl rfl (take1 g6.at_ ok (Tk.strOf wRcur) (by rw [er]; decide) n6.blk) ?_
  rw [er]
  rintro _ w7 ⟨y, ⟨rfl, q7, hz, g7⟩ | ⟨rfl, q7, hz, k7⟩⟩
  · rw [if_pos q7] at hR5
    have l7 := l6.gs g6.at_ g7.gs rfl
    have g7 := g6.call g7
    (repeat (first | refine k_nil ?_ | refine k_n ?_ | refine k_r ?_ | refine k_x ?_ | refine b_n ?_ | refine b_r ?_ | refine b_y rfl ?_ | refine b_z rfl ?_ | refine l_r ?_ | refine l_x ?_ | refine k_seq ?_ | refine k_blk ?_ | refine k_reg ?_ | refine k_ret ?_ | refine k_exit ?_ | refine k_skip ?_ | refine Zs ?_))
    refine c_b rfl (fun hb => (by rw [show _ = _ from hz] at hb; cases hb)) (fun hb => ?_)
    (repeat (first | refine k_nil ?_ | refine k_n ?_ | refine k_r ?_ | refine k_x ?_ | refine b_n ?_ | refine b_r ?_ | refine b_y rfl ?_ | refine b_z rfl ?_ | refine l_r ?_ | refine l_x ?_ | refine k_seq ?_ | refine k_blk ?_ | refine k_reg ?_ | refine k_ret ?_ | refine k_exit ?_ | refine k_skip ?_ | refine Zs ?_))
    exact retP_1 rfl rfl ⟨l, adv s5, V5, hR5.symm, g7, l7⟩
  rw [if_neg q7] at hR5
  have l7 := l6.no k7
  have g7 := g6.no k7
  (repeat (first | refine k_nil ?_ | refine k_n ?_ | refine k_r ?_ | refine k_x ?_ | refine b_n ?_ | refine b_r ?_ | refine b_y rfl ?_ | refine b_z rfl ?_ | refine l_r ?_ | refine l_x ?_ | refine k_seq ?_ | refine k_blk ?_ | refine k_reg ?_ | refine k_ret ?_ | refine k_exit ?_ | refine k_skip ?_ | refine Zs ?_))
  refine c_b rfl (fun hb => ?_) (fun hb => (by rw [show _ = _ from hz] at hb; cases hb))
  (repeat (first | refine k_nil ?_ | refine k_n ?_ | refine k_r ?_ | refine k_x ?_ | refine b_n ?_ | refine b_r ?_ | refine b_y rfl ?_ | refine b_z rfl ?_ | refine l_r ?_ | refine l_x ?_ | refine k_seq ?_ | refine k_blk ?_ | refine k_reg ?_ | refine k_ret ?_ | refine k_exit ?_ | refine k_skip ?_ | refine Zs ?_))
  refine s_callP (us := []) (zs := []) (by kernel_rfl) rfl rfl ((hW m (by omega)).stmt d s5 V5 w7 (by omega) g7.at_ (bind_ne (show _ ≠ _ by rw [hR5]; exact hr))) (erP.up g7 hR5.symm) ?_
  rintro _ w8 ⟨a, s8, V8, e8, rfl, g8⟩
  have u8 := (bd_lv (E := X.E) m).stmt _ _ _ _ e8
  rw [e8, bind_ok] at hR5
  have l8 := l7.gs g7.at_ g8.gs rfl
  have g8 := g7.call g8
  refine s_bs (cs := [.int .i64 a]) (e := 3) rfl (fun b9 w9 n9 => ?_)
  have g9 := g8.no n9.kp
  have l9 := l8.no n9.kp
  have hi8 := g8.at_.lt
  have hlen : l.length ≤ 20001 := by unfold Up at u8; omega
  refine s_app (size := 1) (bytes := 8) (base := 0) (news := [.int .i64 a]) rfl rfl rfl rfl rfl rfl rfl rfl l9.own rfl (blk_cells n9.blk) rfl rfl (by omega) (by omega) (Nat.zero_le _) ?_
  intro v10 w10 ap
  obtain ⟨g10, l10⟩ := g9.lst h l9 ap rfl
  obtain ⟨a1, c1, e1, _⟩ := own_read l10.own
  subst e1
  have l11 : Ls w w10 V8 3 (.slice a1 (l.length + 1) c1) (l ++ [a]).length ((l ++ [a]).map (Value.int .i64)) := by
    rw [snoc_int] at l10
    simpa using l10
  (repeat (first | refine k_nil ?_ | refine k_n ?_ | refine k_r ?_ | refine k_x ?_ | refine b_n ?_ | refine b_r ?_ | refine b_y rfl ?_ | refine b_z rfl ?_ | refine l_r ?_ | refine l_x ?_ | refine k_seq ?_ | refine k_blk ?_ | refine k_reg ?_ | refine k_ret ?_ | refine k_exit ?_ | refine k_skip ?_ | refine Zs ?_))
  exact l_next ⟨m, l ++ [a], .slice a1 (l.length + 1) c1, s8, V8⟩ ⟨rfl, rfl, rfl, trivial⟩ ⟨by simp only; omega, hR5, g10, l11, by unfold Up at u8; simp; omega⟩ (by simp)
end
end Go.Proofs.YtgnkdeapifbgeaaDoor.Sy
