/- What the proofs of this seat lean on, part 8. -/
import Derived.Test.YtfnbgbeinmekgaaGreatDoorPd7
namespace Go.Proofs.YtfnbgbeinmekgaaGreatDoor.Sy
open Go Go.RowKit Fw
set_option linter.unusedVariables false
set_option maxRecDepth 20000
theorem Rd1 {w : World} {b : Nat} {x : ByteArray} {T : TypeId} (h : w.heap[b]? = some (.cells [Value.string x].toArray T (0, 0))) : Tk.Rd w (some ⟨b, 0, none⟩) [x] :=
  .inr ⟨b, 0, rfl, fun j s hj => by
    cases j with
    | zero => cases hj; exact cell_of_blk h rfl
    | succ j => simp at hj⟩
def unitV {α : Type} (_ : α) (_ : World) (v : Value) : Prop := v = .tuple #[]
def intV (x : Int) (_ : World) (v : Value) : Prop := v = .int .i64 x
def strV (x : List Int) (_ : World) (v : Value) : Prop := v = sv x
theorem wantF {X : Cx} {w : World} {s : PS} {V : VS} (h : At X w s V) (ok : Ok X) (y : ByteArray) (hy : B y ≠ []) :
    Does X 42 [.pointer (some ⟨X.p, 0, none⟩), .string y] w V (want X.E (B y) s) unitV := by
  intro _
  refine retP_enter Tryz.func42 rfl Tryz.ntmps42 rfl ?_
  (repeat refine Zr ?_)
  refine s_bs (cs := [.string y]) rfl (fun b1 w1 n1 => ?_)
  have h1 := h.no n1.kp
  refine s_call (us := []) (zs := []) (by kernel_rfl) rfl rfl (takeF h1 ok [y] (some ⟨b1, 0, none⟩) 1 (Rd1 n1.blk) (Nat.le_of_ble_eq_true rfl) (by simpa using hy)) ?_
  rintro v w2 ⟨x, hx, ⟨q, rfl, hz, g2⟩ | ⟨q, rfl, k2⟩⟩
  · (repeat refine Zr ?_)
    refine c_b rfl (fun hb => (by rw [show _ = _ from hz] at hb; cases hb)) (fun hb => ?_)
    (repeat refine Zr ?_)
    refine endP_0 rfl ⟨(), adv s, V, ?_, rfl, (Sg.no (Sg.start h) n1.kp).call g2⟩
    rw [want, if_pos (by simpa using q)]
  · (repeat refine Zr ?_)
    refine c_b rfl (fun hb => ?_) (fun hb => (by rw [show _ = _ from ez] at hb; cases hb))
    (repeat refine Zr ?_)
    refine s_callX (us := []) (zs := []) (by kernel_rfl) rfl rfl (failF (h1.no k2) ok 3) ?_
    rintro c w3 ⟨rfl, k3⟩
    exact ⟨3, hr X.E s, by rw [want, if_neg (by simpa using q)]; rfl, rfl, (((n1.kp).no k2).no k3).mono fun _ _ h => h.elim⟩
theorem kindF {X : Cx} {w : World} {s : PS} {V : VS} (h : At X w s V) (ok : Ok X) (k : Int) (hk : k ≠ 0) :
    Does X 43 [.pointer (some ⟨X.p, 0, none⟩), .int .i64 k] w V (knd X.E k s) strV := by
  intro _
  obtain ⟨t, x, ht, hx, e1, e2, e3⟩ := h.tok ok
  obtain ⟨g, c, e, hc⟩ := h.tokens
  obtain ⟨c1, c2, c3⟩ := hc _ _ ht
  have hb := h.blk
  rw [e] at hb
  have hl := h.lt
  have hll := ok.len
  have hbig := ok.big
  refine retP_enter Tryz.func43 rfl Tryz.ntmps43 rfl ?_
  (repeat refine Zr ?_)
  refine k_q (by kernel_rfl) (by kernel_rfl) ?_
  (repeat (first | refine Zq ?_ | refine Zqn ?_ | refine Zqu ?_ | refine Zqg ?_))
  refine q_nil (fun w1 k1 => ?_)
  have h1 := h.no k1
  (repeat refine Zr ?_)
  refine c_ne rfl (fun q => ?_) (fun q => ?_)
  · (repeat refine Zr ?_)
    refine s_callX (us := []) (zs := []) (by kernel_rfl) rfl rfl (failF h1 ok 3) ?_
    rintro c w3 ⟨rfl, k3⟩
    exact ⟨3, hr X.E s, by rw [knd, if_neg (by rw [e1]; exact q)]; rfl, rfl, (k1.no k3).mono fun _ _ h => h.elim⟩
  · have hb1 := h1.blk
    obtain ⟨g', cw, e', hc'⟩ := h1.texts ok
    rw [e'] at hb1
    (repeat refine Zr ?_)
    refine s_st (vs := [.int .i64 ((s.i : Int) + 1)]) rfl rfl rfl rfl rfl hb1 (Nat.le_of_ble_eq_true rfl) (fun w2 s2 => ?_)
    have s2' : Sb w1 X.p [X.tv, X.wv, .int .i64 ((s.i + 1 : Nat) : Int), V.x, V.s, V.f] 56 w2 := ⟨s2.kp, s2.sz, by rw [e']; exact s2.blk⟩
    have g2 := h1.adv ok (.inr (by rw [e1, q]; exact hk)) s2'
    have hb2 : w2.heap[X.p]? = some (.cells [X.tv, .slice (some ⟨g', 0, none⟩) X.wl.length cw, .int .i64 ((s.i : Int) + 1), V.x, V.s, V.f].toArray 56 (0, 0)) := s2.blk
    obtain ⟨g'', cw', e'', hc''⟩ := g2.at_.texts ok
    rw [e'] at e''
    cases e''
    have c2 : w2.cell? ⟨g', 0 + ((s.i : Int) + 1 - 1).toNat * 1, none⟩ = some (.string x) := by
      have := hc'' _ _ hx
      have e4 : ((s.i : Int) + 1 - 1).toNat = (s.i : Int).toNat := by omega
      rw [e4]; exact this
    (repeat refine Zr ?_)
    refine k_q (by kernel_rfl) (by kernel_rfl) ?_
    (repeat (first | refine Zq ?_ | refine Zqn ?_ | refine Zqu ?_ | refine Zqg ?_))
    refine q_nil (fun w3 k3 => ?_)
    (repeat refine Zr ?_)
    refine retP_1 rfl rfl ⟨Sy.wd X.E s, adv s, V, by rw [knd, if_pos (by rw [e1]; exact q)], ?_, (Sg.call (Sg.no (Sg.start h) k1) g2).no k3⟩
    show _ = sv _
    rw [e3, sv_B]
theorem deepF {X : Cx} {w : World} {s : PS} {V : VS} (h : At X w s V) (ok : Ok X) (d : Int) :
    Does X 76 [.pointer (some ⟨X.p, 0, none⟩), .int .i64 d] w V (deep X.E d s) unitV := by
  intro _
  refine retP_enter Tryz.func76 rfl Tryz.ntmps76 rfl ?_
  (repeat refine Zr ?_)
  refine c_dec rfl (fun q => ?_) (fun q => ?_)
  · (repeat refine Zr ?_)
    refine s_callX (us := []) (zs := []) (by kernel_rfl) rfl rfl (failF h ok 4) ?_
    rintro c w3 ⟨rfl, k3⟩
    exact ⟨4, hr X.E s, by rw [deep, if_pos q]; rfl, rfl, k3.mono fun _ _ h => h.elim⟩
  · (repeat refine Zr ?_)
    exact endP_0 rfl ⟨(), s, V, by rw [deep, if_neg q], rfl, Sg.start h⟩
theorem spanF {X : Cx} {w : World} {s : PS} {V : VS} (h : At X w s V) (ok : Ok X) (hi : 1 ≤ s.i) (fr : Int) :
    Ret Tryz.prog 46 [.pointer (some ⟨X.p, 0, none⟩), .int .i64 fr] w fun v w1 => v = .agg #[.int .i64 fr, .int .i64 (pe X.E s)] ∧ Kp No w w1 := by
  obtain ⟨g, c, e, hc⟩ := h.tokens
  have hl := h.lt
  have hbig := ok.big
  obtain ⟨t, ht⟩ : ∃ t, X.T[s.i - 1]? = some t := ⟨_, List.getElem?_eq_getElem (by omega)⟩
  have e1 : pe X.E s = t.2.2 := by simp [pe, Cx.E, ht]
  obtain ⟨_, _, c3⟩ := hc _ _ ht
  have c3 : w.cell? ⟨g, 0 + ((s.i : Int) - 1).toNat * 3 + 1 + 1, none⟩ = some (.int .i64 t.2.2) := by
    have e4 : ((s.i : Int) - 1).toNat = ((s.i - 1 : Nat) : Int).toNat := by omega
    rw [e4]; exact c3
  have hb := h.blk
  rw [e] at hb
  rw [e1]
  refine ret_enter Tryz.func46 rfl Tryz.ntmps46 rfl ?_
  (repeat refine Zr ?_)
  refine s_al rfl (fun b4 w1 n1 => ?_)
  have h1 := h.no n1.kp
  have hb1 := n1.kp.get0 hb
  have c31 := n1.kp.cell0 c3
  (repeat refine Zr ?_)
  refine k_h (fun w' => Kp No w1 w') [(0, false), (1, false), (2, false), (3, false), (4, false), (5, false), (6, false), (7, false), (8, false), (9, false), (10, false), (11, false), (12, false), (13, false), (14, false), (15, true)] 15 (by kernel_rfl) (waits_of_last (by kernel_rfl)) (by kernel_rfl) (by kernel_rfl) (by kernel_rfl) rfl (fun w2 k2 q2 => ?_)
  (repeat (first | refine Zh ?_))
  refine h_v k2 (fun w' hw => r_ld rfl rfl (cell_of_blk (hw.get0 hb1) rfl)) ?_
  (repeat (first | refine Zh ?_))
  refine h_v k2 (fun w' hw => r_ld rfl rfl (cell_of_blk (hw.get0 hb1) rfl)) ?_
  refine h_v k2 (fun w' hw => r_sub rfl rfl (by omega)) ?_
  refine h_v k2 (fun w' hw => r_ia rfl rfl rfl rfl (by omega) (by omega)) ?_
  (repeat (first | refine Zh ?_))
  refine h_v k2 (fun w' hw => r_ld rfl rfl (hw.cell0 c31)) ?_
  (repeat (first | refine Zh ?_))
  refine h_v k2 (fun w' hw => r_bd rfl) ?_
  refine h_st (vs := [.int .i64 fr, .int .i64 t.2.2]) rfl rfl rfl rfl rfl (k2.get0 n1.blk) (Nat.le_of_ble_eq_true rfl) (fun w3 s3 => ⟨fun h => (h rfl).elim, ?_⟩)
  refine h_nil ?_
  (repeat refine Zr ?_)
  refine ret_c1 rfl (rv_ag (vs := [.int .i64 fr, .int .i64 t.2.2]) rfl rfl rfl s3.blk rfl rfl) ⟨rfl, ?_⟩
  refine (n1.kp.no k2).trans s3.kp fun i hi e => ?_
  have := n1.ge
  omega
end Go.Proofs.YtfnbgbeinmekgaaGreatDoor.Sy
namespace Go.Proofs.YtfnbgbeinmekgaaGreatDoor.Sy
open Go Go.RowKit Fw
set_option linter.unusedVariables false
set_option maxRecDepth 20000
set_option maxHeartbeats 1000000 in
theorem arX (b o : Nat) (cs : List Value) (T : TypeId) (v0 : Value) (k : Nat) (xs : List Value) (x : Ex) (la : Option Addr) (ln lc : Nat) (w : World) (hb : w.heap[b]? = some (.cells cs.toArray T (0, 0))) (ho : cs[o]? = some v0) (own : w.ownsRow 0 67 9 v0 k xs)
    (hk : k ≤ 1000000) (hne : Nat.beq 67 T = false) :
    Ret Tryz.prog 144 [.pointer (some ⟨b, o, none⟩), .agg (exC (x, .slice la ln lc)).toArray] w fun v w1 => v = .int .i64 (k : Int) ∧ ∃ v1, w1.heap[b]? = some (.cells (setAt cs o [v1]).toArray T (0, 0)) ∧ w1.ownsRow 0 67 9 v1 (k + 1) (xs ++ exC (x, .slice la ln lc)) ∧
      Kp (fun i => i = b ∨ v0.ownBlock = some i) w w1 ∧ ∀ g, v1.ownBlock = some g → v0.ownBlock = some g ∨ w.heap.size ≤ g := by
  have hol : o < cs.length := (List.getElem?_eq_some_iff.1 ho).1
  have hn0 : ∀ g, v0.ownBlock = some g → g ≠ b := fun g hg => by
    obtain ⟨c, hc⟩ := own_ty own hg
    exact ty_ne hc hb hne
  refine ret_enter Tryz.func144 rfl Tryz.ntmps144 rfl ?_
  (repeat refine Zr ?_)
  refine s_box (cs := exC (x, .slice la ln lc)) rfl rfl (fun b3 w1 n1 => ?_)
  have hb1 := n1.kp.get0 hb
  have own1 : w1.ownsRow 0 67 9 v0 k xs := own_kp own n1.kp fun _ _ h => h
  have hbb : b < w.heap.size := lt_of_get hb
  have h3n : ¬ some b3 = v0.ownBlock := fun e => by
    obtain ⟨c, hc⟩ := own_ty own e.symm
    have := lt_of_get hc
    have := n1.ge
    omega
  have hbn : ¬ some b = v0.ownBlock := fun e => hn0 b e.symm rfl
  (repeat refine Zr ?_)
  refine k_h (fun w' => Kp (fun i => some i = v0.ownBlock) w1 w') [(0, false), (1, false), (2, false), (3, false), (4, false), (5, false), (6, true), (7, true), (8, false), (9, false), (10, true)] 10 (by kernel_rfl) (waits_of_last (by kernel_rfl)) (by kernel_rfl) (by kernel_rfl) (by kernel_rfl) rfl (fun w2 k2 q2 => ?_)
  have k2' : Kp (fun i => some i = v0.ownBlock) w1 w2 := k2.mono fun _ _ h => h.elim
  refine h_v k2' (fun w' hw => r_mv rfl) ?_
  refine h_v k2' (fun w' hw => r_mv rfl) ?_
  refine h_v k2' (fun w' hw => r_nc rfl) ?_
  refine h_v k2' (fun w' hw => r_fa rfl rfl) ?_
  refine h_v k2' (fun w' hw => r_ld rfl rfl (cell_of_blk (hw.get hb1 hbn) (by simpa using ho))) ?_
  refine h_v k2' (fun w' hw => r_ldb (vs := exC (x, .slice la ln lc)) rfl rfl rfl (hw.get n1.blk h3n) rfl rfl) ?_
  refine h_bs (cs := exC (x, .slice la ln lc)) (e := 67) rfl (fun b6 w3 n3 => ⟨fun _ => k2'.no n3.kp, ?_⟩)
  have own3 : w3.ownsRow 0 67 9 v0 k xs := own_kp own1 (k2.no n3.kp) fun _ _ h => h
  refine h_app (size := 9) (bytes := 104) (base := 0) (news := exC (x, .slice la ln lc)) rfl rfl rfl rfl rfl rfl rfl rfl own3 rfl (blk_cells n3.blk) rfl rfl (by omega) (by omega) (Nat.zero_le _) ?_
  intro v1 w4 ap
  have k4 : Kp (fun i => some i = v0.ownBlock) w1 w4 := (k2'.no n3.kp).trans ap.kp (fun _ _ h => h)
  refine ⟨fun _ => k4, ?_⟩
  have hb4 := k4.get hb1 hbn
  refine h_v k4 (fun w' hw => r_nc rfl) ?_
  refine h_v k4 (fun w' hw => r_fa rfl rfl) ?_
  have hv1 : ∃ a c, v1 = .slice a (k + 1) c := by
    obtain ⟨a, c, e, _⟩ := own_read ap.own
    exact ⟨a, c, e⟩
  obtain ⟨a1, c1, rfl⟩ := hv1
  refine h_st (vs := [.slice a1 (k + 1) c1]) rfl rfl rfl rfl rfl hb4 (by simp; omega) (fun w5 s5 => ⟨fun h => (h rfl).elim, ?_⟩)
  refine h_nil ?_
  have hs : w5.heap[b]? = some (.cells (setAt cs o [.slice a1 (k + 1) c1]).toArray T (0, 0)) := by simpa using s5.blk
  have hbw : ∀ g, (Value.slice a1 (k + 1) c1).ownBlock = some g → g ≠ b := fun g hg => by
    obtain ⟨c, hc⟩ := own_ty ap.own hg
    exact ty_ne hc hb4 hne
  have own5 : w5.ownsRow 0 67 9 (.slice a1 (k + 1) c1) (k + 1) (xs ++ exC (x, .slice la ln lc)) := own_kp ap.own s5.kp fun g hg e => hbw g hg e
  have hc5 : w5.cell? ⟨b, o + 0, none⟩ = some (.slice a1 (k + 1) c1) := by
    refine cell_of_blk hs ?_
    rw [setAt_eq _ _ _ (by simp; omega)]
    rw [List.getElem?_append_left (by simp; omega), List.getElem?_append_right (by simp; omega)]
    simp [Nat.min_eq_left (Nat.le_of_lt hol)]
  (repeat refine Zr ?_)
  refine ret_1 rfl rfl ⟨by congr 1; omega, _, hs, own5, ?_, ?_⟩
  · refine ((n1.kp.mono fun _ _ h => h.elim).trans k4 (fun i _ h => .inr h.symm)).trans s5.kp (fun i _ h => .inl h)
  · intro g hg
    rcases ap.row g hg with h | h
    · exact .inl h
    · have := n1.kp.size; have := k2.size; have := n3.kp.size; exact .inr (by omega)
set_option maxHeartbeats 1000000 in
theorem arS (b o : Nat) (cs : List Value) (T : TypeId) (v0 : Value) (k : Nat) (xs : List Value) (x : St) (la ma : Option Addr) (ln lc mn mc : Nat) (w : World) (hb : w.heap[b]? = some (.cells cs.toArray T (0, 0))) (ho : cs[o]? = some v0) (own : w.ownsRow 0 42 9 v0 k xs)
    (hk : k ≤ 1000000) (hne : Nat.beq 42 T = false) :
    Ret Tryz.prog 123 [.pointer (some ⟨b, o, none⟩), .agg (stC (x, .slice la ln lc, .slice ma mn mc)).toArray] w fun v w1 => v = .int .i64 (k : Int) ∧ ∃ v1, w1.heap[b]? = some (.cells (setAt cs o [v1]).toArray T (0, 0)) ∧ w1.ownsRow 0 42 9 v1 (k + 1) (xs ++ stC (x, .slice la ln lc, .slice ma mn mc)) ∧
      Kp (fun i => i = b ∨ v0.ownBlock = some i) w w1 ∧ ∀ g, v1.ownBlock = some g → v0.ownBlock = some g ∨ w.heap.size ≤ g := by
  have hol : o < cs.length := (List.getElem?_eq_some_iff.1 ho).1
  have hn0 : ∀ g, v0.ownBlock = some g → g ≠ b := fun g hg => by
    obtain ⟨c, hc⟩ := own_ty own hg
    exact ty_ne hc hb hne
  refine ret_enter Tryz.func123 rfl Tryz.ntmps123 rfl ?_
  (repeat refine Zr ?_)
  refine s_box (cs := stC (x, .slice la ln lc, .slice ma mn mc)) rfl rfl (fun b3 w1 n1 => ?_)
  have hb1 := n1.kp.get0 hb
  have own1 : w1.ownsRow 0 42 9 v0 k xs := own_kp own n1.kp fun _ _ h => h
  have hbb : b < w.heap.size := lt_of_get hb
  have h3n : ¬ some b3 = v0.ownBlock := fun e => by
    obtain ⟨c, hc⟩ := own_ty own e.symm
    have := lt_of_get hc
    have := n1.ge
    omega
  have hbn : ¬ some b = v0.ownBlock := fun e => hn0 b e.symm rfl
  (repeat refine Zr ?_)
  refine k_h (fun w' => Kp (fun i => some i = v0.ownBlock) w1 w') [(0, false), (1, false), (2, false), (3, false), (4, false), (5, false), (6, true), (7, true), (8, false), (9, false), (10, true)] 10 (by kernel_rfl) (waits_of_last (by kernel_rfl)) (by kernel_rfl) (by kernel_rfl) (by kernel_rfl) rfl (fun w2 k2 q2 => ?_)
  have k2' : Kp (fun i => some i = v0.ownBlock) w1 w2 := k2.mono fun _ _ h => h.elim
  refine h_v k2' (fun w' hw => r_mv rfl) ?_
  refine h_v k2' (fun w' hw => r_mv rfl) ?_
  refine h_v k2' (fun w' hw => r_nc rfl) ?_
  refine h_v k2' (fun w' hw => r_fa rfl rfl) ?_
  refine h_v k2' (fun w' hw => r_ld rfl rfl (cell_of_blk (hw.get hb1 hbn) (by simpa using ho))) ?_
  refine h_v k2' (fun w' hw => r_ldb (vs := stC (x, .slice la ln lc, .slice ma mn mc)) rfl rfl rfl (hw.get n1.blk h3n) rfl rfl) ?_
  refine h_bs (cs := stC (x, .slice la ln lc, .slice ma mn mc)) (e := 42) rfl (fun b6 w3 n3 => ⟨fun _ => k2'.no n3.kp, ?_⟩)
  have own3 : w3.ownsRow 0 42 9 v0 k xs := own_kp own1 (k2.no n3.kp) fun _ _ h => h
  refine h_app (size := 9) (bytes := 112) (base := 0) (news := stC (x, .slice la ln lc, .slice ma mn mc)) rfl rfl rfl rfl rfl rfl rfl rfl own3 rfl (blk_cells n3.blk) rfl rfl (by omega) (by omega) (Nat.zero_le _) ?_
  intro v1 w4 ap
  have k4 : Kp (fun i => some i = v0.ownBlock) w1 w4 := (k2'.no n3.kp).trans ap.kp (fun _ _ h => h)
  refine ⟨fun _ => k4, ?_⟩
  have hb4 := k4.get hb1 hbn
  refine h_v k4 (fun w' hw => r_nc rfl) ?_
  refine h_v k4 (fun w' hw => r_fa rfl rfl) ?_
  have hv1 : ∃ a c, v1 = .slice a (k + 1) c := by
    obtain ⟨a, c, e, _⟩ := own_read ap.own
    exact ⟨a, c, e⟩
  obtain ⟨a1, c1, rfl⟩ := hv1
  refine h_st (vs := [.slice a1 (k + 1) c1]) rfl rfl rfl rfl rfl hb4 (by simp; omega) (fun w5 s5 => ⟨fun h => (h rfl).elim, ?_⟩)
  refine h_nil ?_
  have hs : w5.heap[b]? = some (.cells (setAt cs o [.slice a1 (k + 1) c1]).toArray T (0, 0)) := by simpa using s5.blk
  have hbw : ∀ g, (Value.slice a1 (k + 1) c1).ownBlock = some g → g ≠ b := fun g hg => by
    obtain ⟨c, hc⟩ := own_ty ap.own hg
    exact ty_ne hc hb4 hne
  have own5 : w5.ownsRow 0 42 9 (.slice a1 (k + 1) c1) (k + 1) (xs ++ stC (x, .slice la ln lc, .slice ma mn mc)) := own_kp ap.own s5.kp fun g hg e => hbw g hg e
  have hc5 : w5.cell? ⟨b, o + 0, none⟩ = some (.slice a1 (k + 1) c1) := by
    refine cell_of_blk hs ?_
    rw [setAt_eq _ _ _ (by simp; omega)]
    rw [List.getElem?_append_left (by simp; omega), List.getElem?_append_right (by simp; omega)]
    simp [Nat.min_eq_left (Nat.le_of_lt hol)]
  (repeat refine Zr ?_)
  refine ret_1 rfl rfl ⟨by congr 1; omega, _, hs, own5, ?_, ?_⟩
  · refine ((n1.kp.mono fun _ _ h => h.elim).trans k4 (fun i _ h => .inr h.symm)).trans s5.kp (fun i _ h => .inl h)
  · intro g hg
    rcases ap.row g hg with h | h
    · exact .inl h
    · have := n1.kp.size; have := k2.size; have := n3.kp.size; exact .inr (by omega)
set_option maxHeartbeats 1000000 in
theorem arF (b o : Nat) (cs : List Value) (T : TypeId) (v0 : Value) (k : Nat) (xs : List Value) (x : Fn) (la ma : Option Addr) (ln lc mn mc : Nat) (w : World) (hb : w.heap[b]? = some (.cells cs.toArray T (0, 0))) (ho : cs[o]? = some v0) (own : w.ownsRow 0 62 6 v0 k xs)
    (hk : k ≤ 1000000) (hne : Nat.beq 62 T = false) :
    Ret Tryz.prog 47 [.pointer (some ⟨b, o, none⟩), .agg (fnC (x, .slice la ln lc, .slice ma mn mc)).toArray] w fun v w1 => v = .int .i64 (k : Int) ∧ ∃ v1, w1.heap[b]? = some (.cells (setAt cs o [v1]).toArray T (0, 0)) ∧ w1.ownsRow 0 62 6 v1 (k + 1) (xs ++ fnC (x, .slice la ln lc, .slice ma mn mc)) ∧
      Kp (fun i => i = b ∨ v0.ownBlock = some i) w w1 ∧ ∀ g, v1.ownBlock = some g → v0.ownBlock = some g ∨ w.heap.size ≤ g := by
  have hol : o < cs.length := (List.getElem?_eq_some_iff.1 ho).1
  have hn0 : ∀ g, v0.ownBlock = some g → g ≠ b := fun g hg => by
    obtain ⟨c, hc⟩ := own_ty own hg
    exact ty_ne hc hb hne
  refine ret_enter Tryz.func47 rfl Tryz.ntmps47 rfl ?_
  (repeat refine Zr ?_)
  refine s_box (cs := fnC (x, .slice la ln lc, .slice ma mn mc)) rfl rfl (fun b3 w1 n1 => ?_)
  have hb1 := n1.kp.get0 hb
  have own1 : w1.ownsRow 0 62 6 v0 k xs := own_kp own n1.kp fun _ _ h => h
  have hbb : b < w.heap.size := lt_of_get hb
  have h3n : ¬ some b3 = v0.ownBlock := fun e => by
    obtain ⟨c, hc⟩ := own_ty own e.symm
    have := lt_of_get hc
    have := n1.ge
    omega
  have hbn : ¬ some b = v0.ownBlock := fun e => hn0 b e.symm rfl
  (repeat refine Zr ?_)
  refine k_h (fun w' => Kp (fun i => some i = v0.ownBlock) w1 w') [(0, false), (1, false), (2, false), (3, false), (4, false), (5, false), (6, true), (7, true), (8, false), (9, false), (10, true)] 10 (by kernel_rfl) (waits_of_last (by kernel_rfl)) (by kernel_rfl) (by kernel_rfl) (by kernel_rfl) rfl (fun w2 k2 q2 => ?_)
  have k2' : Kp (fun i => some i = v0.ownBlock) w1 w2 := k2.mono fun _ _ h => h.elim
  refine h_v k2' (fun w' hw => r_mv rfl) ?_
  refine h_v k2' (fun w' hw => r_mv rfl) ?_
  refine h_v k2' (fun w' hw => r_nc rfl) ?_
  refine h_v k2' (fun w' hw => r_fa rfl rfl) ?_
  refine h_v k2' (fun w' hw => r_ld rfl rfl (cell_of_blk (hw.get hb1 hbn) (by simpa using ho))) ?_
  refine h_v k2' (fun w' hw => r_ldb (vs := fnC (x, .slice la ln lc, .slice ma mn mc)) rfl rfl rfl (hw.get n1.blk h3n) rfl rfl) ?_
  refine h_bs (cs := fnC (x, .slice la ln lc, .slice ma mn mc)) (e := 62) rfl (fun b6 w3 n3 => ⟨fun _ => k2'.no n3.kp, ?_⟩)
  have own3 : w3.ownsRow 0 62 6 v0 k xs := own_kp own1 (k2.no n3.kp) fun _ _ h => h
  refine h_app (size := 6) (bytes := 88) (base := 0) (news := fnC (x, .slice la ln lc, .slice ma mn mc)) rfl rfl rfl rfl rfl rfl rfl rfl own3 rfl (blk_cells n3.blk) rfl rfl (by omega) (by omega) (Nat.zero_le _) ?_
  intro v1 w4 ap
  have k4 : Kp (fun i => some i = v0.ownBlock) w1 w4 := (k2'.no n3.kp).trans ap.kp (fun _ _ h => h)
  refine ⟨fun _ => k4, ?_⟩
  have hb4 := k4.get hb1 hbn
  refine h_v k4 (fun w' hw => r_nc rfl) ?_
  refine h_v k4 (fun w' hw => r_fa rfl rfl) ?_
  have hv1 : ∃ a c, v1 = .slice a (k + 1) c := by
    obtain ⟨a, c, e, _⟩ := own_read ap.own
    exact ⟨a, c, e⟩
  obtain ⟨a1, c1, rfl⟩ := hv1
  refine h_st (vs := [.slice a1 (k + 1) c1]) rfl rfl rfl rfl rfl hb4 (by simp; omega) (fun w5 s5 => ⟨fun h => (h rfl).elim, ?_⟩)
  refine h_nil ?_
  have hs : w5.heap[b]? = some (.cells (setAt cs o [.slice a1 (k + 1) c1]).toArray T (0, 0)) := by simpa using s5.blk
  have hbw : ∀ g, (Value.slice a1 (k + 1) c1).ownBlock = some g → g ≠ b := fun g hg => by
    obtain ⟨c, hc⟩ := own_ty ap.own hg
    exact ty_ne hc hb4 hne
  have own5 : w5.ownsRow 0 62 6 (.slice a1 (k + 1) c1) (k + 1) (xs ++ fnC (x, .slice la ln lc, .slice ma mn mc)) := own_kp ap.own s5.kp fun g hg e => hbw g hg e
  have hc5 : w5.cell? ⟨b, o + 0, none⟩ = some (.slice a1 (k + 1) c1) := by
    refine cell_of_blk hs ?_
    rw [setAt_eq _ _ _ (by simp; omega)]
    rw [List.getElem?_append_left (by simp; omega), List.getElem?_append_right (by simp; omega)]
    simp [Nat.min_eq_left (Nat.le_of_lt hol)]
  (repeat refine Zr ?_)
  refine ret_1 rfl rfl ⟨by congr 1; omega, _, hs, own5, ?_, ?_⟩
  · refine ((n1.kp.mono fun _ _ h => h.elim).trans k4 (fun i _ h => .inr h.symm)).trans s5.kp (fun i _ h => .inl h)
  · intro g hg
    rcases ap.row g hg with h | h
    · exact .inl h
    · have := n1.kp.size; have := k2.size; have := n3.kp.size; exact .inr (by omega)
end Go.Proofs.YtfnbgbeinmekgaaGreatDoor.Sy
namespace Go.Proofs.YtfnbgbeinmekgaaGreatDoor.Sy
open Go Go.RowKit Fw
set_option linter.unusedVariables false
set_option maxRecDepth 20000
/-- Behind a Put: all but one arena is kept. -/
theorem own_put2 {X : Cx} {w w1 : World} {s : PS} {V : VS} (h : At X w s V) {v0 : Value} {base0 size0 n0 : Nat} {cs0 : List Value} {e0 : TypeId} (o0 : w.ownsRow base0 e0 size0 v0 n0 cs0) (k : Kp (fun i => i = X.p ∨ v0.ownBlock = some i) w w1)
    {base : Nat} {e : TypeId} {size : Nat} {v : Value} {n : Nat} {cs : List Value} (ho : w.ownsRow base e size v n cs) (he : Nat.beq e 56 = false) (he0 : Nat.beq e e0 = false) : w1.ownsRow base e size v n cs :=
  own_kp ho k fun g hg hs => by
    obtain ⟨c, hc⟩ := own_ty ho hg
    rcases hs with hs | hs
    · exact ty_ne hc h.blk he hs
    · obtain ⟨c', hc'⟩ := own_ty o0 hs
      exact ty_ne hc hc' he0 rfl
theorem putF {X : Cx} {w : World} {s : PS} {V : VS} (h : At X w s V) (ok : Ok X) (fr : Int) (x : Ex) (lv : Value) (hl : LI w lv x.l) (how : Ow V lv) (hx : s.ex.length + 1 ≤ s.i) :
    Does X 134 [.pointer (some ⟨X.p, 0, none⟩), .int .i64 fr, .agg (exC (x, lv)).toArray] w V (put X.E fr x s) intV := by
  intro _
  have hlt := h.lt
  have hbig := ok.big
  obtain ⟨la, lc, rfl⟩ := hl.val
  refine retP_enter Tryz.func134 rfl Tryz.ntmps134 rfl ?_
  (repeat refine Zr ?_)
  refine s_box (cs := exC (x, .slice la x.l.length lc)) rfl rfl (fun b5 w1 n1 => ?_)
  (repeat refine Zr ?_)
  refine s_call (us := []) (zs := []) (by kernel_rfl) rfl rfl (spanF (h.no n1.kp) ok (by omega) fr) ?_
  rintro v w2 ⟨rfl, k2⟩
  have g2 : Sg X w V w2 s V := ((Sg.start h).no n1.kp).no k2
  have B2 : Bx X w w2 V b5 (exC (x, .slice la x.l.length lc)) 67 := (Bx.new (w0 := w) h (Nat.le_refl _) n1).no k2
  have hb2 : w2.heap[b5]? = some (.cells [Value.int .i64 x.k, .int .i64 x.f, .int .i64 x.e, .int .i64 x.n, sv x.nm, sv x.op, .int .i64 x.a, .int .i64 x.b, .slice la x.l.length lc].toArray 67 (0, 0)) := B2.blk
  (repeat refine Zr ?_)
  refine s_st (vs := [.int .i64 fr, .int .i64 (pe X.E s)]) rfl rfl rfl rfl rfl hb2 (Nat.le_of_ble_eq_true rfl) (fun w3 s3 => ?_)
  obtain ⟨g3, B3⟩ := g2.put B2 (cs' := exC ({ x with f := fr, e := pe X.E s }, .slice la x.l.length lc)) ⟨s3.kp, s3.sz, s3.blk⟩ rfl
  have h3 := g3.at_
  obtain ⟨rx, a1, o1, l1⟩ := h3.xs
  have hb3 := h3.blk
  (repeat refine Zr ?_)
  have B3' : w3.heap[b5]? = some (.cells (exC ({ x with f := fr, e := pe X.E s }, .slice la x.l.length lc)).toArray 67 (0, 0)) := B3.blk
  refine k_h (fun w' => Kp (Sx X V) w3 w') [(0, false), (1, false), (2, false), (3, false), (4, true), (5, false)] 6 (by kernel_rfl) (waits_none) (by kernel_rfl) (by kernel_rfl) (by kernel_rfl) rfl (fun w4 k4 q4 => ?_)
  have k4' : Kp (Sx X V) w3 w4 := k4.mono fun _ _ h => h.elim
  refine h_v k4' (fun w' hw => r_mv rfl) ?_
  refine h_v k4' (fun w' hw => r_nc rfl) ?_
  refine h_v k4' (fun w' hw => r_fa rfl rfl) ?_
  refine h_v k4' (fun w' hw => r_ldb (vs := exC ({ x with f := fr, e := pe X.E s }, .slice la x.l.length lc)) rfl rfl rfl (hw.get B3' B3.ns) rfl rfl) ?_
  have h4 := h3.no k4
  have o4 := own_kp o1 k4 fun _ _ h => h
  refine h_call (us := []) (zs := []) (by kernel_rfl) rfl rfl (arX X.p 3 [X.tv, X.wv, .int .i64 (s.i : Int), V.x, V.s, V.f] 56 V.x s.ex.length (rx.flatMap exC) { x with f := fr, e := pe X.E s } la x.l.length lc w4 h4.blk rfl o4 (by omega) rfl) ?_
  rintro v w5 ⟨rfl, v1, hb5, o5, k5, row5⟩
  have k5' : Kp (Sx X V) w4 w5 := k5.mono fun i _ e => e.elim .inl fun e => .inr (.inl e)
  have kk : Kp (Sx X V) w3 w5 := k4'.trans k5' fun _ _ h => h
  refine ⟨fun _ => kk, ?_⟩
  refine h_v kk (fun w' hw => r_as rfl) ?_
  refine h_nil ?_
  have P : ∀ {base : Nat} {e : TypeId} {size : Nat} {v : Value} {n : Nat} {cs : List Value}, w4.ownsRow base e size v n cs → Nat.beq e 56 = false → Nat.beq e 67 = false → w5.ownsRow base e size v n cs := fun ho he he0 => own_put2 h4 o4 k5 ho he he0
  obtain ⟨rx', a1', o1', l1'⟩ := h4.xs
  obtain ⟨ry, a2, o2, l2⟩ := h4.ss
  obtain ⟨rz, a3, o3, l3⟩ := h4.fs
  have l1'' : ∀ r ∈ rx, LI w5 r.2 r.1.l ∧ Ow V r.2 := fun r hr => ⟨P (own_kp (l1 r hr).1 k4 fun _ _ h => h) rfl rfl, (l1 r hr).2⟩
  have hl5 : LI w5 (.slice la x.l.length lc) x.l := P (own_kp (own_kp (own_gs h (((n1.kp.no k2).mono fun _ _ h => h.elim)) hl rfl) s3.kp (fun g hg e => by
    obtain ⟨c, hc⟩ := own_ty (own_kp hl (n1.kp.no k2) fun _ _ h => h) hg
    exact ty_ne hc hb2 rfl e)) k4 fun _ _ h => h) rfl rfl
  (repeat refine Zr ?_)
  refine retP_1 rfl rfl ⟨_, { s with ex := s.ex ++ [{ x with f := fr, e := pe X.E s }] }, { V with x := v1 }, rfl, rfl, ⟨hb5, P h4.tk rfl rfl, P h4.wd rfl rfl, ⟨rx ++ [({ x with f := fr, e := pe X.E s }, .slice la x.l.length lc)], by simp [a1], ?_, ?_⟩,
    ⟨ry, a2, P o2 rfl rfl, fun r hr => ⟨⟨P (l2 r hr).1.1 rfl rfl, (l2 r hr).1.2⟩, P (l2 r hr).2.1 rfl rfl, (l2 r hr).2.2⟩⟩, ⟨rz, a3, P o3 rfl rfl, fun r hr => ⟨⟨P (l3 r hr).1.1 rfl rfl, (l3 r hr).1.2⟩, P (l3 r hr).2.1 rfl rfl, (l3 r hr).2.2⟩⟩, hlt, by simp; omega, h4.sl, h4.fl, fun b hb => Nat.lt_of_lt_of_le (h4.ob b hb) k5.size⟩, ?_⟩
  · rw [List.flatMap_append]
    simpa using o5
  · intro r hr
    rcases List.mem_append.1 hr with hr | hr
    · exact l1'' r hr
    · rw [List.mem_singleton] at hr; subst hr; exact ⟨hl5, how⟩
  · refine (g3.gs.no k4).trans ⟨k5', fun b hb hs => ?_, fun b hb hs => hs⟩
    rcases hs with hs | hs | hs | hs
    · exact .inl hs
    · rcases row5 b hs with h | h
      · exact .inr (.inl h)
      · omega
    · exact .inr (.inr (.inl hs))
    · exact .inr (.inr (.inr hs))
end Go.Proofs.YtfnbgbeinmekgaaGreatDoor.Sy
namespace Go.Proofs.YtfnbgbeinmekgaaGreatDoor.Sy
open Go Go.RowKit Fw
set_option linter.unusedVariables false
set_option maxRecDepth 20000
theorem lenS {X : Cx} {w : World} {s : PS} {V : VS} (h : At X w s V) : Ret Tryz.prog 122 [.pointer (some ⟨X.p, 4, none⟩)] w fun v w1 => v = .int .i64 (s.st.length : Int) ∧ w1 = w := by
  obtain ⟨ry, a2, o2, l2⟩ := h.ss
  obtain ⟨a, c, e, _⟩ := own_read o2
  have hb := h.blk
  rw [e] at hb
  refine ret_enter Tryz.func122 rfl Tryz.ntmps122 rfl ?_
  (repeat refine Zr ?_)
  exact ret_1 rfl rfl ⟨rfl, rfl⟩
theorem lenF {X : Cx} {w : World} {s : PS} {V : VS} (h : At X w s V) : Ret Tryz.prog 19 [.pointer (some ⟨X.p, 5, none⟩)] w fun v w1 => v = .int .i64 (s.fn.length : Int) ∧ w1 = w := by
  obtain ⟨ry, a2, o2, l2⟩ := h.fs
  obtain ⟨a, c, e, _⟩ := own_read o2
  have hb := h.blk
  rw [e] at hb
  refine ret_enter Tryz.func19 rfl Tryz.ntmps19 rfl ?_
  (repeat refine Zr ?_)
  exact ret_1 rfl rfl ⟨rfl, rfl⟩
theorem addF {X : Cx} {w : World} {s : PS} {V : VS} (h : At X w s V) (ok : Ok X) (fr : Int) (x : St) (lv mv : Value) (hl : LI w lv x.th) (hm : LI w mv x.el) (how : Ow V lv) (hom : Ow V mv) (hi : 1 ≤ s.i) :
    Does X 103 [.pointer (some ⟨X.p, 0, none⟩), .int .i64 fr, .agg (stC (x, lv, mv)).toArray] w V (add X.E fr x s) intV := by
  intro _
  have hlt := h.lt
  have hbig := ok.big
  have hsl := h.sl
  obtain ⟨la, lc, rfl⟩ := hl.val
  obtain ⟨ma, mc, rfl⟩ := hm.val
  refine retP_enter Tryz.func103 rfl Tryz.ntmps103 rfl ?_
  (repeat refine Zr ?_)
  refine s_box (cs := stC (x, .slice la x.th.length lc, .slice ma x.el.length mc)) rfl rfl (fun b5 w1 n1 => ?_)
  (repeat refine Zr ?_)
  refine s_call (us := []) (zs := []) (by kernel_rfl) rfl rfl (lenS (h.no n1.kp)) ?_
  rintro v w1' ⟨rfl, rfl⟩
  (repeat refine Zr ?_)
  refine c_dec rfl (fun q => ?_) (fun q => ?_)
  · (repeat refine Zr ?_)
    refine s_callX (us := []) (zs := []) (by kernel_rfl) rfl rfl (failF (h.no n1.kp) ok 5) ?_
    rintro c w3 ⟨rfl, k3⟩
    exact ⟨5, hr X.E s, by rw [add, if_pos (by omega)]; rfl, rfl, (n1.kp.no k3).mono fun _ _ h => h.elim⟩
  (repeat refine Zr ?_)
  refine s_call (us := []) (zs := []) (by kernel_rfl) rfl rfl (spanF (h.no n1.kp) ok (by omega) fr) ?_
  rintro v w2 ⟨rfl, k2⟩
  have g2 : Sg X w V w2 s V := ((Sg.start h).no n1.kp).no k2
  have B2 : Bx X w w2 V b5 (stC (x, .slice la x.th.length lc, .slice ma x.el.length mc)) 42 := (Bx.new (w0 := w) h (Nat.le_refl _) n1).no k2
  have hb2 : w2.heap[b5]? = some (.cells [Value.int .i64 x.k, .int .i64 x.f, .int .i64 x.e, sv x.nm, .int .i64 x.n, .int .i64 x.a, .int .i64 x.b, .slice la x.th.length lc, .slice ma x.el.length mc].toArray 42 (0, 0)) := B2.blk
  (repeat refine Zr ?_)
  refine s_st (vs := [.int .i64 fr, .int .i64 (pe X.E s)]) rfl rfl rfl rfl rfl hb2 (Nat.le_of_ble_eq_true rfl) (fun w3 s3 => ?_)
  obtain ⟨g3, B3⟩ := g2.put B2 (cs' := stC ({ x with f := fr, e := pe X.E s }, .slice la x.th.length lc, .slice ma x.el.length mc)) ⟨s3.kp, s3.sz, s3.blk⟩ rfl
  have h3 := g3.at_
  obtain ⟨rx, a1, o1, l1⟩ := h3.ss
  have hb3 := h3.blk
  (repeat refine Zr ?_)
  have B3' : w3.heap[b5]? = some (.cells (stC ({ x with f := fr, e := pe X.E s }, .slice la x.th.length lc, .slice ma x.el.length mc)).toArray 42 (0, 0)) := B3.blk
  refine k_h (fun w' => Kp (Sx X V) w3 w') [(0, false), (1, false), (2, false), (3, false), (4, true), (5, false)] 6 (by kernel_rfl) (waits_none) (by kernel_rfl) (by kernel_rfl) (by kernel_rfl) rfl (fun w4 k4 q4 => ?_)
  have k4' : Kp (Sx X V) w3 w4 := k4.mono fun _ _ h => h.elim
  refine h_v k4' (fun w' hw => r_mv rfl) ?_
  refine h_v k4' (fun w' hw => r_nc rfl) ?_
  refine h_v k4' (fun w' hw => r_fa rfl rfl) ?_
  refine h_v k4' (fun w' hw => r_ldb (vs := stC ({ x with f := fr, e := pe X.E s }, .slice la x.th.length lc, .slice ma x.el.length mc)) rfl rfl rfl (hw.get B3' B3.ns) rfl rfl) ?_
  have h4 := h3.no k4
  have o4 := own_kp o1 k4 fun _ _ h => h
  refine h_call (us := []) (zs := []) (by kernel_rfl) rfl rfl (arS X.p 4 [X.tv, X.wv, .int .i64 (s.i : Int), V.x, V.s, V.f] 56 V.s s.st.length (rx.flatMap stC) { x with f := fr, e := pe X.E s } la ma x.th.length lc x.el.length mc w4 h4.blk rfl o4 (by omega) rfl) ?_
  rintro v w5 ⟨rfl, v1, hb5, o5, k5, row5⟩
  have k5' : Kp (Sx X V) w4 w5 := k5.mono fun i _ e => e.elim .inl fun e => .inr (.inr (.inl e))
  have kk : Kp (Sx X V) w3 w5 := k4'.trans k5' fun _ _ h => h
  refine ⟨fun _ => kk, ?_⟩
  refine h_v kk (fun w' hw => r_as rfl) ?_
  refine h_nil ?_
  have P : ∀ {base : Nat} {e : TypeId} {size : Nat} {v : Value} {n : Nat} {cs : List Value}, w4.ownsRow base e size v n cs → Nat.beq e 56 = false → Nat.beq e 42 = false → w5.ownsRow base e size v n cs := fun ho he he0 => own_put2 h4 o4 k5 ho he he0
  obtain ⟨rx', a1', o1', l1'⟩ := h4.xs
  obtain ⟨ry, a2, o2, l2⟩ := h4.ss
  obtain ⟨rz, a3, o3, l3⟩ := h4.fs
  have l1'' : ∀ r ∈ rx, (LI w5 r.2.1 r.1.th ∧ Ow V r.2.1) ∧ LI w5 r.2.2 r.1.el ∧ Ow V r.2.2 := fun r hr => ⟨⟨P (own_kp (l1 r hr).1.1 k4 fun _ _ h => h) rfl rfl, (l1 r hr).1.2⟩, P (own_kp (l1 r hr).2.1 k4 fun _ _ h => h) rfl rfl, (l1 r hr).2.2⟩
  have up : ∀ {v : Value} {l : List Int}, LI w v l → LI w5 v l := fun hv => P (own_kp (own_kp (own_kp hv (n1.kp.no k2) fun _ _ h => h) s3.kp (fun g hg e => by
    obtain ⟨c, hc⟩ := own_ty (own_kp hv (n1.kp.no k2) fun _ _ h => h) hg
    exact ty_ne hc hb2 rfl e)) k4 fun _ _ h => h) rfl rfl
  (repeat refine Zr ?_)
  refine retP_1 rfl rfl ⟨_, { s with st := s.st ++ [{ x with f := fr, e := pe X.E s }] }, { V with s := v1 }, by rw [add, if_neg (by omega)], rfl, ⟨hb5, P h4.tk rfl rfl, P h4.wd rfl rfl,
    ⟨rx', a1', P o1' rfl rfl, fun r hr => ⟨P (l1' r hr).1 rfl rfl, (l1' r hr).2⟩⟩, ⟨rx ++ [({ x with f := fr, e := pe X.E s }, .slice la x.th.length lc, .slice ma x.el.length mc)], by simp [a1], ?_, ?_⟩, ⟨rz, a3, P o3 rfl rfl, fun r hr => ⟨⟨P (l3 r hr).1.1 rfl rfl, (l3 r hr).1.2⟩, P (l3 r hr).2.1 rfl rfl, (l3 r hr).2.2⟩⟩, hlt, h4.xl, by simp; omega, h4.fl, fun b hb => Nat.lt_of_lt_of_le (h4.ob b hb) k5.size⟩, ?_⟩
  · rw [List.flatMap_append]
    simpa using o5
  · intro r hr
    rcases List.mem_append.1 hr with hr | hr
    · exact l1'' r hr
    · rw [List.mem_singleton] at hr; subst hr; exact ⟨⟨up hl, how⟩, up hm, hom⟩
  · refine (g3.gs.no k4).trans ⟨k5', fun b hb hs => ?_, fun b hb hs => hs⟩
    rcases hs with hs | hs | hs | hs
    · exact .inl hs
    · exact .inr (.inl hs)
    · rcases row5 b hs with h | h
      · exact .inr (.inr (.inl h))
      · omega
    · exact .inr (.inr (.inr hs))
theorem numberF (x : ByteArray) (w : World) (hs : x.size ≤ 18) (hd : ∀ c ∈ B x, 48 ≤ c ∧ c ≤ 57) : Ret Tryz.prog 119 [.string x] w fun v w1 => v = .int .i64 (num (B x)) ∧ w1 = w := by
  have hlen := B_len x
  refine ret_enter Tryz.func119 rfl Tryz.ntmps119 rfl ?_
  (repeat refine Zr ?_)
  refine k_loop (σ := Nat) (fun i => [(0, .string x), (3, .int .i64 (num ((B x).take i))), (6, .int .i64 (x.size : Int)), (7, .int .i64 (i : Int))]) (fun i w1 => w1 = w ∧ i ≤ x.size) (fun i => x.size - i) 0 ⟨rfl, rfl, rfl, rfl, trivial⟩ ⟨rfl, Nat.zero_le _⟩ ?_
  rintro i l w1 ⟨rfl, hi⟩
  (repeat refine Zr ?_)
  refine c_dec rfl (fun q => ?_) (fun q => ?_)
  · have q : i < x.size := by omega
    obtain ⟨c, hc⟩ : ∃ c, (B x)[i]? = some c := ⟨_, List.getElem?_eq_getElem (by omega)⟩
    have hb := B_get hc
    have h2 := hd c (List.mem_of_getElem? hc)
    obtain ⟨h3, h4⟩ := num_tk (B x) hd i (by omega)
    have h5 : (10 : Int) ^ i ≤ 10 ^ 17 := (show ∀ j : Fin 18, (10 : Int) ^ (j : Nat) ≤ 10 ^ 17 by decide) ⟨i, by omega⟩
    have h6 : num ((B x).take i) < 100000000000000000 := by
      have : (10 : Int) ^ 17 = 100000000000000000 := by decide
      omega
    have hst := num_step (B x) i c hc
    (repeat refine Zr ?_)
    refine s_v (r_ix rfl rfl rfl (by omega) (by omega)) ?_
    rw [hb]
    (repeat refine Zr ?_)
    refine l_next (i + 1) ⟨rfl, by
      show Value.int .i64 (IntKind.i64.wrap (num ((B x).take i) * 10 + IntKind.i64.wrap (IntKind.u8.wrap (c - 48)))) = _
      rw [wrap_u8 (n := c - 48) (by omega), show IntKind.i64.wrap (c - 48) = c - 48 from wrap_in (by omega), show IntKind.i64.wrap (num ((B x).take i) * 10 + (c - 48)) = num ((B x).take i) * 10 + (c - 48) from wrap_in (by omega), hst], rfl, rfl, trivial⟩ ⟨rfl, by omega⟩ (by omega)
  · (repeat refine Zr ?_)
    have : i = x.size := by omega
    refine ret_1 rfl rfl ⟨?_, rfl⟩
    rw [this, ← hlen, List.take_length]
end Go.Proofs.YtfnbgbeinmekgaaGreatDoor.Sy
namespace Go.Proofs.YtfnbgbeinmekgaaGreatDoor.Sy
open Go Go.RowKit Fw
set_option linter.unusedVariables false
set_option maxRecDepth 20000
def sl1 (h : Nat) (n : Nat) : Value := .slice (some ⟨h, 0, none⟩) n n
/-- The table of levels, where it lies. -/
def LvAt (w : World) (g : Nat) : Prop := ∃ h0 h1 h2 h3 h4 : Nat, w.heap[g]? = some (.cells [sl1 h0 1, .bool false, sl1 h1 1, .bool false, sl1 h2 6, .bool true, sl1 h3 2, .bool false, sl1 h4 3, .bool false].toArray 180 (0, 0)) ∧
  w.heap[h0]? = some (.cells ((sgB 0).map Value.string).toArray 9 (0, 0)) ∧ w.heap[h1]? = some (.cells ((sgB 1).map Value.string).toArray 9 (0, 0)) ∧ w.heap[h2]? = some (.cells ((sgB 2).map Value.string).toArray 9 (0, 0)) ∧
  w.heap[h3]? = some (.cells ((sgB 3).map Value.string).toArray 9 (0, 0)) ∧ w.heap[h4]? = some (.cells ((sgB 4).map Value.string).toArray 9 (0, 0))
theorem LvAt.no {w w' : World} {g : Nat} (h : LvAt w g) (k : Kp No w w') : LvAt w' g := by
  obtain ⟨h0, h1, h2, h3, h4, a, a0, a1, a2, a3, a4⟩ := h
  exact ⟨h0, h1, h2, h3, h4, k.get0 a, k.get0 a0, k.get0 a1, k.get0 a2, k.get0 a3, k.get0 a4⟩
theorem LvAt.gs {X : Cx} {w w' : World} {s : PS} {V : VS} {g : Nat} (h : LvAt w g) (hA : At X w s V) (k : Kp (Sx X V) w w') : LvAt w' g := by
  obtain ⟨h0, h1, h2, h3, h4, a, a0, a1, a2, a3, a4⟩ := h
  exact ⟨h0, h1, h2, h3, h4, k.get a (hA.nsx a rfl), k.get a0 (hA.nsx a0 rfl), k.get a1 (hA.nsx a1 rfl), k.get a2 (hA.nsx a2 rfl), k.get a3 (hA.nsx a3 rfl), k.get a4 (hA.nsx a4 rfl)⟩
theorem LvAt.at {w : World} {g v : Nat} (h : LvAt w g) (hv : v < 5) : ∃ a, w.cell? ⟨g, 2 * v, none⟩ = some (.slice (some ⟨a, 0, none⟩) (sgB v).length (sgB v).length) ∧ w.cell? ⟨g, 2 * v + 1, none⟩ = some (.bool (v == 2)) ∧ Tk.Rd w (some ⟨a, 0, none⟩) (sgB v) := by
  obtain ⟨h0, h1, h2, h3, h4, a, a0, a1, a2, a3, a4⟩ := h
  match v, hv with
  | 0, _ => exact ⟨h0, cell_of_blk a rfl, cell_of_blk a rfl, RdN a0⟩
  | 1, _ => exact ⟨h1, cell_of_blk a rfl, cell_of_blk a rfl, RdN a1⟩
  | 2, _ => exact ⟨h2, cell_of_blk a rfl, cell_of_blk a rfl, RdN a2⟩
  | 3, _ => exact ⟨h3, cell_of_blk a rfl, cell_of_blk a rfl, RdN a3⟩
  | 4, _ => exact ⟨h4, cell_of_blk a rfl, cell_of_blk a rfl, RdN a4⟩
/-- The levels from one on, as a value. -/
def lvV (g v : Nat) : Value := .slice (some ⟨g, 2 * min v 4, none⟩) (5 - v) (5 - v)
theorem levelsF (w : World) : Ret Tryz.prog 121 [] w fun v w1 => ∃ g, v = lvV g 0 ∧ LvAt w1 g ∧ Kp No w w1 := by
  refine ret_enter Tryz.func121 rfl Tryz.ntmps121 rfl ?_
  (repeat refine Zr ?_)
  refine s_bs (cs := (sgB 0).map Value.string) (e := 9) rfl (fun b0 w1 n1 => ?_)
  (repeat refine Zr ?_)
  refine s_bs (cs := (sgB 1).map Value.string) (e := 9) rfl (fun b1 w2 n2 => ?_)
  (repeat refine Zr ?_)
  refine s_bs (cs := (sgB 2).map Value.string) (e := 9) rfl (fun b2 w3 n3 => ?_)
  (repeat refine Zr ?_)
  refine s_bs (cs := (sgB 3).map Value.string) (e := 9) rfl (fun b3 w4 n4 => ?_)
  (repeat refine Zr ?_)
  refine s_bs (cs := (sgB 4).map Value.string) (e := 9) rfl (fun b4 w5 n5 => ?_)
  (repeat refine Zr ?_)
  refine s_bs (cs := [sl1 b0 1, .bool false, sl1 b1 1, .bool false, sl1 b2 6, .bool true, sl1 b3 2, .bool false, sl1 b4 3, .bool false]) (e := 180) rfl (fun g w6 n6 => ?_)
  (repeat refine Zr ?_)
  exact ret_1 rfl rfl ⟨g, rfl, ⟨b0, b1, b2, b3, b4, n6.blk, n6.kp.get0 (n5.kp.get0 (n4.kp.get0 (n3.kp.get0 (n2.kp.get0 n1.blk)))), n6.kp.get0 (n5.kp.get0 (n4.kp.get0 (n3.kp.get0 n2.blk))), n6.kp.get0 (n5.kp.get0 (n4.kp.get0 n3.blk)), n6.kp.get0 (n5.kp.get0 n4.blk), n6.kp.get0 n5.blk⟩,
    ((((n1.kp.no n2.kp).no n3.kp).no n4.kp).no n5.kp).no n6.kp⟩
end Go.Proofs.YtfnbgbeinmekgaaGreatDoor.Sy
