/- What the proofs of this seat lean on, part 10. -/
import Derived.Test.YtfnbgbeinmekgaaGreatDoorPb9
namespace Go.Proofs.YtfnbgbeinmekgaaGreatDoor.Fw
open Go Go.RowKit
theorem waits_of_out {ops : Array Oper} {z : Nat} (h : Nat.ble ops.size z = true) : Waits ops z := by
  intro listed hd hr
  exfalso
  have h' := Nat.le_of_ble_eq_true h
  unfold Region.ready at hr
  simp at hr
  omega
end Go.Proofs.YtfnbgbeinmekgaaGreatDoor.Fw
namespace Go.Proofs.YtfnbgbeinmekgaaGreatDoor.Sy
open Go Go.RowKit Fw
set_option linter.unusedVariables false
set_option maxRecDepth 20000
theorem own_max {w : World} {base : Nat} {e : TypeId} {size : Nat} {v : Value} {n : Nat} {cs : List Value} (h : w.ownsRow base e size v n cs) : n ≤ maxLen := by
  rcases h.2 with ⟨_, rfl⟩ | ⟨g, cap, cur, _, _, _, h1, h2, _⟩
  · exact Nat.zero_le _
  · exact Nat.le_trans h1 h2
theorem intsF (l : List Int) (va vb : Value) (w : World) (ha : LI w va l) (hb : LI w vb l) : Ret Tryz.prog 29 [va, vb] w fun v w1 => v = .bool true ∧ Kp No w w1 := by
  have hl : l.length ≤ 9223372036854775807 := Nat.le_trans (own_max ha) (by decide)
  obtain ⟨a, c, ea, _, a0, ra⟩ := own_read ha
  obtain ⟨b, d, eb, _, b0, rb⟩ := own_read hb
  subst ea eb
  refine ret_enter Tryz.func29 rfl Tryz.ntmps29 rfl ?_
  (repeat refine Zr ?_)
  refine c_ne rfl (fun q => (q rfl).elim) (fun _ => ?_)
  (repeat refine Zr ?_)
  refine k_loop (σ := Nat) (fun i => [(0, .slice a l.length c), (1, .slice b l.length d), (12, .int .i64 l.length), (13, .int .i64 (i : Int))]) (fun i w1 => Kp No w w1 ∧ i ≤ l.length) (fun i => l.length - i) 0 ⟨rfl, rfl, rfl, rfl, trivial⟩ ⟨Kp.refl _ _, Nat.zero_le _⟩ ?_
  rintro i lr w1 ⟨k1, hi⟩
  (repeat refine Zr ?_)
  refine c_dec rfl (fun q => ?_) (fun q => ?_)
  · have q : i < l.length := by omega
    obtain ⟨x, hx⟩ : ∃ x, l[i]? = some x := ⟨_, List.getElem?_eq_getElem q⟩
    cases a with
    | none => have := a0 rfl; omega
    | some ad =>
    cases b with
    | none => have := b0 rfl; omega
    | some bd =>
    obtain ⟨g, rfl, _, _, hg⟩ := ra _ rfl
    obtain ⟨h, rfl, _, _, hh⟩ := rb _ rfl
    have c1 : w1.cell? ⟨g, 0 + (i : Int).toNat * 1, none⟩ = some (.int .i64 x) := k1.cell0 (by rw [Nat.mul_one]; exact hg _ _ (by rw [Int.toNat_natCast, List.getElem?_map, hx]; rfl))
    have c2 : w1.cell? ⟨h, 0 + (i : Int).toNat * 1, none⟩ = some (.int .i64 x) := k1.cell0 (by rw [Nat.mul_one]; exact hh _ _ (by rw [Int.toNat_natCast, List.getElem?_map, hx]; rfl))
    (repeat refine Zr ?_)
    refine k_q (by kernel_rfl) (by kernel_rfl) ?_
    (repeat (first | refine Zq ?_ | refine Zqn ?_ | refine Zqu ?_ | refine Zqg ?_))
    refine q_nil (fun w2 k2 => ?_)
    (repeat refine Zr ?_)
    refine c_ne rfl (fun q => (q rfl).elim) (fun _ => ?_)
    (repeat refine Zr ?_)
    exact l_next (i + 1) ⟨rfl, rfl, rfl, rfl, trivial⟩ ⟨k1.no k2, by omega⟩ (by omega)
  · (repeat refine Zr ?_)
    exact ret_1 rfl rfl ⟨rfl, k1⟩
/-- An element's cells, as a load wants them. -/
theorem cells_of {w : World} {b o n : Nat} {vs : List Value} (hl : vs.length = n) (h : ∀ (j : Nat) (u : Value), vs[j]? = some u → w.cell? ⟨b, o + j, none⟩ = some u) : ∀ j, j < n → w.cell? ⟨b, o + j, none⟩ = vs[j]? := fun j hj => by
  obtain ⟨u, hu⟩ : ∃ u, vs[j]? = some u := ⟨_, List.getElem?_eq_getElem (by omega)⟩
  rw [hu]; exact h j u hu
set_option maxHeartbeats 8000000 in
theorem SameF (ux us uf vx vs vf : Value) (S : PS) (w : World) (hu : Tr w ux us uf S) (hv : Tr w vx vs vf S) (h1 : S.ex.length ≤ 100000) (h2 : S.st.length ≤ 100000) (h3 : S.fn.length ≤ 100000) :
    Ret Tryz.prog 10 [.agg #[ux, us, uf], .agg #[vx, vs, vf]] w fun v w1 => v = .bool true ∧ Kp No w w1 := by
  obtain ⟨xa, sa, fa, xc, sc, fc, rfl, rfl, rfl⟩ := hu.val
  obtain ⟨xb, sb, fb, xd, sd, fd, rfl, rfl, rfl⟩ := hv.val
  refine ret_enter Tryz.func10 rfl Tryz.ntmps10 rfl ?_
  (repeat refine Zr ?_)
  refine s_box (cs := [.slice xa S.ex.length xc, .slice sa S.st.length sc, .slice fa S.fn.length fc]) rfl rfl (fun p w1 n1 => ?_)
  refine s_box (cs := [.slice xb S.ex.length xd, .slice sb S.st.length sd, .slice fb S.fn.length fd]) rfl rfl (fun q w2 n2 => ?_)
  have hp := n2.kp.get0 n1.blk
  have hq := n2.blk
  have k2 := n1.kp.no n2.kp
  (repeat refine Zr ?_)
  refine s_set 22 false rfl (bne_self_eq_false _) ?_
  (repeat (first | refine Zr ?_ | refine Zn ?_ | refine Zu ?_ | refine Zg ?_))
  refine s_set 31 false rfl (bne_self_eq_false _) ?_
  (repeat (first | refine Zr ?_ | refine Zn ?_ | refine Zu ?_ | refine Zg ?_))
  refine c_ne rfl (fun q => (q rfl).elim) (fun _ => ?_)
  (repeat refine Zr ?_)
  refine k_loop (σ := Nat) (fun i => [(2, .pointer (some ⟨p, 0, none⟩)), (3, .pointer (some ⟨q, 0, none⟩)), (42, .int .i64 S.ex.length), (43, .int .i64 (i : Int))])
    (fun i w' => Kp No w2 w' ∧ i ≤ S.ex.length) (fun i => S.ex.length - i) 0 ⟨rfl, rfl, rfl, rfl, trivial⟩ ⟨Kp.refl _ _, Nat.zero_le _⟩ ?_
  rintro i lr w3 ⟨k3, hi⟩
  have hp3 := k3.get0 hp
  have hq3 := k3.get0 hq
  have hu3 := (hu.kp k2).kp k3
  have hv3 := (hv.kp k2).kp k3
  (repeat refine Zr ?_)
  refine c_dec rfl (fun ql => ?_) (fun ql => ?_)
  · have ql : i < S.ex.length := by omega
    obtain ⟨x, hx⟩ : ∃ x, S.ex[i]? = some x := ⟨_, List.getElem?_eq_getElem ql⟩
    obtain ⟨g, lv, rfl, hl, hc⟩ := hu3.ex hx
    obtain ⟨h, mv, rfl, hm, hd⟩ := hv3.ex hx
    obtain ⟨la, lc, rfl⟩ := hl.val
    obtain ⟨ma, mc, rfl⟩ := hm.val
    (repeat refine Zr ?_)
    refine k_cutc (σ := Nat × Nat) (fun t => [(2, .pointer (some ⟨p, 0, none⟩)), (3, .pointer (some ⟨q, 0, none⟩)), (42, .int .i64 S.ex.length), (43, .int .i64 (i : Int)), (6, .pointer (some ⟨t.1, 0, none⟩)), (7, .pointer (some ⟨t.2, 0, none⟩))])
      (fun t w' => Kp No w3 w' ∧ w'.heap[t.1]? = some (.cells (exC (x, .slice la x.l.length lc)).toArray 67 (0, 0)) ∧ w'.heap[t.2]? = some (.cells (exC (x, .slice ma x.l.length mc)).toArray 67 (0, 0))) ?_ ?_
    · refine k_ht (fun w' => Kp No w3 w') 99 (by kernel_rfl) (fun m1 k1 _ => ?_)
      refine t_q (i := 0) (by exact waits_of_out (by kernel_rfl)) (by kernel_rfl) rfl (by kernel_rfl) (by kernel_rfl) k1 (fun w' hw => r_fa rfl rfl) ?_
      refine t_q (i := 1) (by exact waits_of_out (by kernel_rfl)) (by kernel_rfl) rfl (by kernel_rfl) (by kernel_rfl) k1 (fun w' hw => r_ld rfl rfl (cell_of_blk (hw.get0 hp3) rfl)) ?_
      refine t_q (i := 2) (by exact waits_of_out (by kernel_rfl)) (by kernel_rfl) rfl (by kernel_rfl) (by kernel_rfl) k1 (fun w' hw => r_mv rfl) ?_
      refine t_q (i := 3) (by exact waits_of_out (by kernel_rfl)) (by kernel_rfl) rfl (by kernel_rfl) (by kernel_rfl) k1 (fun w' hw => r_ia (size := 9) rfl rfl rfl rfl (by omega) (by omega)) ?_
      refine t_q (i := 4) (by exact waits_of_out (by kernel_rfl)) (by kernel_rfl) rfl (by kernel_rfl) (by kernel_rfl) k1 (fun w' hw => r_lda (n := 9) (vs := exC (x, .slice la x.l.length lc)) rfl rfl rfl rfl (cells_of rfl fun j u hj => hw.cell0 (hc j u hj))) ?_
      refine t_q (i := 5) (by exact waits_of_out (by kernel_rfl)) (by kernel_rfl) rfl (by kernel_rfl) (by kernel_rfl) k1 (fun w' hw => r_fa rfl rfl) ?_
      refine t_q (i := 6) (by exact waits_of_out (by kernel_rfl)) (by kernel_rfl) rfl (by kernel_rfl) (by kernel_rfl) k1 (fun w' hw => r_ld rfl rfl (cell_of_blk (hw.get0 hq3) rfl)) ?_
      refine t_q (i := 7) (by exact waits_of_out (by kernel_rfl)) (by kernel_rfl) rfl (by kernel_rfl) (by kernel_rfl) k1 (fun w' hw => r_mv rfl) ?_
      refine t_q (i := 8) (by exact waits_of_out (by kernel_rfl)) (by kernel_rfl) rfl (by kernel_rfl) (by kernel_rfl) k1 (fun w' hw => r_ia (size := 9) rfl rfl rfl rfl (by omega) (by omega)) ?_
      refine t_q (i := 9) (by exact waits_of_out (by kernel_rfl)) (by kernel_rfl) rfl (by kernel_rfl) (by kernel_rfl) k1 (fun w' hw => r_lda (n := 9) (vs := exC (x, .slice ma x.l.length mc)) rfl rfl rfl rfl (cells_of rfl fun j u hj => hw.cell0 (hd j u hj))) ?_
      refine t_2 (i := 10) (i2 := 11) (by kernel_rfl) ?_ ?_
      · refine ts_nb (r := fun a => .pointer (some a)) rfl (r_al rfl) (fun b6 m2 n6 => ⟨fun _ => k1.no n6.kp, ?_⟩)
        refine t_1 (i := 11) (by kernel_rfl) ?_
        refine ts_nb (r := fun a => .pointer (some a)) rfl (r_al rfl) (fun b7 m3 n7 => ⟨fun _ => (k1.no n6.kp).no n7.kp, ?_⟩)
        refine t_o (ord := [(12, true), (13, true)]) (by exact waits_of_out (by kernel_rfl)) (by kernel_rfl) (by kernel_rfl) rfl rfl ?_
        have y1 := n6.ge; have y2 := n7.ge; have y3 := n6.lt; have y4 := k1.size
        refine h_st (vs := exC (x, .slice la x.l.length lc)) rfl rfl rfl rfl rfl (n7.kp.get0 n6.blk) (Nat.le_of_ble_eq_true rfl) (fun m4 s4 => ⟨fun _ => ((k1.no n6.kp).no n7.kp).trans s4.kp fun i hi e => by omega, ?_⟩)
        refine h_st (vs := exC (x, .slice ma x.l.length mc)) rfl rfl rfl rfl rfl (s4.kp.get (n7.blk) (by omega)) (Nat.le_of_ble_eq_true rfl) (fun m5 s5 => ⟨fun _ => (((k1.no n6.kp).no n7.kp).trans s4.kp fun i hi e => by omega).trans s5.kp fun i hi e => by omega, ?_⟩)
        refine h_nil ?_
        exact l_cut (b6, b7) ⟨rfl, rfl, rfl, rfl, rfl, rfl, trivial⟩ ⟨(((k1.no n6.kp).no n7.kp).trans s4.kp fun i hi e => by omega).trans s5.kp fun i hi e => by omega, s5.kp.get s4.blk (by omega), s5.blk⟩
      · refine ts_nb (r := fun a => .pointer (some a)) rfl (r_al rfl) (fun b7 m2 n7 => ⟨fun _ => k1.no n7.kp, ?_⟩)
        refine t_1 (i := 10) (by kernel_rfl) ?_
        refine ts_nb (r := fun a => .pointer (some a)) rfl (r_al rfl) (fun b6 m3 n6 => ⟨fun _ => (k1.no n7.kp).no n6.kp, ?_⟩)
        refine t_o (ord := [(12, true), (13, true)]) (by exact waits_of_out (by kernel_rfl)) (by kernel_rfl) (by kernel_rfl) rfl rfl ?_
        have y1 := n7.ge; have y2 := n6.ge; have y3 := n7.lt; have y4 := k1.size
        refine h_st (vs := exC (x, .slice la x.l.length lc)) rfl rfl rfl rfl rfl (n6.blk) (Nat.le_of_ble_eq_true rfl) (fun m4 s4 => ⟨fun _ => ((k1.no n7.kp).no n6.kp).trans s4.kp fun i hi e => by omega, ?_⟩)
        refine h_st (vs := exC (x, .slice ma x.l.length mc)) rfl rfl rfl rfl rfl (s4.kp.get (n6.kp.get0 n7.blk) (by omega)) (Nat.le_of_ble_eq_true rfl) (fun m5 s5 => ⟨fun _ => (((k1.no n7.kp).no n6.kp).trans s4.kp fun i hi e => by omega).trans s5.kp fun i hi e => by omega, ?_⟩)
        refine h_nil ?_
        exact l_cut (b6, b7) ⟨rfl, rfl, rfl, rfl, rfl, rfl, trivial⟩ ⟨(((k1.no n7.kp).no n6.kp).trans s4.kp fun i hi e => by omega).trans s5.kp fun i hi e => by omega, s5.kp.get s4.blk (by omega), s5.blk⟩
    rintro ⟨b6, b7⟩ l4 w4 ⟨k4, hb6, hb7⟩
    simp only at hb6 hb7
    have hb6 : w4.heap[b6]? = some (.cells [Value.int .i64 x.k, .int .i64 x.f, .int .i64 x.e, .int .i64 x.n, sv x.nm, sv x.op, .int .i64 x.a, .int .i64 x.b, .slice la x.l.length lc].toArray 67 (0, 0)) := hb6
    have hb7 : w4.heap[b7]? = some (.cells [Value.int .i64 x.k, .int .i64 x.f, .int .i64 x.e, .int .i64 x.n, sv x.nm, sv x.op, .int .i64 x.a, .int .i64 x.b, .slice ma x.l.length mc].toArray 67 (0, 0)) := hb7
    (repeat refine Zr ?_)
    refine s_set 61 false rfl (bne_self_eq_false _) ?_
    (repeat (first | refine Zr ?_ | refine Zn ?_ | refine Zu ?_ | refine Zg ?_))
    refine s_gv rfl (r_ldb (vs := [.int .i64 x.f, .int .i64 x.e]) rfl rfl rfl hb6 rfl rfl) ?_
    (repeat (first | refine Zr ?_ | refine Zn ?_ | refine Zu ?_ | refine Zg ?_))
    refine s_gv rfl (r_ldb (vs := [.int .i64 x.f, .int .i64 x.e]) rfl rfl rfl hb7 rfl rfl) ?_
    refine s_gv rfl (r_nes [39] (by kernel_rfl) (by kernel_rfl) rfl rfl rfl) ?_
    (repeat (first | refine Zr ?_ | refine Zn ?_ | refine Zu ?_ | refine Zg ?_))
    refine s_set 68 false rfl (by simp) ?_
    (repeat (first | refine Zr ?_ | refine Zn ?_ | refine Zu ?_ | refine Zg ?_))
    refine s_set 75 false rfl (bne_self_eq_false _) ?_
    (repeat (first | refine Zr ?_ | refine Zn ?_ | refine Zu ?_ | refine Zg ?_))
    refine s_set 82 false rfl (by simp) ?_
    (repeat (first | refine Zr ?_ | refine Zn ?_ | refine Zu ?_ | refine Zg ?_))
    refine s_set 89 false rfl (by simp) ?_
    (repeat (first | refine Zr ?_ | refine Zn ?_ | refine Zu ?_ | refine Zg ?_))
    refine s_set 96 false rfl (bne_self_eq_false _) ?_
    (repeat (first | refine Zr ?_ | refine Zn ?_ | refine Zu ?_ | refine Zg ?_))
    refine s_set 103 false rfl (bne_self_eq_false _) ?_
    (repeat (first | refine Zr ?_ | refine Zn ?_ | refine Zu ?_ | refine Zg ?_))
    refine s_gcall (us := []) (zs := []) rfl (by kernel_rfl) rfl rfl (intsF x.l _ _ w4 (own_kp hl (k4) fun _ _ h => h) (own_kp hm (k4) fun _ _ h => h)) ?_
    rintro _ w5 ⟨rfl, k5⟩
    (repeat (first | refine Zr ?_ | refine Zn ?_ | refine Zu ?_ | refine Zg ?_))
    refine c_f rfl ?_
    (repeat refine Zr ?_)
    exact l_next (i + 1) ⟨rfl, rfl, rfl, rfl, trivial⟩ ⟨(k3.no k4).no k5, by omega⟩ (by omega)
  have kx := k3
  (repeat refine Zr ?_)
  clear hp3 hq3 hu3 hv3 ql hi
  refine k_loop (σ := Nat) (fun i => [(2, .pointer (some ⟨p, 0, none⟩)), (3, .pointer (some ⟨q, 0, none⟩)), (114, .int .i64 S.st.length), (115, .int .i64 (i : Int))])
    (fun i w' => Kp No w2 w' ∧ i ≤ S.st.length) (fun i => S.st.length - i) 0 ⟨rfl, rfl, rfl, rfl, trivial⟩ ⟨kx, Nat.zero_le _⟩ ?_
  rintro i lr w3 ⟨k3, hi⟩
  have hp3 := k3.get0 hp
  have hq3 := k3.get0 hq
  have hu3 := (hu.kp k2).kp k3
  have hv3 := (hv.kp k2).kp k3
  (repeat refine Zr ?_)
  refine c_dec rfl (fun ql => ?_) (fun ql => ?_)
  · have ql : i < S.st.length := by omega
    obtain ⟨x, hx⟩ : ∃ x, S.st[i]? = some x := ⟨_, List.getElem?_eq_getElem ql⟩
    obtain ⟨g, lv, lv2, rfl, hl, hl2, hc⟩ := hu3.st hx
    obtain ⟨h, mv, mv2, rfl, hm, hm2, hd⟩ := hv3.st hx
    obtain ⟨la, lc, rfl⟩ := hl.val
    obtain ⟨ma, mc, rfl⟩ := hm.val
    obtain ⟨la2, lc2, rfl⟩ := hl2.val
    obtain ⟨ma2, mc2, rfl⟩ := hm2.val
    (repeat refine Zr ?_)
    refine k_cutc (σ := Nat × Nat) (fun t => [(2, .pointer (some ⟨p, 0, none⟩)), (3, .pointer (some ⟨q, 0, none⟩)), (114, .int .i64 S.st.length), (115, .int .i64 (i : Int)), (9, .pointer (some ⟨t.1, 0, none⟩)), (10, .pointer (some ⟨t.2, 0, none⟩))])
      (fun t w' => Kp No w3 w' ∧ w'.heap[t.1]? = some (.cells (stC (x, .slice la x.th.length lc, .slice la2 x.el.length lc2)).toArray 42 (0, 0)) ∧ w'.heap[t.2]? = some (.cells (stC (x, .slice ma x.th.length mc, .slice ma2 x.el.length mc2)).toArray 42 (0, 0))) ?_ ?_
    · refine k_ht (fun w' => Kp No w3 w') 99 (by kernel_rfl) (fun m1 k1 _ => ?_)
      refine t_q (i := 0) (by exact waits_of_out (by kernel_rfl)) (by kernel_rfl) rfl (by kernel_rfl) (by kernel_rfl) k1 (fun w' hw => r_fa rfl rfl) ?_
      refine t_q (i := 1) (by exact waits_of_out (by kernel_rfl)) (by kernel_rfl) rfl (by kernel_rfl) (by kernel_rfl) k1 (fun w' hw => r_ld rfl rfl (cell_of_blk (hw.get0 hp3) rfl)) ?_
      refine t_q (i := 2) (by exact waits_of_out (by kernel_rfl)) (by kernel_rfl) rfl (by kernel_rfl) (by kernel_rfl) k1 (fun w' hw => r_mv rfl) ?_
      refine t_q (i := 3) (by exact waits_of_out (by kernel_rfl)) (by kernel_rfl) rfl (by kernel_rfl) (by kernel_rfl) k1 (fun w' hw => r_ia (size := 9) rfl rfl rfl rfl (by omega) (by omega)) ?_
      refine t_q (i := 4) (by exact waits_of_out (by kernel_rfl)) (by kernel_rfl) rfl (by kernel_rfl) (by kernel_rfl) k1 (fun w' hw => r_lda (n := 9) (vs := stC (x, .slice la x.th.length lc, .slice la2 x.el.length lc2)) rfl rfl rfl rfl (cells_of rfl fun j u hj => hw.cell0 (hc j u hj))) ?_
      refine t_q (i := 5) (by exact waits_of_out (by kernel_rfl)) (by kernel_rfl) rfl (by kernel_rfl) (by kernel_rfl) k1 (fun w' hw => r_fa rfl rfl) ?_
      refine t_q (i := 6) (by exact waits_of_out (by kernel_rfl)) (by kernel_rfl) rfl (by kernel_rfl) (by kernel_rfl) k1 (fun w' hw => r_ld rfl rfl (cell_of_blk (hw.get0 hq3) rfl)) ?_
      refine t_q (i := 7) (by exact waits_of_out (by kernel_rfl)) (by kernel_rfl) rfl (by kernel_rfl) (by kernel_rfl) k1 (fun w' hw => r_mv rfl) ?_
      refine t_q (i := 8) (by exact waits_of_out (by kernel_rfl)) (by kernel_rfl) rfl (by kernel_rfl) (by kernel_rfl) k1 (fun w' hw => r_ia (size := 9) rfl rfl rfl rfl (by omega) (by omega)) ?_
      refine t_q (i := 9) (by exact waits_of_out (by kernel_rfl)) (by kernel_rfl) rfl (by kernel_rfl) (by kernel_rfl) k1 (fun w' hw => r_lda (n := 9) (vs := stC (x, .slice ma x.th.length mc, .slice ma2 x.el.length mc2)) rfl rfl rfl rfl (cells_of rfl fun j u hj => hw.cell0 (hd j u hj))) ?_
      refine t_2 (i := 10) (i2 := 11) (by kernel_rfl) ?_ ?_
      · refine ts_nb (r := fun a => .pointer (some a)) rfl (r_al rfl) (fun b6 m2 n6 => ⟨fun _ => k1.no n6.kp, ?_⟩)
        refine t_1 (i := 11) (by kernel_rfl) ?_
        refine ts_nb (r := fun a => .pointer (some a)) rfl (r_al rfl) (fun b7 m3 n7 => ⟨fun _ => (k1.no n6.kp).no n7.kp, ?_⟩)
        refine t_o (ord := [(12, true), (13, true)]) (by exact waits_of_out (by kernel_rfl)) (by kernel_rfl) (by kernel_rfl) rfl rfl ?_
        have y1 := n6.ge; have y2 := n7.ge; have y3 := n6.lt; have y4 := k1.size
        refine h_st (vs := stC (x, .slice la x.th.length lc, .slice la2 x.el.length lc2)) rfl rfl rfl rfl rfl (n7.kp.get0 n6.blk) (Nat.le_of_ble_eq_true rfl) (fun m4 s4 => ⟨fun _ => ((k1.no n6.kp).no n7.kp).trans s4.kp fun i hi e => by omega, ?_⟩)
        refine h_st (vs := stC (x, .slice ma x.th.length mc, .slice ma2 x.el.length mc2)) rfl rfl rfl rfl rfl (s4.kp.get (n7.blk) (by omega)) (Nat.le_of_ble_eq_true rfl) (fun m5 s5 => ⟨fun _ => (((k1.no n6.kp).no n7.kp).trans s4.kp fun i hi e => by omega).trans s5.kp fun i hi e => by omega, ?_⟩)
        refine h_nil ?_
        exact l_cut (b6, b7) ⟨rfl, rfl, rfl, rfl, rfl, rfl, trivial⟩ ⟨(((k1.no n6.kp).no n7.kp).trans s4.kp fun i hi e => by omega).trans s5.kp fun i hi e => by omega, s5.kp.get s4.blk (by omega), s5.blk⟩
      · refine ts_nb (r := fun a => .pointer (some a)) rfl (r_al rfl) (fun b7 m2 n7 => ⟨fun _ => k1.no n7.kp, ?_⟩)
        refine t_1 (i := 10) (by kernel_rfl) ?_
        refine ts_nb (r := fun a => .pointer (some a)) rfl (r_al rfl) (fun b6 m3 n6 => ⟨fun _ => (k1.no n7.kp).no n6.kp, ?_⟩)
        refine t_o (ord := [(12, true), (13, true)]) (by exact waits_of_out (by kernel_rfl)) (by kernel_rfl) (by kernel_rfl) rfl rfl ?_
        have y1 := n7.ge; have y2 := n6.ge; have y3 := n7.lt; have y4 := k1.size
        refine h_st (vs := stC (x, .slice la x.th.length lc, .slice la2 x.el.length lc2)) rfl rfl rfl rfl rfl (n6.blk) (Nat.le_of_ble_eq_true rfl) (fun m4 s4 => ⟨fun _ => ((k1.no n7.kp).no n6.kp).trans s4.kp fun i hi e => by omega, ?_⟩)
        refine h_st (vs := stC (x, .slice ma x.th.length mc, .slice ma2 x.el.length mc2)) rfl rfl rfl rfl rfl (s4.kp.get (n6.kp.get0 n7.blk) (by omega)) (Nat.le_of_ble_eq_true rfl) (fun m5 s5 => ⟨fun _ => (((k1.no n7.kp).no n6.kp).trans s4.kp fun i hi e => by omega).trans s5.kp fun i hi e => by omega, ?_⟩)
        refine h_nil ?_
        exact l_cut (b6, b7) ⟨rfl, rfl, rfl, rfl, rfl, rfl, trivial⟩ ⟨(((k1.no n7.kp).no n6.kp).trans s4.kp fun i hi e => by omega).trans s5.kp fun i hi e => by omega, s5.kp.get s4.blk (by omega), s5.blk⟩
    rintro ⟨b6, b7⟩ l4 w4 ⟨k4, hb6, hb7⟩
    simp only at hb6 hb7
    have hb6 : w4.heap[b6]? = some (.cells [Value.int .i64 x.k, .int .i64 x.f, .int .i64 x.e, sv x.nm, .int .i64 x.n, .int .i64 x.a, .int .i64 x.b, .slice la x.th.length lc, .slice la2 x.el.length lc2].toArray 42 (0, 0)) := hb6
    have hb7 : w4.heap[b7]? = some (.cells [Value.int .i64 x.k, .int .i64 x.f, .int .i64 x.e, sv x.nm, .int .i64 x.n, .int .i64 x.a, .int .i64 x.b, .slice ma x.th.length mc, .slice ma2 x.el.length mc2].toArray 42 (0, 0)) := hb7
    (repeat refine Zr ?_)
    refine s_set 133 false rfl (bne_self_eq_false _) ?_
    (repeat (first | refine Zr ?_ | refine Zn ?_ | refine Zu ?_ | refine Zg ?_))
    refine s_gv rfl (r_ldb (vs := [.int .i64 x.f, .int .i64 x.e]) rfl rfl rfl hb6 rfl rfl) ?_
    (repeat (first | refine Zr ?_ | refine Zn ?_ | refine Zu ?_ | refine Zg ?_))
    refine s_gv rfl (r_ldb (vs := [.int .i64 x.f, .int .i64 x.e]) rfl rfl rfl hb7 rfl rfl) ?_
    refine s_gv rfl (r_nes [39] (by kernel_rfl) (by kernel_rfl) rfl rfl rfl) ?_
    (repeat (first | refine Zr ?_ | refine Zn ?_ | refine Zu ?_ | refine Zg ?_))
    refine s_set 140 false rfl (by simp) ?_
    (repeat (first | refine Zr ?_ | refine Zn ?_ | refine Zu ?_ | refine Zg ?_))
    refine s_set 147 false rfl (by simp) ?_
    (repeat (first | refine Zr ?_ | refine Zn ?_ | refine Zu ?_ | refine Zg ?_))
    refine s_set 154 false rfl (bne_self_eq_false _) ?_
    (repeat (first | refine Zr ?_ | refine Zn ?_ | refine Zu ?_ | refine Zg ?_))
    refine s_set 161 false rfl (bne_self_eq_false _) ?_
    (repeat (first | refine Zr ?_ | refine Zn ?_ | refine Zu ?_ | refine Zg ?_))
    refine s_set 168 false rfl (bne_self_eq_false _) ?_
    (repeat (first | refine Zr ?_ | refine Zn ?_ | refine Zu ?_ | refine Zg ?_))
    refine s_gcall (us := []) (zs := []) rfl (by kernel_rfl) rfl rfl (intsF x.th _ _ w4 (own_kp hl (k4) fun _ _ h => h) (own_kp hm (k4) fun _ _ h => h)) ?_
    rintro _ w5 ⟨rfl, k5⟩
    have hb6 := k5.get0 hb6
    have hb7 := k5.get0 hb7
    (repeat (first | refine Zr ?_ | refine Zn ?_ | refine Zu ?_ | refine Zg ?_))
    refine s_gcall (us := []) (zs := []) rfl (by kernel_rfl) rfl rfl (intsF x.el _ _ w5 (own_kp hl2 (k4.no k5) fun _ _ h => h) (own_kp hm2 (k4.no k5) fun _ _ h => h)) ?_
    rintro _ w6 ⟨rfl, k6⟩
    (repeat (first | refine Zr ?_ | refine Zn ?_ | refine Zu ?_ | refine Zg ?_))
    refine c_f rfl ?_
    (repeat refine Zr ?_)
    exact l_next (i + 1) ⟨rfl, rfl, rfl, rfl, trivial⟩ ⟨((k3.no k4).no k5).no k6, by omega⟩ (by omega)
  have ks := k3
  (repeat refine Zr ?_)
  clear hp3 hq3 hu3 hv3 ql hi
  refine k_loop (σ := Nat) (fun i => [(2, .pointer (some ⟨p, 0, none⟩)), (3, .pointer (some ⟨q, 0, none⟩)), (187, .int .i64 S.fn.length), (188, .int .i64 (i : Int))])
    (fun i w' => Kp No w2 w' ∧ i ≤ S.fn.length) (fun i => S.fn.length - i) 0 ⟨rfl, rfl, rfl, rfl, trivial⟩ ⟨ks, Nat.zero_le _⟩ ?_
  rintro i lr w3 ⟨k3, hi⟩
  have hp3 := k3.get0 hp
  have hq3 := k3.get0 hq
  have hu3 := (hu.kp k2).kp k3
  have hv3 := (hv.kp k2).kp k3
  (repeat refine Zr ?_)
  refine c_dec rfl (fun ql => ?_) (fun ql => ?_)
  · have ql : i < S.fn.length := by omega
    obtain ⟨x, hx⟩ : ∃ x, S.fn[i]? = some x := ⟨_, List.getElem?_eq_getElem ql⟩
    obtain ⟨g, lv, lv2, rfl, hl, hl2, hc⟩ := hu3.fn hx
    obtain ⟨h, mv, mv2, rfl, hm, hm2, hd⟩ := hv3.fn hx
    obtain ⟨la, lc, rfl⟩ := hl.val
    obtain ⟨ma, mc, rfl⟩ := hm.val
    obtain ⟨la2, lc2, rfl⟩ := hl2.val
    obtain ⟨ma2, mc2, rfl⟩ := hm2.val
    (repeat refine Zr ?_)
    refine k_cutc (σ := Nat × Nat) (fun t => [(2, .pointer (some ⟨p, 0, none⟩)), (3, .pointer (some ⟨q, 0, none⟩)), (187, .int .i64 S.fn.length), (188, .int .i64 (i : Int)), (12, .pointer (some ⟨t.1, 0, none⟩)), (13, .pointer (some ⟨t.2, 0, none⟩))])
      (fun t w' => Kp No w3 w' ∧ w'.heap[t.1]? = some (.cells (fnC (x, .slice la x.ps.length lc, .slice la2 x.bd.length lc2)).toArray 62 (0, 0)) ∧ w'.heap[t.2]? = some (.cells (fnC (x, .slice ma x.ps.length mc, .slice ma2 x.bd.length mc2)).toArray 62 (0, 0))) ?_ ?_
    · refine k_ht (fun w' => Kp No w3 w') 99 (by kernel_rfl) (fun m1 k1 _ => ?_)
      refine t_q (i := 0) (by exact waits_of_out (by kernel_rfl)) (by kernel_rfl) rfl (by kernel_rfl) (by kernel_rfl) k1 (fun w' hw => r_fa rfl rfl) ?_
      refine t_q (i := 1) (by exact waits_of_out (by kernel_rfl)) (by kernel_rfl) rfl (by kernel_rfl) (by kernel_rfl) k1 (fun w' hw => r_ld rfl rfl (cell_of_blk (hw.get0 hp3) rfl)) ?_
      refine t_q (i := 2) (by exact waits_of_out (by kernel_rfl)) (by kernel_rfl) rfl (by kernel_rfl) (by kernel_rfl) k1 (fun w' hw => r_mv rfl) ?_
      refine t_q (i := 3) (by exact waits_of_out (by kernel_rfl)) (by kernel_rfl) rfl (by kernel_rfl) (by kernel_rfl) k1 (fun w' hw => r_ia (size := 6) rfl rfl rfl rfl (by omega) (by omega)) ?_
      refine t_q (i := 4) (by exact waits_of_out (by kernel_rfl)) (by kernel_rfl) rfl (by kernel_rfl) (by kernel_rfl) k1 (fun w' hw => r_lda (n := 6) (vs := fnC (x, .slice la x.ps.length lc, .slice la2 x.bd.length lc2)) rfl rfl rfl rfl (cells_of rfl fun j u hj => hw.cell0 (hc j u hj))) ?_
      refine t_q (i := 5) (by exact waits_of_out (by kernel_rfl)) (by kernel_rfl) rfl (by kernel_rfl) (by kernel_rfl) k1 (fun w' hw => r_fa rfl rfl) ?_
      refine t_q (i := 6) (by exact waits_of_out (by kernel_rfl)) (by kernel_rfl) rfl (by kernel_rfl) (by kernel_rfl) k1 (fun w' hw => r_ld rfl rfl (cell_of_blk (hw.get0 hq3) rfl)) ?_
      refine t_q (i := 7) (by exact waits_of_out (by kernel_rfl)) (by kernel_rfl) rfl (by kernel_rfl) (by kernel_rfl) k1 (fun w' hw => r_mv rfl) ?_
      refine t_q (i := 8) (by exact waits_of_out (by kernel_rfl)) (by kernel_rfl) rfl (by kernel_rfl) (by kernel_rfl) k1 (fun w' hw => r_ia (size := 6) rfl rfl rfl rfl (by omega) (by omega)) ?_
      refine t_q (i := 9) (by exact waits_of_out (by kernel_rfl)) (by kernel_rfl) rfl (by kernel_rfl) (by kernel_rfl) k1 (fun w' hw => r_lda (n := 6) (vs := fnC (x, .slice ma x.ps.length mc, .slice ma2 x.bd.length mc2)) rfl rfl rfl rfl (cells_of rfl fun j u hj => hw.cell0 (hd j u hj))) ?_
      refine t_2 (i := 10) (i2 := 11) (by kernel_rfl) ?_ ?_
      · refine ts_nb (r := fun a => .pointer (some a)) rfl (r_al rfl) (fun b6 m2 n6 => ⟨fun _ => k1.no n6.kp, ?_⟩)
        refine t_1 (i := 11) (by kernel_rfl) ?_
        refine ts_nb (r := fun a => .pointer (some a)) rfl (r_al rfl) (fun b7 m3 n7 => ⟨fun _ => (k1.no n6.kp).no n7.kp, ?_⟩)
        refine t_o (ord := [(12, true), (13, true)]) (by exact waits_of_out (by kernel_rfl)) (by kernel_rfl) (by kernel_rfl) rfl rfl ?_
        have y1 := n6.ge; have y2 := n7.ge; have y3 := n6.lt; have y4 := k1.size
        refine h_st (vs := fnC (x, .slice la x.ps.length lc, .slice la2 x.bd.length lc2)) rfl rfl rfl rfl rfl (n7.kp.get0 n6.blk) (Nat.le_of_ble_eq_true rfl) (fun m4 s4 => ⟨fun _ => ((k1.no n6.kp).no n7.kp).trans s4.kp fun i hi e => by omega, ?_⟩)
        refine h_st (vs := fnC (x, .slice ma x.ps.length mc, .slice ma2 x.bd.length mc2)) rfl rfl rfl rfl rfl (s4.kp.get (n7.blk) (by omega)) (Nat.le_of_ble_eq_true rfl) (fun m5 s5 => ⟨fun _ => (((k1.no n6.kp).no n7.kp).trans s4.kp fun i hi e => by omega).trans s5.kp fun i hi e => by omega, ?_⟩)
        refine h_nil ?_
        exact l_cut (b6, b7) ⟨rfl, rfl, rfl, rfl, rfl, rfl, trivial⟩ ⟨(((k1.no n6.kp).no n7.kp).trans s4.kp fun i hi e => by omega).trans s5.kp fun i hi e => by omega, s5.kp.get s4.blk (by omega), s5.blk⟩
      · refine ts_nb (r := fun a => .pointer (some a)) rfl (r_al rfl) (fun b7 m2 n7 => ⟨fun _ => k1.no n7.kp, ?_⟩)
        refine t_1 (i := 10) (by kernel_rfl) ?_
        refine ts_nb (r := fun a => .pointer (some a)) rfl (r_al rfl) (fun b6 m3 n6 => ⟨fun _ => (k1.no n7.kp).no n6.kp, ?_⟩)
        refine t_o (ord := [(12, true), (13, true)]) (by exact waits_of_out (by kernel_rfl)) (by kernel_rfl) (by kernel_rfl) rfl rfl ?_
        have y1 := n7.ge; have y2 := n6.ge; have y3 := n7.lt; have y4 := k1.size
        refine h_st (vs := fnC (x, .slice la x.ps.length lc, .slice la2 x.bd.length lc2)) rfl rfl rfl rfl rfl (n6.blk) (Nat.le_of_ble_eq_true rfl) (fun m4 s4 => ⟨fun _ => ((k1.no n7.kp).no n6.kp).trans s4.kp fun i hi e => by omega, ?_⟩)
        refine h_st (vs := fnC (x, .slice ma x.ps.length mc, .slice ma2 x.bd.length mc2)) rfl rfl rfl rfl rfl (s4.kp.get (n6.kp.get0 n7.blk) (by omega)) (Nat.le_of_ble_eq_true rfl) (fun m5 s5 => ⟨fun _ => (((k1.no n7.kp).no n6.kp).trans s4.kp fun i hi e => by omega).trans s5.kp fun i hi e => by omega, ?_⟩)
        refine h_nil ?_
        exact l_cut (b6, b7) ⟨rfl, rfl, rfl, rfl, rfl, rfl, trivial⟩ ⟨(((k1.no n7.kp).no n6.kp).trans s4.kp fun i hi e => by omega).trans s5.kp fun i hi e => by omega, s5.kp.get s4.blk (by omega), s5.blk⟩
    rintro ⟨b6, b7⟩ l4 w4 ⟨k4, hb6, hb7⟩
    simp only at hb6 hb7
    have hb6 : w4.heap[b6]? = some (.cells [sv x.nm, .int .i64 x.f, .int .i64 x.e, .slice la x.ps.length lc, .int .i64 x.ty, .slice la2 x.bd.length lc2].toArray 62 (0, 0)) := hb6
    have hb7 : w4.heap[b7]? = some (.cells [sv x.nm, .int .i64 x.f, .int .i64 x.e, .slice ma x.ps.length mc, .int .i64 x.ty, .slice ma2 x.bd.length mc2].toArray 62 (0, 0)) := hb7
    (repeat refine Zr ?_)
    refine s_set 206 false rfl (by simp) ?_
    (repeat (first | refine Zr ?_ | refine Zn ?_ | refine Zu ?_ | refine Zg ?_))
    refine s_gv rfl (r_ldb (vs := [.int .i64 x.f, .int .i64 x.e]) rfl rfl rfl hb6 rfl rfl) ?_
    (repeat (first | refine Zr ?_ | refine Zn ?_ | refine Zu ?_ | refine Zg ?_))
    refine s_gv rfl (r_ldb (vs := [.int .i64 x.f, .int .i64 x.e]) rfl rfl rfl hb7 rfl rfl) ?_
    refine s_gv rfl (r_nes [39] (by kernel_rfl) (by kernel_rfl) rfl rfl rfl) ?_
    (repeat (first | refine Zr ?_ | refine Zn ?_ | refine Zu ?_ | refine Zg ?_))
    refine s_set 213 false rfl (by simp) ?_
    (repeat (first | refine Zr ?_ | refine Zn ?_ | refine Zu ?_ | refine Zg ?_))
    refine s_set 220 false rfl (bne_self_eq_false _) ?_
    (repeat (first | refine Zr ?_ | refine Zn ?_ | refine Zu ?_ | refine Zg ?_))
    refine s_set 229 false rfl (bne_self_eq_false _) ?_
    (repeat (first | refine Zr ?_ | refine Zn ?_ | refine Zu ?_ | refine Zg ?_))
    refine s_gcall (us := []) (zs := []) rfl (by kernel_rfl) rfl rfl (intsF x.bd _ _ w4 (own_kp hl2 (k4) fun _ _ h => h) (own_kp hm2 (k4) fun _ _ h => h)) ?_
    rintro _ w5 ⟨rfl, k5⟩
    (repeat (first | refine Zr ?_ | refine Zn ?_ | refine Zu ?_ | refine Zg ?_))
    refine c_f rfl ?_
    have hb6' := k5.get0 hb6
    have hb7' := k5.get0 hb7
    have hpl : x.ps.length ≤ 9223372036854775807 := Nat.le_trans (own_max hl) (by decide)
    (repeat refine Zr ?_)
    refine k_loop (σ := Nat) (fun j => [(2, .pointer (some ⟨p, 0, none⟩)), (3, .pointer (some ⟨q, 0, none⟩)), (12, .pointer (some ⟨b6, 0, none⟩)), (13, .pointer (some ⟨b7, 0, none⟩)), (187, .int .i64 S.fn.length), (188, .int .i64 (i : Int)), (239, .int .i64 x.ps.length), (240, .int .i64 (j : Int))])
      (fun j w' => Kp No w5 w' ∧ j ≤ x.ps.length) (fun j => x.ps.length - j) 0 ⟨rfl, rfl, rfl, rfl, rfl, rfl, rfl, rfl, trivial⟩ ⟨Kp.refl _ _, Nat.zero_le _⟩ ?_
    rintro j lj w6 ⟨k6, hj⟩
    have hb6j := k6.get0 hb6'
    have hb7j := k6.get0 hb7'
    (repeat refine Zr ?_)
    refine c_dec rfl (fun qj => ?_) (fun qj => ?_)
    · have qj : j < x.ps.length := by omega
      obtain ⟨s, hs⟩ : ∃ s, x.ps[j]? = some s := ⟨_, List.getElem?_eq_getElem qj⟩
      have kk := (k4.no k5).no k6
      obtain ⟨a', c', e', _, ha0, har⟩ := own_read (own_kp hl kk fun _ _ h => h)
      obtain ⟨b', d', f', _, hb0, hbr⟩ := own_read (own_kp hm kk fun _ _ h => h)
      simp only [Value.slice.injEq, true_and] at e' f'
      obtain ⟨rfl, rfl⟩ := e'
      obtain ⟨rfl, rfl⟩ := f'
      cases la with
      | none => have := ha0 rfl; omega
      | some ad =>
      cases ma with
      | none => have := hb0 rfl; omega
      | some bd =>
      obtain ⟨ga, rfl, _, _, hga⟩ := har _ rfl
      obtain ⟨gb, rfl, _, _, hgb⟩ := hbr _ rfl
      have c1 : w6.cell? ⟨ga, 0 + (j : Int).toNat * 1, none⟩ = some (sv s) := by rw [Nat.mul_one]; exact hga _ _ (by rw [Int.toNat_natCast, List.getElem?_map, hs]; rfl)
      have c2 : w6.cell? ⟨gb, 0 + (j : Int).toNat * 1, none⟩ = some (sv s) := by rw [Nat.mul_one]; exact hgb _ _ (by rw [Int.toNat_natCast, List.getElem?_map, hs]; rfl)
      unfold sv at c1 c2
      (repeat refine Zr ?_)
      refine k_q (by kernel_rfl) (by kernel_rfl) ?_
      (repeat (first | refine Zq ?_ | refine Zqn ?_ | refine Zqu ?_ | refine Zqg ?_))
      refine q_nil (fun w7 k7 => ?_)
      (repeat refine Zr ?_)
      refine c_b rfl (fun hb => (by simp at hb)) (fun _ => ?_)
      (repeat refine Zr ?_)
      exact l_next (j + 1) ⟨rfl, rfl, rfl, rfl, rfl, rfl, rfl, rfl, trivial⟩ ⟨k6.no k7, by omega⟩ (by omega)
    · (repeat refine Zr ?_)
      exact l_next (i + 1) ⟨rfl, rfl, rfl, rfl, trivial⟩ ⟨((k3.no k4).no k5).no k6, by omega⟩ (by omega)
  (repeat refine Zr ?_)
  exact ret_1 rfl rfl ⟨rfl, k2.no k3⟩
end Go.Proofs.YtfnbgbeinmekgaaGreatDoor.Sy
