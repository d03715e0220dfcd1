/- What the proofs of this seat lean on, part 7. -/
import Derived.Test.YtkllhfajldnpoaaPk6
namespace Go.Proofs.Ytkllhfajldnpoaa.Fw
open Go Go.RowKit
theorem cells_ofc {w : World} {b o n : Nat} {vs : List Value} (hl : vs.length = n) (h : ∀ (j : Nat) (u : Value), vs[j]? = some u → w.cell? ⟨b, o + j, none⟩ = some u) : ∀ j, j < n → w.cell? ⟨b, o + j, none⟩ = vs[j]? := fun j hj => by
  obtain ⟨u, hu⟩ : ∃ u, vs[j]? = some u := ⟨_, List.getElem?_eq_getElem (by omega)⟩
  rw [hu]; exact h j u hu
theorem own_mx {w : World} {base : Nat} {e : TypeId} {size : Nat} {v : Value} {n : Nat} {cs : List Value} (h : w.ownsRow base e size v n cs) : n ≤ maxLen := by
  rcases h.2 with ⟨_, rfl⟩ | ⟨g, cap, cur, _, _, _, h1, h2, _⟩
  · exact Nat.zero_le _
  · exact Nat.le_trans h1 h2
theorem own_tab {w w2 : World} {base : Nat} {e size n : Nat} {v : Value} {cs : List Value} {g k : Nat} {cur : List Value} {u : Value} (h : w.ownsRow base e size v n cs) (hb : w.heap[g]? = some (.cells cur.toArray e (0, 0))) (s : Sb w g (cur.set k u) e w2) : ∃ cs', w2.ownsRow base e size v n cs' := by
  by_cases hv : v.ownBlock = some g
  · obtain ⟨hl, h⟩ := h
    rcases h with ⟨e1, h0⟩ | ⟨g', cap, cur', e1, hg, hb', hn, hm, hs, ht⟩
    · subst e1; cases hv
    · subst e1
      have : g' = g := by simpa [Value.ownBlock] using hv
      subst this
      have e2 : cur' = cur.toArray := by rw [hb] at hb'; cases hb'; rfl
      subst e2
      refine ⟨((cur.set k u).take (n * size)), ?_, .inr ⟨g', cap, (cur.set k u).toArray, rfl, hg, s.blk, hn, hm, by simpa using hs, rfl⟩⟩
      rw [List.length_take, List.length_set]
      rw [← ht, List.length_take] at hl
      simpa using hl
  · exact ⟨cs, own_kp h s.kp fun i hi e => hv (by rw [← e]; exact hi)⟩
theorem tab_at {w : World} {base e n i : Nat} {a : Option Addr} {m c : Nat} (h : ∃ cs, w.ownsRow base e 1 (.slice a m c) n cs) (hi : i < n) : ∃ g cur, a = some ⟨g, 0, none⟩ ∧ m = n ∧ w.heap[g]? = some (.cells (List.toArray cur) e (0, 0)) ∧ i < cur.length := by
  obtain ⟨cs, h⟩ := h
  obtain ⟨a', c', e1, _⟩ := own_read h
  cases e1
  have hl : cs.length = n := by have := h.1; omega
  obtain ⟨g, cur, e1, _, hb, hk, _⟩ := own_put (k := i) (cs := cs) (by exact h) (by omega)
  exact ⟨g, cur, e1, rfl, hb, hk⟩
section
variable {P : Program} {ops : Array Oper} {q : Pst P} {w : World} {n : Nat} {l : Slots} {ds : List Deferred}
theorem s_cs {L : List Oper} (t : Nat) {b : Bool} (hy : look l t = .bool b) (ht : b = true → Wl P ops q L n ((t, .bool true) :: l) ds w) (hf : b = false → Wl P ops q L n ((t, .bool false) :: l) ds w) : Wl P ops q L n l ds w := by
  cases b with
  | true => exact s_set t true hy rfl (ht rfl)
  | false => exact s_set t false hy rfl (hf rfl)
theorem k_cs {c : Code} (t : Nat) {b : Bool} (hy : look l t = .bool b) (ht : b = true → Wc P c q n ((t, .bool true) :: l) ds w) (hf : b = false → Wc P c q n ((t, .bool false) :: l) ds w) : Wc P c q n l ds w := by
  cases b with
  | true => exact k_re t hy rfl (ht rfl)
  | false => exact k_re t hy rfl (hf rfl)
end
end Go.Proofs.Ytkllhfajldnpoaa.Fw
namespace Go.Proofs.Ytkllhfajldnpoaa.Ck
open Go Go.RowKit Fw Sy Rf
set_option linter.unusedVariables false
set_option maxRecDepth 20000
/-- Nothing changes but an error. -/
structure Er (q q' : Kq) : Prop where
  eq : ∃ c p, q' = { q with c := c, p := p }
  er : q.c ≠ 0 → q'.c ≠ 0
section
variable {X : Kc} {w w0 w2 : World} {q q0 q1 q2 : Kq}
theorem Er.refl (q : Kq) : Er q q := ⟨⟨q.c, q.p, rfl⟩, fun h => h⟩
theorem Er.trans (h : Er q q1) (k : Er q1 q2) : Er q q2 := by
  obtain ⟨c, p, rfl⟩ := h.eq
  obtain ⟨c', p', rfl⟩ := k.eq
  exact ⟨⟨c', p', rfl⟩, fun h0 => k.er (h.er h0)⟩
theorem Er.need {ok : Bool} {p c : Int} (hc : c ≠ 0) : Er q (needQ ok p c q) := ⟨need_eq, fun h0 h => h0 ((need_c hc).1 h).1⟩
theorem Er.k (h : Er q q1) : q1.k = q.k := by obtain ⟨c, p, rfl⟩ := h.eq; rfl
theorem Er.f (h : Er q q1) : q1.f = q.f := by obtain ⟨c, p, rfl⟩ := h.eq; rfl
theorem needE (h : Ak X w q) (ok : Bool) (p c : Int) (hc : c ≠ 0) : Ret Try.prog 45 [kv X q, .bool ok, .int .i64 p, .int .i64 c] w fun v w1 => ∃ q', v = kv X q' ∧ Sk X w q w1 q' ∧ Er q q' ∧ (q'.c = 0 → ok = true) ∧ (ok = true → q'.c = q.c) := by
  refine (needF h ok p c).mono ?_
  rintro v w1 ⟨rfl, k⟩
  exact ⟨_, rfl, (Sk.start h).no k |>.call (Sk.need (h.no k) ok p c), Er.need hc, fun h0 => ((need_c hc).1 h0).2, fun hok => by rw [hok]; exact congrArg Kq.c (if_neg fun h => by cases h.2)⟩
theorem Sk.tab (A : Ak X w q) {g k : Nat} {cur : List Value} {u : Value} (hg : X.ty.v.ownBlock = some g ∨ X.sl.v.ownBlock = some g ∨ X.pu.v.ownBlock = some g ∨ X.fu.v.ownBlock = some g) (hb : w.heap[g]? = some (.cells cur.toArray tInt (0, 0))) (s : Sb w g (cur.set k u) tInt w2) : Sk X w q w2 q := by
  have hge := (A.mx (.inl hg)).1
  obtain ⟨c1, o1⟩ := A.ty
  obtain ⟨c2, o2⟩ := A.sl
  obtain ⟨c3, o3⟩ := A.pu
  obtain ⟨c4, o4⟩ := A.fu
  have ne : ∀ {e : TypeId} {size n : Nat} {v : Value} {cs : List Value}, w.ownsRow X.w.heap.size e size v n cs → Nat.beq e tInt = false → w2.ownsRow X.w.heap.size e size v n cs := fun ho he => own_kp ho s.kp fun i hi e => by
    obtain ⟨c, hc⟩ := own_ty ho hi
    exact ty_ne hc hb he e
  refine ⟨⟨A.k0.from0' s.kp fun i hi e => by omega, A.tr, A.pg, own_tab o1 hb s, own_tab o2 hb s, own_tab o3 hb s, own_tab o4 hb s, ne A.so rfl, A.vl, A.kl, fun i v l hv hl => own_kp (A.inn i v l hv hl) s.kp fun j hj e => A.di v (List.mem_of_getElem? hv) g (by rw [← e]; exact hj) hg, A.dj, A.di, ne A.nm rfl, A.nr, A.nb, A.ff, A.sb⟩, ?_, fun _ _ h => h⟩
  exact s.kp.mono fun i _ e => e ▸ .inl hg
theorem li_at {w : World} {lv : Value} {l : List Int} (h : LI w lv l) : ∃ a c, lv = .slice a l.length c ∧ ∀ (k : Nat) (j : Int), l[k]? = some j → ∃ g, a = some ⟨g, 0, none⟩ ∧ ∀ w', Kp No w w' → w'.cell? ⟨g, 0 + (k : Int).toNat * 1, none⟩ = some (.int .i64 j) := by
  obtain ⟨a, c, rfl, _, h0, hc⟩ := own_read h
  refine ⟨a, c, rfl, fun k j hj => ?_⟩
  have hk := (List.getElem?_eq_some_iff.1 hj).1
  cases a with
  | none => have := h0 rfl; omega
  | some ad =>
    obtain ⟨g, rfl, _, _, hcell⟩ := hc _ rfl
    refine ⟨g, rfl, fun w' k' => k'.cell0 ?_⟩
    rw [show 0 + (k : Int).toNat * 1 = 0 + k by omega]
    exact hcell k _ (by rw [List.getElem?_map, hj]; rfl)
theorem Ak.ex (h : Ak X w q) {i : Nat} {x : Ex} (hx : X.S.ex[i]? = some x) : ∃ g lv, X.ux.a = some ⟨g, 0, none⟩ ∧ X.ux.n = X.S.ex.length ∧ LI X.w lv x.l ∧ ∀ w', Kp No X.w w' → ∀ (j : Nat) (u : Value), (exC (x, lv))[j]? = some u → w'.cell? ⟨g, 0 + (i : Int).toNat * 9 + j, none⟩ = some u := by
  obtain ⟨g, lv, e, hl, hc⟩ := Tr.ex (a := X.ux.a) (n := X.ux.n) (c := X.ux.c) h.tr hx
  obtain ⟨a, _, _, a', _, _, e2, _⟩ := Tr.val h.tr
  simp only [Value.slice.injEq] at e2
  exact ⟨g, lv, e, e2.2.1, hl, fun w' k j u hj => k.cell0 (hc j u hj)⟩
theorem Ak.fn (h : Ak X w q) {i : Nat} {x : Sy.Fn} (hx : X.S.fn[i]? = some x) : ∃ g lv mv, X.uf.a = some ⟨g, 0, none⟩ ∧ LS X.w lv x.ps ∧ LI X.w mv x.bd ∧ ∀ w', Kp No X.w w' → ∀ (j : Nat) (u : Value), (fnC (x, lv, mv))[j]? = some u → w'.cell? ⟨g, 0 + (i : Int).toNat * 6 + j, none⟩ = some u := by
  obtain ⟨g, lv, mv, e, hl, hm, hc⟩ := Tr.fn (a := X.uf.a) (n := X.uf.n) (c := X.uf.c) h.tr hx
  exact ⟨g, lv, mv, e, hl, hm, fun w' k j u hj => k.cell0 (hc j u hj)⟩
theorem Ak.fnn (h : Ak X w q) : X.uf.n = X.S.fn.length := by
  obtain ⟨_, _, c, _, _, c', _, _, e2⟩ := Tr.val h.tr
  simp only [Value.slice.injEq] at e2
  exact e2.2.1
/-- A literal's type. -/
def lit (S : PS) (i : Int) : Option Int := if (gx S i).k = 1 ∨ (gx S i).k = 7 then some 1 else if (gx S i).k = 2 ∨ (gx S i).k = 3 then some 2 else none
theorem gx_at {S : PS} {i : Nat} {x : Ex} (hx : S.ex[i]? = some x) : gx S (i : Int) = x := by unfold gx; rw [List.getD_eq_getElem?_getD, Int.toNat_natCast, hx]; rfl
theorem nlit {S : PS} {i : Nat} {x : Ex} (hx : S.ex[i]? = some x) (h : ¬ (x.k = 1 ∨ x.k = 7 ∨ x.k = 2 ∨ x.k = 3)) : ∀ r, lit S i = some r → False := by
  intro r hr
  unfold lit at hr
  rw [gx_at hx, if_neg (by omega), if_neg (by omega)] at hr
  cases hr
theorem lit_1 {S : PS} {i : Nat} {x : Ex} (hx : S.ex[i]? = some x) (h : x.k = 1 ∨ x.k = 7) {r : Int} (hr : lit S i = some r) : 1 = r := by
  unfold lit at hr
  rw [gx_at hx, if_pos h] at hr
  cases hr; rfl
theorem lit_2 {S : PS} {i : Nat} {x : Ex} (hx : S.ex[i]? = some x) (h : ¬ (x.k = 1 ∨ x.k = 7)) {r : Int} (hr : lit S i = some r) : 2 = r := by
  unfold lit at hr
  rw [gx_at hx, if_neg h] at hr
  split at hr
  · cases hr; rfl
  · cases hr
theorem lit_ne {S : PS} {i r : Int} (hr : lit S i = some r) : r ≠ 4 := by
  unfold lit at hr
  split at hr
  · cases hr; decide
  · split at hr
    · cases hr; decide
    · cases hr
/-- What an expression's check answers. -/
def ExS (X : Kc) (w : World) (q : Kq) (i : Int) (v : Value) (w' : World) : Prop := ∃ q' kd, v = .tuple #[kv X q', .int .i64 kd] ∧ Sk X w q w' q' ∧ Er q q' ∧ (q.c = 0 → ∀ r, lit X.S i = some r → q'.c = 0 ∧ kd = r)
theorem valueF (h : Ak X w q) {j : Nat} (hj : j < X.S.ex.length) (rec : ∀ w q, Ak X w q → Ret Try.prog 63 [kv X q, .int .i64 (j : Int)] w (ExS X w q j)) : Ret Try.prog 60 [kv X q, .int .i64 (j : Int)] w (ExS X w q j) := by
  refine ret_enter Try.func60 rfl Try.ntmps60 rfl ?_
  (repeat refine Zlr ?_)
  refine s_box (cs := kc X q) rfl rfl (fun b w1 n => ?_)
  have G := (Wk.start h).new n
  (repeat refine Zlr ?_)
  refine s_al rfl (fun b2 w2 n2 => ?_)
  have G := G.new n2
  have h0 := G.blk 0 rfl; try have h1 := G.blk 1 rfl; try have h2 := G.blk 2 rfl; try have h3 := G.blk 3 rfl; try have h4 := G.blk 4 rfl; try have h5 := G.blk 5 rfl
  (repeat refine Zlr ?_)
  refine s_call (us := []) (zs := []) (by kernel_rfl) rfl rfl (rec _ _ G.at_) ?_
  rintro _ w3 ⟨q3, kd, rfl, g3, e3, l3⟩
  have G := G.call g3
  have h0 := G.blk 0 rfl; try have h1 := G.blk 1 rfl; try have h2 := G.blk 2 rfl; try have h3 := G.blk 3 rfl; try have h4 := G.blk 4 rfl; try have h5 := G.blk 5 rfl
  (repeat refine Zlr ?_)
  refine s_al rfl (fun b6 w4 n4 => ?_)
  have G := G.new n4
  have h0 := G.blk 0 rfl; try have h1 := G.blk 1 rfl; try have h2 := G.blk 2 rfl; try have h3 := G.blk 3 rfl; try have h4 := G.blk 4 rfl; try have h5 := G.blk 5 rfl
  (repeat refine Zlr ?_)
  refine s_stw (vs := kc X q3) rfl rfl rfl rfl rfl h0 rfl (fun w5 s5 => ?_)
  have G := G.put 0 rfl s5 rfl
  have h0 := G.blk 0 rfl; try have h1 := G.blk 1 rfl; try have h2 := G.blk 2 rfl; try have h3 := G.blk 3 rfl; try have h4 := G.blk 4 rfl; try have h5 := G.blk 5 rfl
  (repeat refine Zlr ?_)
  obtain ⟨x, hx⟩ : ∃ x, X.S.ex[j]? = some x := ⟨_, List.getElem?_eq_getElem hj⟩
  obtain ⟨g, lv, hga, hgn, _, hcx⟩ := h.ex hx
  have hua : Value.slice X.ux.a X.ux.n X.ux.c = .slice (some ⟨g, 0, none⟩) X.ux.n X.ux.c := by rw [hga]
  refine k_h (fun w' => Kp No X.w w' ∧ w'.heap[b]? = some (.cells (kc X q).toArray tC (0, 0)) ∧ w'.heap[b6]? = some (.cells (kc X q3).toArray tC (0, 0))) [(0, false), (1, false), (2, false), (3, false), (4, false), (5, false), (6, false), (7, false), (8, false), (9, false), (10, false), (12, false), (11, true), (13, true), (14, false)] 99 (by kernel_rfl) (waits_of_out (by kernel_rfl)) (by kernel_rfl) (by kernel_rfl) (by kernel_rfl) rfl (fun w6 k6 q6 => ?_)
  have G := G.no k6
  have h0 := G.blk 0 rfl; try have h1 := G.blk 1 rfl; try have h2 := G.blk 2 rfl; try have h3 := G.blk 3 rfl; try have h4 := G.blk 4 rfl; try have h5 := G.blk 5 rfl
  have hS := And.intro G.at_.k0 (And.intro h2 h0)
  have hd1 : ∀ w', (Kp No X.w w' ∧ w'.heap[b]? = some (.cells (kc X q).toArray tC (0, 0)) ∧ w'.heap[b6]? = some (.cells (kc X q3).toArray tC (0, 0))) → w'.heap[b]? = some (.cells (kc X q).toArray tC (0, 0)) := fun w' hw => hw.2.1
  have hd2 : ∀ w', (Kp No X.w w' ∧ w'.heap[b]? = some (.cells (kc X q).toArray tC (0, 0)) ∧ w'.heap[b6]? = some (.cells (kc X q3).toArray tC (0, 0))) → w'.heap[b6]? = some (.cells (kc X q3).toArray tC (0, 0)) := fun w' hw => hw.2.2
  (repeat (first | refine Zhq ?_ | refine Zhgn ?_ | refine Zhgu ?_ | refine Zhgv ?_))
  refine h_v hS (fun w' hw => r_ia (size := 9) rfl rfl hua rfl (by omega) (by omega)) ?_
  (repeat (first | refine Zhq ?_ | refine Zhgn ?_ | refine Zhgu ?_ | refine Zhgv ?_))
  refine h_v hS (fun w' hw => r_ld rfl rfl (hcx w' hw.1 1 _ rfl)) ?_
  (repeat (first | refine Zhq ?_ | refine Zhgn ?_ | refine Zhgu ?_ | refine Zhgv ?_))
  refine h_call (us := []) (zs := []) (by kernel_rfl) rfl rfl (needF G.at_ _ x.f 8) ?_
  rintro _ w7 ⟨rfl, k7⟩
  have G := (G.no k7).mv (Sk.need (G.no k7).at_ (kd != 4) x.f 8)
  have h0 := G.blk 0 rfl; try have h1 := G.blk 1 rfl; try have h2 := G.blk 2 rfl; try have h3 := G.blk 3 rfl; try have h4 := G.blk 4 rfl; try have h5 := G.blk 5 rfl
  refine ⟨fun _ => ⟨G.at_.k0, h2, h0⟩, ?_⟩
  refine h_st (vs := kc X (needQ (kd != 4) x.f 8 q3)) rfl rfl rfl rfl rfl h1 (Nat.le_of_ble_eq_true rfl) (fun w8 s8 => ?_)
  have s8 : Sb w7 b2 (kc X (needQ (kd != 4) x.f 8 q3)) tC w8 := s8
  have G := G.put 1 rfl s8 rfl
  have h0 := G.blk 0 rfl; try have h1 := G.blk 1 rfl; try have h2 := G.blk 2 rfl; try have h3 := G.blk 3 rfl; try have h4 := G.blk 4 rfl; try have h5 := G.blk 5 rfl
  have hS := And.intro G.at_.k0 (And.intro h2 h0)
  refine ⟨fun _ => hS, ?_⟩
  (repeat (first | refine Zhq ?_ | refine Zhgn ?_ | refine Zhgu ?_ | refine Zhgv ?_))
  refine h_nil ?_
  (repeat refine Zlr ?_)
  exact ret_c2 rfl (rv_agw rfl h1 rfl rfl) (rv_t rfl) ⟨_, kd, rfl, G.sg, e3.trans (Er.need (by decide)), fun h0 r hr => ⟨(need_c (by decide)).2 ⟨(l3 h0 r hr).1, by rw [(l3 h0 r hr).2]; exact bne_iff_ne.2 (lit_ne hr)⟩, (l3 h0 r hr).2⟩⟩
set_option maxHeartbeats 3000000 in
theorem exprF : ∀ (i : Nat) {w : World} {q : Kq}, Ak X w q → i < X.S.ex.length → Ret Try.prog 63 [kv X q, .int .i64 (i : Int)] w (ExS X w q i) := by
  intro i
  induction i using Nat.strongRecOn with
  | ind i ih =>
  intro w0 q h hi
  obtain ⟨x, hx⟩ : ∃ x, X.S.ex[i]? = some x := ⟨_, List.getElem?_eq_getElem hi⟩
  obtain ⟨hprt, hnm, hop9⟩ := h.pg.ex i x hx
  have IH : ∀ j ∈ prt x, ∀ {w : World} {q : Kq}, Ak X w q → Ret Try.prog 60 [kv X q, .int .i64 j] w (ExS X w q j) := by
    intro j hj w q hA
    obtain ⟨h1, h2⟩ := hprt j hj
    have e : j = (j.toNat : Int) := by omega
    rw [e]
    exact valueF hA (by omega) fun w q hA => ih _ (by omega) hA (by omega)
  have hi0 : 0 + (i : Int).toNat * 1 = i := by omega
  obtain ⟨g, lv, hga, hgn, hli, hcx⟩ := h.ex hx
  have hua : Value.slice X.ux.a X.ux.n X.ux.c = .slice (some ⟨g, 0, none⟩) X.ux.n X.ux.c := by rw [hga]
  obtain ⟨la, lc, rfl, hlat⟩ := li_at hli
  refine ret_enter Try.func63 rfl Try.ntmps63 rfl ?_
  (repeat refine Zlr ?_)
  refine s_box (cs := kc X q) rfl rfl (fun b w1 n => ?_)
  have G := (Wk.start h).new n
  (repeat refine Zlr ?_)
  refine s_al rfl (fun b2 w2 n2 => ?_)
  have G := G.new n2
  have h0 := G.blk 0 rfl; try have h1 := G.blk 1 rfl; try have h2 := G.blk 2 rfl; try have h3 := G.blk 3 rfl; try have h4 := G.blk 4 rfl; try have h5 := G.blk 5 rfl
  (repeat refine Zlr ?_)
  refine c_b rfl (fun hc => ?_) (fun hc => ?_)
  · (repeat refine Zlr ?_)
    refine s_stw (vs := kc X q) rfl rfl rfl rfl rfl h0 rfl (fun w3 s3 => ?_)
    have G := G.put 0 rfl s3 rfl
    have h0 := G.blk 0 rfl; try have h1 := G.blk 1 rfl; try have h2 := G.blk 2 rfl; try have h3 := G.blk 3 rfl; try have h4 := G.blk 4 rfl; try have h5 := G.blk 5 rfl
    (repeat refine Zlr ?_)
    exact ret_c2 rfl (rv_agw rfl h0 rfl rfl) (rv_t rfl) ⟨q, 1, rfl, G.sg, Er.refl q, fun h0 => absurd h0 (by simpa using hc)⟩
  refine k_skip ?_
  refine k_n ?_
  (repeat refine Zlr ?_)
  refine s_v (r_ia (size := 9) rfl rfl hua rfl (by omega) (by omega)) ?_
  refine s_v (r_lda (n := 9) (vs := exC (x, .slice la x.l.length lc)) rfl rfl rfl rfl (cells_ofc rfl fun j u hj => hcx _ G.at_.k0 j u hj)) ?_
  (repeat refine Zlr ?_)
  refine s_al rfl (fun b6 w3 n3 => ?_)
  have G := G.new n3
  have h0 := G.blk 0 rfl; try have h1 := G.blk 1 rfl; try have h2 := G.blk 2 rfl; try have h3 := G.blk 3 rfl; try have h4 := G.blk 4 rfl; try have h5 := G.blk 5 rfl
  (repeat refine Zlr ?_)
  refine s_stw (vs := exC (x, .slice la x.l.length lc)) rfl rfl rfl rfl rfl h0 rfl (fun w4 s4 => ?_)
  have G := G.put 0 rfl s4 rfl
  have h0 := G.blk 0 rfl; try have h1 := G.blk 1 rfl; try have h2 := G.blk 2 rfl; try have h3 := G.blk 3 rfl; try have h4 := G.blk 4 rfl; try have h5 := G.blk 5 rfl
  (repeat (first | refine k_nil ?_ | refine k_n ?_ | refine k_r ?_ | refine k_x ?_ | refine b_n ?_ | refine b_r ?_ | refine b_y rfl ?_ | refine b_z rfl ?_ | refine l_r ?_ | refine l_x ?_ | refine k_seq ?_ | refine k_blk ?_ | refine k_ret ?_ | refine k_exit ?_ | refine k_skip ?_ | refine Zs ?_ | refine Zl ?_))
  refine k_reg ?_
  (repeat (first | refine k_nil ?_ | refine k_n ?_ | refine k_r ?_ | refine k_x ?_ | refine b_n ?_ | refine b_r ?_ | refine b_y rfl ?_ | refine b_z rfl ?_ | refine l_r ?_ | refine l_x ?_ | refine k_seq ?_ | refine k_blk ?_ | refine k_ret ?_ | refine k_exit ?_ | refine k_skip ?_ | refine Zs ?_ | refine Zl ?_))
  refine k_reg ?_
  (repeat (first | refine k_nil ?_ | refine k_n ?_ | refine k_r ?_ | refine k_x ?_ | refine b_n ?_ | refine b_r ?_ | refine b_y rfl ?_ | refine b_z rfl ?_ | refine l_r ?_ | refine l_x ?_ | refine k_seq ?_ | refine k_blk ?_ | refine k_ret ?_ | refine k_exit ?_ | refine k_skip ?_ | refine Zs ?_ | refine Zl ?_))
  refine k_reg ?_
  (repeat (first | refine Zs ?_ | refine Zl ?_))
  refine k_nil ?_
  refine k_n ?_
  obtain ⟨cs2, hcs, hG⟩ : ∃ cs2 : List Value, cs2.length = 14 ∧ Wk X w0 q _ q [(b6, exC (x, .slice la x.l.length lc), 146), (b2, cs2, tC), (b, kc X q, tC)] := ⟨_, rfl, G⟩
  clear G h0 h1 h2
  have G := hG
  clear hG n n2 n3 s4
  have h0 := G.blk 0 rfl; try have h1 := G.blk 1 rfl; try have h2 := G.blk 2 rfl; try have h3 := G.blk 3 rfl; try have h4 := G.blk 4 rfl; try have h5 := G.blk 5 rfl
  refine k_cutc (σ := Kq × Int) (fun t => [(1, .int .i64 (i : Int)), (2, .pointer (some ⟨b, 0, none⟩)), (4, .pointer (some ⟨b2, 0, none⟩)), (7, .int .i64 t.2)])
    (fun t w' => ∃ cs, cs.length = 14 ∧ Wk X w0 q w' t.1 [(b2, cs, tC), (b, kc X t.1, tC)] ∧ Er q t.1 ∧ (q.c = 0 → ∀ r, lit X.S i = some r → t.1.c = 0 ∧ t.2 = r)) ?_ ?_
  · (repeat refine Zlr ?_)
    refine k_cs 44 rfl (fun hk => ?_) (fun hk1 => ?_)
    · refine c_t rfl ?_
      (repeat refine Zlr ?_)
      refine c_t rfl ?_
      (repeat refine Zlr ?_)
      exact l_cut (q, 1) ⟨rfl, rfl, rfl, rfl, trivial⟩ ⟨_, hcs, G.drop 1, Er.refl q, fun h0 r hr => ⟨h0, lit_1 hx (.inl (beq_iff_eq.1 hk)) hr⟩⟩
    refine c_f rfl ?_
    (repeat refine Zlr ?_)
    refine c_b rfl (fun hk => ?_) (fun hk7 => ?_)
    · (repeat refine Zlr ?_)
      exact l_cut (q, 1) ⟨rfl, rfl, rfl, rfl, trivial⟩ ⟨_, hcs, G.drop 1, Er.refl q, fun h0 r hr => ⟨h0, lit_1 hx (.inr (beq_iff_eq.1 hk)) hr⟩⟩
    (repeat refine Zlr ?_)
    refine c_b rfl (fun hk => ?_) (fun hk4 => ?_)
    · have hk : x.k = 4 := beq_iff_eq.1 hk
      have nl := nlit hx (by omega)
      (repeat refine Zlr ?_)
      refine s_call (us := []) (zs := []) (by kernel_rfl) rfl rfl (slotF G.at_ x.nm false x.f (hnm (by omega))) ?_
      rintro _ w ⟨rfl, k⟩
      have G := G.no k
      have hfi : 0 ≤ findA x.nm q.k.nm (-1) → _ := G.at_.find (s := x.nm)
      have G := G.mv (Sk.need G.at_ (slotB q x.nm false) x.f 6)
      obtain ⟨q3, hq2⟩ : ∃ t, needQ (slotB q x.nm false) x.f 6 q = t := ⟨_, rfl⟩
      obtain ⟨z, hz⟩ : ∃ t, findA x.nm q.k.nm (-1) = t := ⟨_, rfl⟩
      have e2 : Er q q3 := by rw [← hq2]; exact Er.need (by decide)
      have hz2 : q3.c = 0 → 0 ≤ z ∧ z.toNat < (slo q3.f q3.k).length := by
        intro hc
        rw [e2.f, e2.k]
        rw [← hq2] at hc
        obtain ⟨_, h2⟩ := (need_c (by decide)).1 hc
        have h3 : 0 ≤ findA x.nm q.k.nm (-1) := by
          unfold slotB at h2
          rw [Bool.and_eq_true] at h2
          exact of_decide_eq_true h2.1
        rw [← hz]
        exact ⟨h3, hfi h3⟩
      rw [hq2] at G ⊢
      rw [hz]
      clear hq2 hz
      have h0 := G.blk 0 rfl; try have h1 := G.blk 1 rfl; try have h2 := G.blk 2 rfl; try have h3 := G.blk 3 rfl; try have h4 := G.blk 4 rfl; try have h5 := G.blk 5 rfl
      (repeat refine Zlr ?_)
      refine s_al rfl (fun b9 w n => ?_)
      have G := G.new n
      have h0 := G.blk 0 rfl; try have h1 := G.blk 1 rfl; try have h2 := G.blk 2 rfl; try have h3 := G.blk 3 rfl; try have h4 := G.blk 4 rfl; try have h5 := G.blk 5 rfl
      (repeat refine Zlr ?_)
      refine s_stw (vs := kc X q3) rfl rfl rfl rfl rfl h0 rfl (fun w s => ?_)
      have G := G.put 0 rfl s rfl
      have h0 := G.blk 0 rfl; try have h1 := G.blk 1 rfl; try have h2 := G.blk 2 rfl; try have h3 := G.blk 3 rfl; try have h4 := G.blk 4 rfl; try have h5 := G.blk 5 rfl
      (repeat refine Zlr ?_)
      refine s_stw (vs := kc X q3) rfl rfl rfl rfl rfl h3 rfl (fun w s => ?_)
      have G := G.put 3 rfl s rfl
      have h0 := G.blk 0 rfl; try have h1 := G.blk 1 rfl; try have h2 := G.blk 2 rfl; try have h3 := G.blk 3 rfl; try have h4 := G.blk 4 rfl; try have h5 := G.blk 5 rfl
      (repeat refine Zlr ?_)
      refine c_b rfl (fun hc3 => ?_) (fun hc3 => ?_)
      · obtain ⟨hz0, hzl⟩ := hz2 (beq_iff_eq.1 hc3)
        obtain ⟨sb, sl, ha, hn, hv, hsl, hc1, hln, hcs'⟩ := G.at_.slots
        have hsa : Value.slice X.so.a X.so.n X.so.c = .slice (some ⟨sb, 0, none⟩) X.so.n X.so.c := by rw [ha]
        obtain ⟨y, hy⟩ : ∃ y, (slo q3.f q3.k)[z.toNat]? = some y := ⟨_, List.getElem?_eq_getElem hzl⟩
        obtain ⟨ib, hia, hic⟩ := hcs' _ _ hy
        rw [show ((z.toNat : Nat) : Int).toNat = z.toNat by omega] at hic
        have hia' : Value.slice sl.a sl.n sl.c = .slice (some ⟨ib, 0, none⟩) sl.n sl.c := by rw [hia]
        have hff := G.at_.ff
        (repeat refine Zlr ?_)
        refine s_v (r_ia rfl rfl hsa rfl (by omega) (by omega)) ?_
        (repeat refine Zlr ?_)
        refine s_v (r_ia rfl rfl hia' rfl (by omega) (by omega)) ?_
        (repeat refine Zlr ?_)
        obtain ⟨tg, cur, hta, htn, htb, htl⟩ := tab_at G.at_.sl hi
        have hts : Value.slice X.sl.a X.sl.n X.sl.c = .slice (some ⟨tg, 0, none⟩) X.sl.n X.sl.c := by rw [hta]
        (repeat refine Zlr ?_)
        refine s_v (r_ia rfl rfl hts rfl (by omega) (by omega)) ?_
        (repeat refine Zlr ?_)
        refine s_st (vs := [.int .i64 z]) rfl rfl rfl rfl rfl htb (by rw [hi0]; exact htl) (fun w s => ?_)
        rw [hi0] at s
        have s : Sb _ tg (cur.set i (.int .i64 z)) tInt w := s
        have G := G.call (Sk.tab G.at_ (.inr <| .inl <| congrArg Value.ownBlock hts) htb s)
        have h0 := G.blk 0 rfl; try have h1 := G.blk 1 rfl; try have h2 := G.blk 2 rfl; try have h3 := G.blk 3 rfl; try have h4 := G.blk 4 rfl; try have h5 := G.blk 5 rfl
        (repeat refine Zlr ?_)
        exact l_cut (q3, y) ⟨rfl, rfl, rfl, rfl, trivial⟩ ⟨_, hcs, G.drop 2, e2, fun _ r hr => (nl r hr).elim⟩
      · (repeat refine Zlr ?_)
        exact l_cut (q3, 2) ⟨rfl, rfl, rfl, rfl, trivial⟩ ⟨_, hcs, G.drop 2, e2, fun _ r hr => (nl r hr).elim⟩
    (repeat refine Zlr ?_)
    refine c_b rfl (fun hk => ?_) (fun hk5 => ?_)
    · have hk : x.k = 5 := beq_iff_eq.1 hk
      have nl := nlit hx (by omega)
      have hpa : x.a ∈ prt x := by unfold prt; rw [if_pos (.inl hk)]; exact List.mem_singleton_self _
      (repeat refine Zlr ?_)
      refine s_call (us := []) (zs := []) (by kernel_rfl) rfl rfl (IH x.a hpa G.at_) ?_
      rintro _ w ⟨q3, a, rfl, g, e3, _⟩
      have G := G.call g
      have h0 := G.blk 0 rfl; try have h1 := G.blk 1 rfl; try have h2 := G.blk 2 rfl; try have h3 := G.blk 3 rfl; try have h4 := G.blk 4 rfl; try have h5 := G.blk 5 rfl
      (repeat refine Zlr ?_)
      refine s_al rfl (fun b9 w n => ?_)
      have G := G.new n
      have h0 := G.blk 0 rfl; try have h1 := G.blk 1 rfl; try have h2 := G.blk 2 rfl; try have h3 := G.blk 3 rfl; try have h4 := G.blk 4 rfl; try have h5 := G.blk 5 rfl
      (repeat refine Zlr ?_)
      refine s_stw (vs := kc X q3) rfl rfl rfl rfl rfl h0 rfl (fun w s => ?_)
      have G := G.put 0 rfl s rfl
      have h0 := G.blk 0 rfl; try have h1 := G.blk 1 rfl; try have h2 := G.blk 2 rfl; try have h3 := G.blk 3 rfl; try have h4 := G.blk 4 rfl; try have h5 := G.blk 5 rfl
      (repeat refine Zlr ?_)
      (repeat refine Zlr ?_)
      refine s_call (us := []) (zs := []) (by kernel_rfl) rfl rfl (slotF G.at_ x.nm true x.f (hnm (by omega))) ?_
      rintro _ w ⟨rfl, k⟩
      have G := G.no k
      have hfi : 0 ≤ findA x.nm q3.k.nm (-1) → _ := G.at_.find (s := x.nm)
      have G := G.mv (Sk.need G.at_ (slotB q3 x.nm true) x.f 6)
      obtain ⟨q4, hq2⟩ : ∃ t, needQ (slotB q3 x.nm true) x.f 6 q3 = t := ⟨_, rfl⟩
      obtain ⟨z, hz⟩ : ∃ t, findA x.nm q3.k.nm (-1) = t := ⟨_, rfl⟩
      have e2 : Er q3 q4 := by rw [← hq2]; exact Er.need (by decide)
      have hz2 : q4.c = 0 → 0 ≤ z ∧ z.toNat < (slo q4.f q4.k).length := by
        intro hc
        rw [e2.f, e2.k]
        rw [← hq2] at hc
        obtain ⟨_, h2⟩ := (need_c (by decide)).1 hc
        have h3 : 0 ≤ findA x.nm q3.k.nm (-1) := by
          unfold slotB at h2
          rw [Bool.and_eq_true] at h2
          exact of_decide_eq_true h2.1
        rw [← hz]
        exact ⟨h3, hfi h3⟩
      rw [hq2] at G ⊢
      rw [hz]
      clear hq2 hz
      have h0 := G.blk 0 rfl; try have h1 := G.blk 1 rfl; try have h2 := G.blk 2 rfl; try have h3 := G.blk 3 rfl; try have h4 := G.blk 4 rfl; try have h5 := G.blk 5 rfl
      (repeat refine Zlr ?_)
      refine s_al rfl (fun b10 w n => ?_)
      have G := G.new n
      have h0 := G.blk 0 rfl; try have h1 := G.blk 1 rfl; try have h2 := G.blk 2 rfl; try have h3 := G.blk 3 rfl; try have h4 := G.blk 4 rfl; try have h5 := G.blk 5 rfl
      (repeat refine Zlr ?_)
      refine s_stw (vs := kc X q4) rfl rfl rfl rfl rfl h0 rfl (fun w s => ?_)
      have G := G.put 0 rfl s rfl
      have h0 := G.blk 0 rfl; try have h1 := G.blk 1 rfl; try have h2 := G.blk 2 rfl; try have h3 := G.blk 3 rfl; try have h4 := G.blk 4 rfl; try have h5 := G.blk 5 rfl
      (repeat refine Zlr ?_)
      (repeat refine Zlr ?_)
      refine s_call (us := []) (zs := []) (by kernel_rfl) rfl rfl (needF G.at_ (a == 1) x.f 8) ?_
      rintro _ w ⟨rfl, k⟩
      have G := (G.no k).mv (Sk.need (G.no k).at_ (a == 1) x.f 8)
      obtain ⟨q5, hq2⟩ : ∃ t, needQ (a == 1) x.f 8 q4 = t := ⟨_, rfl⟩
      have en : Er q4 q5 := by rw [← hq2]; exact Er.need (by decide)
      rw [hq2] at G ⊢
      have h0 := G.blk 0 rfl; try have h1 := G.blk 1 rfl; try have h2 := G.blk 2 rfl; try have h3 := G.blk 3 rfl; try have h4 := G.blk 4 rfl; try have h5 := G.blk 5 rfl
      (repeat refine Zlr ?_)
      refine s_stw (vs := kc X q5) rfl rfl rfl rfl rfl h4 rfl (fun w s => ?_)
      have G := G.put 4 rfl s rfl
      have h0 := G.blk 0 rfl; try have h1 := G.blk 1 rfl; try have h2 := G.blk 2 rfl; try have h3 := G.blk 3 rfl; try have h4 := G.blk 4 rfl; try have h5 := G.blk 5 rfl
      (repeat refine Zlr ?_)
      obtain ⟨tg, cur, hta, htn, htb, htl⟩ := tab_at G.at_.sl hi
      have hts : Value.slice X.sl.a X.sl.n X.sl.c = .slice (some ⟨tg, 0, none⟩) X.sl.n X.sl.c := by rw [hta]
      (repeat refine Zlr ?_)
      refine s_v (r_ia rfl rfl hts rfl (by omega) (by omega)) ?_
      (repeat refine Zlr ?_)
      refine s_st (vs := [.int .i64 z]) rfl rfl rfl rfl rfl htb (by rw [hi0]; exact htl) (fun w s => ?_)
      rw [hi0] at s
      have s : Sb _ tg (cur.set i (.int .i64 z)) tInt w := s
      have G := G.call (Sk.tab G.at_ (.inr <| .inl <| congrArg Value.ownBlock hts) htb s)
      have h0 := G.blk 0 rfl; try have h1 := G.blk 1 rfl; try have h2 := G.blk 2 rfl; try have h3 := G.blk 3 rfl; try have h4 := G.blk 4 rfl; try have h5 := G.blk 5 rfl
      (repeat refine Zlr ?_)
      exact l_cut (q5, 1) ⟨rfl, rfl, rfl, rfl, trivial⟩ ⟨_, hcs, G.drop 3, (e3.trans e2).trans en, fun _ r hr => (nl r hr).elim⟩
    (repeat refine Zlr ?_)
    refine c_b rfl (fun hk => ?_) (fun hk6 => ?_)
    · have hk : x.k = 6 := beq_iff_eq.1 hk
      have nl := nlit hx (by omega)
      have hpl : prt x = x.l := by unfold prt; rw [if_neg (by omega), if_neg (by omega), if_pos hk]
      have hll : x.l.length ≤ 9223372036854775807 := by have := own_mx hli; unfold maxLen at this; omega
      (repeat refine Zlr ?_)
      refine k_loop (σ := Kq × Bool × Nat) (fun t => [(1, .int .i64 (i : Int)), (2, .pointer (some ⟨b, 0, none⟩)), (4, .pointer (some ⟨b2, 0, none⟩)), (6, .pointer (some ⟨b6, 0, none⟩)), (7, .int .i64 2), (8, .int .i64 x.f), (15, .bool t.2.1), (109, .int .i64 (x.l.length : Int)), (110, .int .i64 (t.2.2 : Int))])
        (fun t w' => t.2.2 ≤ x.l.length ∧ Wk X w0 q w' t.1 [(b6, exC (x, .slice la x.l.length lc), 146), (b2, cs2, tC), (b, kc X t.1, tC)] ∧ Er q t.1) (fun t => x.l.length - t.2.2) (q, true, 0) ⟨rfl, rfl, rfl, rfl, rfl, rfl, rfl, rfl, rfl, trivial⟩ ⟨Nat.zero_le _, G, Er.refl q⟩ ?_
      clear G h0 h1 h2
      rintro ⟨q3, ac, k⟩ l w3 ⟨hk0, G, e3⟩
      simp only at hk0 G e3
      try dsimp only
      have h0 := G.blk 0 rfl; try have h1 := G.blk 1 rfl; try have h2 := G.blk 2 rfl; try have h3 := G.blk 3 rfl; try have h4 := G.blk 4 rfl; try have h5 := G.blk 5 rfl
      (repeat refine Zlr ?_)
      refine c_dec rfl (fun hlt => ?_) (fun hge => ?_)
      · have hlt : k < x.l.length := by omega
        obtain ⟨j, hj⟩ : ∃ j, x.l[k]? = some j := ⟨_, List.getElem?_eq_getElem hlt⟩
        obtain ⟨lg, hla, hlc⟩ := hlat k j hj
        have hls : Value.slice la x.l.length lc = .slice (some ⟨lg, 0, none⟩) x.l.length lc := by rw [hla]
        have hjm : j ∈ prt x := by rw [hpl]; exact List.mem_of_getElem? hj
        (repeat refine Zlr ?_)
        refine k_cutc (σ := Kq × Int × Nat) (fun t => [(1, .int .i64 (i : Int)), (2, .pointer (some ⟨b, 0, none⟩)), (4, .pointer (some ⟨b2, 0, none⟩)), (6, .pointer (some ⟨b6, 0, none⟩)), (7, .int .i64 2), (8, .int .i64 x.f), (15, .bool ac), (109, .int .i64 (x.l.length : Int)), (110, .int .i64 (k : Int)), (17, .pointer (some ⟨t.2.2, 0, none⟩)), (18, .int .i64 t.2.1)])
          (fun t w' => Wk X w0 q w' t.1 [(t.2.2, kc X t.1, tC), (b6, exC (x, .slice la x.l.length lc), 146), (b2, cs2, tC), (b, kc X q3, tC)] ∧ Er q3 t.1) ?_ ?_
        · refine k_ht (fun w' => Kp No X.w w' ∧ w'.heap[b]? = some (.cells (kc X q3).toArray tC (0, 0)) ∧ w'.heap[b6]? = some (.cells (exC (x, .slice la x.l.length lc)).toArray 146 (0, 0))) 99 (by kernel_rfl) (fun w4 k4 _ => ?_)
          have G := G.no k4
          have h0 := G.blk 0 rfl; try have h1 := G.blk 1 rfl; try have h2 := G.blk 2 rfl; try have h3 := G.blk 3 rfl; try have h4 := G.blk 4 rfl; try have h5 := G.blk 5 rfl
          have hS := And.intro G.at_.k0 (And.intro h2 h0)
          refine t_q (i := 0) (by exact waits_of_out (by kernel_rfl)) (by kernel_rfl) rfl (by kernel_rfl) (by kernel_rfl) hS (fun w' hw => r_ldw rfl hw.2.1 rfl rfl) ?_
          refine t_q (i := 1) (by exact waits_of_out (by kernel_rfl)) (by kernel_rfl) rfl (by kernel_rfl) (by kernel_rfl) hS (fun w' hw => r_fa rfl rfl) ?_
          refine t_q (i := 2) (by exact waits_of_out (by kernel_rfl)) (by kernel_rfl) rfl (by kernel_rfl) (by kernel_rfl) hS (fun w' hw => r_ld rfl rfl (cell_of_blk hw.2.2 rfl)) ?_
          refine t_q (i := 3) (by exact waits_of_out (by kernel_rfl)) (by kernel_rfl) rfl (by kernel_rfl) (by kernel_rfl) hS (fun w' hw => r_mv rfl) ?_
          refine t_q (i := 4) (by exact waits_of_out (by kernel_rfl)) (by kernel_rfl) rfl (by kernel_rfl) (by kernel_rfl) hS (fun w' hw => r_ia rfl rfl hls rfl (by omega) (by omega)) ?_
          refine t_q (i := 5) (by exact waits_of_out (by kernel_rfl)) (by kernel_rfl) rfl (by kernel_rfl) (by kernel_rfl) hS (fun w' hw => r_ld rfl rfl (hlc w' hw.1)) ?_
          refine t_2 (i := 6) (i2 := 10) (by kernel_rfl) ?_ ?_
          · refine ts_o (ord := [(7, false), (8, false), (9, false), (10, true), (11, true), (12, false)]) (by exact waits_of_out (by kernel_rfl)) (by kernel_rfl) rfl (by kernel_rfl) rfl rfl ?_
            refine h_call (us := []) (zs := []) (by kernel_rfl) rfl rfl (IH j hjm G.at_) ?_
            rintro _ w5 ⟨q4, a, rfl, g, e4, _⟩
            have G := G.call g
            have h0 := G.blk 0 rfl; try have h1 := G.blk 1 rfl; try have h2 := G.blk 2 rfl; try have h3 := G.blk 3 rfl; try have h4 := G.blk 4 rfl; try have h5 := G.blk 5 rfl
            have hS := And.intro G.at_.k0 (And.intro h2 h0)
            refine ⟨fun _ => hS, ?_⟩
            (repeat (first | refine Zhq ?_ | refine Zhgn ?_ | refine Zhgu ?_ | refine Zhgv ?_))
            refine h_nb (r := fun a => .pointer (some a)) (r_al rfl) (fun b17 w6 n => ?_)
            have G := G.new n
            have h0 := G.blk 0 rfl; try have h1 := G.blk 1 rfl; try have h2 := G.blk 2 rfl; try have h3 := G.blk 3 rfl; try have h4 := G.blk 4 rfl; try have h5 := G.blk 5 rfl
            have hS := And.intro G.at_.k0 (And.intro h3 h1)
            refine ⟨fun _ => hS, ?_⟩
            refine h_st (vs := kc X q4) rfl rfl rfl rfl rfl h0 (Nat.le_of_ble_eq_true rfl) (fun w7 s => ?_)
            have s : Sb _ b17 (kc X q4) tC w7 := s
            have G := G.put 0 rfl s rfl
            have h0 := G.blk 0 rfl; try have h1 := G.blk 1 rfl; try have h2 := G.blk 2 rfl; try have h3 := G.blk 3 rfl; try have h4 := G.blk 4 rfl; try have h5 := G.blk 5 rfl
            have hS := And.intro G.at_.k0 (And.intro h3 h1)
            refine ⟨fun _ => hS, ?_⟩
            (repeat (first | refine Zhq ?_ | refine Zhgn ?_ | refine Zhgu ?_ | refine Zhgv ?_))
            refine h_nil ?_
            exact l_cut (q4, a, b17) ⟨rfl, rfl, rfl, rfl, rfl, rfl, rfl, rfl, rfl, rfl, rfl, trivial⟩ ⟨G, e4⟩
          · refine ts_o (ord := [(6, true), (7, false), (8, false), (9, false), (11, true), (12, false)]) (by exact waits_of_out (by kernel_rfl)) (by kernel_rfl) rfl (by kernel_rfl) rfl rfl ?_
            refine h_nb (r := fun a => .pointer (some a)) (r_al rfl) (fun b17 w6 n => ?_)
            have G := G.new n
            have h0 := G.blk 0 rfl; try have h1 := G.blk 1 rfl; try have h2 := G.blk 2 rfl; try have h3 := G.blk 3 rfl; try have h4 := G.blk 4 rfl; try have h5 := G.blk 5 rfl
            have hS := And.intro G.at_.k0 (And.intro h3 h1)
            refine ⟨fun _ => hS, ?_⟩
            refine h_call (us := []) (zs := []) (by kernel_rfl) rfl rfl (IH j hjm G.at_) ?_
            rintro _ w5 ⟨q4, a, rfl, g, e4, _⟩
            have G := G.call g
            have h0 := G.blk 0 rfl; try have h1 := G.blk 1 rfl; try have h2 := G.blk 2 rfl; try have h3 := G.blk 3 rfl; try have h4 := G.blk 4 rfl; try have h5 := G.blk 5 rfl
            have hS := And.intro G.at_.k0 (And.intro h3 h1)
            refine ⟨fun _ => hS, ?_⟩
            (repeat (first | refine Zhq ?_ | refine Zhgn ?_ | refine Zhgu ?_ | refine Zhgv ?_))
            refine h_st (vs := kc X q4) rfl rfl rfl rfl rfl h0 (Nat.le_of_ble_eq_true rfl) (fun w7 s => ?_)
            have s : Sb _ b17 (kc X q4) tC w7 := s
            have G := G.put 0 rfl s rfl
            have h0 := G.blk 0 rfl; try have h1 := G.blk 1 rfl; try have h2 := G.blk 2 rfl; try have h3 := G.blk 3 rfl; try have h4 := G.blk 4 rfl; try have h5 := G.blk 5 rfl
            have hS := And.intro G.at_.k0 (And.intro h3 h1)
            refine ⟨fun _ => hS, ?_⟩
            (repeat (first | refine Zhq ?_ | refine Zhgn ?_ | refine Zhgu ?_ | refine Zhgv ?_))
            refine h_nil ?_
            exact l_cut (q4, a, b17) ⟨rfl, rfl, rfl, rfl, rfl, rfl, rfl, rfl, rfl, rfl, rfl, trivial⟩ ⟨G, e4⟩
        · clear G h0 h1 h2
          rintro ⟨q4, a, b17⟩ l w4 ⟨G, e4⟩
          simp only at G e4
          try dsimp only
          have h0 := G.blk 0 rfl; try have h1 := G.blk 1 rfl; try have h2 := G.blk 2 rfl; try have h3 := G.blk 3 rfl; try have h4 := G.blk 4 rfl; try have h5 := G.blk 5 rfl
          (repeat refine Zlr ?_)
          refine s_stw (vs := kc X q4) rfl rfl rfl rfl rfl h3 rfl (fun w s => ?_)
          have G := G.put 3 rfl s rfl
          have h0 := G.blk 0 rfl; try have h1 := G.blk 1 rfl; try have h2 := G.blk 2 rfl; try have h3 := G.blk 3 rfl; try have h4 := G.blk 4 rfl; try have h5 := G.blk 5 rfl
          (repeat refine Zlr ?_)
          cases ac with
          | true =>
            (repeat (first | refine Zlr ?_ | refine Zn ?_ | refine Zu ?_ | refine Zg ?_ | refine Zgl ?_))
            exact l_next (q4, a == 1, k + 1) ⟨rfl, rfl, rfl, rfl, rfl, rfl, rfl, rfl, rfl, trivial⟩ ⟨hlt, G.drop 1, e3.trans e4⟩ (by show x.l.length - (k + 1) < x.l.length - k; omega)
          | false =>
            (repeat (first | refine Zlr ?_ | refine Zn ?_ | refine Zu ?_ | refine Zg ?_ | refine Zgl ?_))
            exact l_next (q4, false, k + 1) ⟨rfl, rfl, rfl, rfl, rfl, rfl, rfl, rfl, rfl, trivial⟩ ⟨hlt, G.drop 1, e3.trans e4⟩ (by show x.l.length - (k + 1) < x.l.length - k; omega)
      · have hfn := h.fnn
        have hfl := h.pg.fb
        (repeat refine Zlr ?_)
        refine k_loop (σ := Int × Nat) (fun t => [(1, .int .i64 (i : Int)), (2, .pointer (some ⟨b, 0, none⟩)), (4, .pointer (some ⟨b2, 0, none⟩)), (6, .pointer (some ⟨b6, 0, none⟩)), (7, .int .i64 2), (8, .int .i64 x.f), (15, .bool ac), (19, .int .i64 t.1), (133, .int .i64 (X.uf.n : Int)), (134, .int .i64 (t.2 : Int))])
          (fun t w' => (t.2 ≤ X.S.fn.length ∧ -1 ≤ t.1 ∧ t.1 < t.2) ∧ Wk X w0 q w' q3 [(b6, exC (x, .slice la x.l.length lc), 146), (b2, cs2, tC), (b, kc X q3, tC)]) (fun t => X.S.fn.length - t.2) (-1, 0) ⟨rfl, rfl, rfl, rfl, rfl, rfl, rfl, rfl, rfl, rfl, trivial⟩ ⟨⟨Nat.zero_le _, by decide, by decide⟩, G⟩ ?_
        clear G h0 h1 h2
        rintro ⟨f, m⟩ l w4 ⟨⟨hm, hf1, hf2⟩, G⟩
        simp only at hm hf1 hf2
        try dsimp only
        have h0 := G.blk 0 rfl; try have h1 := G.blk 1 rfl; try have h2 := G.blk 2 rfl; try have h3 := G.blk 3 rfl; try have h4 := G.blk 4 rfl; try have h5 := G.blk 5 rfl
        (repeat refine Zlr ?_)
        refine c_dec rfl (fun hlt2 => ?_) (fun hge2 => ?_)
        · have hlt2 : m < X.S.fn.length := by omega
          obtain ⟨y, hy⟩ : ∃ y, X.S.fn[m]? = some y := ⟨_, List.getElem?_eq_getElem hlt2⟩
          obtain ⟨fg, flv, fmv, hfa, _, _, hfc⟩ := h.fn hy
          have hfs : Value.slice X.uf.a X.uf.n X.uf.c = .slice (some ⟨fg, 0, none⟩) X.uf.n X.uf.c := by rw [hfa]
          have hc0 := hfc _ G.at_.k0 0 _ rfl
          (repeat refine Zlr ?_)
          refine k_q (by kernel_rfl) (by kernel_rfl) ?_
          (repeat (first | refine Zq ?_ | refine Zqn ?_ | refine Zqu ?_ | refine Zqg ?_))
          refine q_v (fun w' hw => r_ia (size := 6) rfl rfl hfs rfl (by omega) (by omega)) ?_
          (repeat (first | refine Zq ?_ | refine Zqn ?_ | refine Zqu ?_ | refine Zqg ?_))
          refine q_split 147 rfl (fun _ => ?_) (fun _ => ?_)
          · (repeat (first | refine Zq ?_ | refine Zqn ?_ | refine Zqu ?_ | refine Zqg ?_))
            refine q_nil (fun w5 k5 => ?_)
            have G := G.no k5
            (repeat refine Zlr ?_)
            refine c_b rfl (fun _ => ?_) (fun _ => ?_)
            · (repeat refine Zlr ?_)
              exact l_next ((m : Int), m + 1) ⟨rfl, rfl, rfl, rfl, rfl, rfl, rfl, rfl, rfl, rfl, trivial⟩ ⟨⟨hlt2, by show (-1 : Int) ≤ (m : Int); omega, by show (m : Int) < ((m + 1 : Nat) : Int); omega⟩, G⟩ (by show X.S.fn.length - (m + 1) < X.S.fn.length - m; omega)
            · (repeat refine Zlr ?_)
              exact l_next (f, m + 1) ⟨rfl, rfl, rfl, rfl, rfl, rfl, rfl, rfl, rfl, rfl, trivial⟩ ⟨⟨hlt2, hf1, by show f < ((m + 1 : Nat) : Int); omega⟩, G⟩ (by show X.S.fn.length - (m + 1) < X.S.fn.length - m; omega)
          · (repeat (first | refine Zq ?_ | refine Zqn ?_ | refine Zqu ?_ | refine Zqg ?_))
            refine q_nil (fun w5 k5 => ?_)
            have G := G.no k5
            (repeat refine Zlr ?_)
            refine c_f rfl ?_
            (repeat refine Zlr ?_)
            exact l_next (f, m + 1) ⟨rfl, rfl, rfl, rfl, rfl, rfl, rfl, rfl, rfl, rfl, trivial⟩ ⟨⟨hlt2, hf1, by show f < ((m + 1 : Nat) : Int); omega⟩, G⟩ (by show X.S.fn.length - (m + 1) < X.S.fn.length - m; omega)
        · (repeat refine Zlr ?_)
          refine s_call (us := []) (zs := []) (by kernel_rfl) rfl rfl (needE G.at_ _ x.f 6 (by decide)) ?_
          rintro _ w5 ⟨q4, rfl, g, e4, hok⟩
          have G := G.call g
          have h0 := G.blk 0 rfl; try have h1 := G.blk 1 rfl; try have h2 := G.blk 2 rfl; try have h3 := G.blk 3 rfl; try have h4 := G.blk 4 rfl; try have h5 := G.blk 5 rfl
          (repeat refine Zlr ?_)
          refine s_stw (vs := kc X q4) rfl rfl rfl rfl rfl h2 rfl (fun w s => ?_)
          have G := G.put 2 rfl s rfl
          have h0 := G.blk 0 rfl; try have h1 := G.blk 1 rfl; try have h2 := G.blk 2 rfl; try have h3 := G.blk 3 rfl; try have h4 := G.blk 4 rfl; try have h5 := G.blk 5 rfl
          (repeat refine Zlr ?_)
          refine c_b rfl (fun hc4 => ?_) (fun hc4 => ?_)
          · have hf0 : 0 ≤ f := of_decide_eq_true (hok.1 (beq_iff_eq.1 hc4))
            have hff : f.toNat < X.S.fn.length := by omega
            obtain ⟨y, hy⟩ : ∃ y, X.S.fn[f.toNat]? = some y := ⟨_, List.getElem?_eq_getElem hff⟩
            obtain ⟨fg, flv, fmv, hfa, hfl2, _, hfc⟩ := h.fn hy
            rw [show ((f.toNat : Nat) : Int).toNat = f.toNat by omega] at hfc
            obtain ⟨pa, pc, rfl, _⟩ := own_read hfl2
            have hfs : Value.slice X.uf.a X.uf.n X.uf.c = .slice (some ⟨fg, 0, none⟩) X.uf.n X.uf.c := by rw [hfa]
            (repeat refine Zlr ?_)
            refine k_cutc (σ := Kq) (fun t => [(1, .int .i64 (i : Int)), (2, .pointer (some ⟨b, 0, none⟩)), (4, .pointer (some ⟨b2, 0, none⟩)), (6, .pointer (some ⟨b6, 0, none⟩)), (7, .int .i64 2), (8, .int .i64 x.f), (19, .int .i64 f)]) (fun t w' => Wk X w0 q w' t [(b6, exC (x, .slice la x.l.length lc), 146), (b2, cs2, tC), (b, kc X t, tC)] ∧ Er q4 t) ?_ ?_
            · cases ac with
              | true =>
                refine k_h (fun w' => Kp No X.w w' ∧ w'.heap[b]? = some (.cells (kc X q4).toArray tC (0, 0)) ∧ w'.heap[b6]? = some (.cells (exC (x, .slice la x.l.length lc)).toArray 146 (0, 0))) [(0, false), (1, false), (2, false), (3, false), (4, false), (5, false), (6, false), (7, false), (8, false), (9, false), (10, false), (11, false), (12, false), (13, false), (14, false), (15, false), (16, false), (17, true), (18, true)] 18 (by kernel_rfl) (waits_of_last (by kernel_rfl)) (by kernel_rfl) (by kernel_rfl) (by kernel_rfl) rfl (fun w6 k6 _ => ?_)
                have G := G.no k6
                have h0 := G.blk 0 rfl; try have h1 := G.blk 1 rfl; try have h2 := G.blk 2 rfl; try have h3 := G.blk 3 rfl; try have h4 := G.blk 4 rfl; try have h5 := G.blk 5 rfl
                have hS := And.intro G.at_.k0 (And.intro h2 h0)
                refine h_v hS (fun w' hw => r_ldw rfl hw.2.1 rfl rfl) ?_
                (repeat (first | refine Zhq ?_ | refine Zhgn ?_ | refine Zhgu ?_ | refine Zhgv ?_))
                refine h_gv rfl hS (fun w' hw => r_ld rfl rfl (cell_of_blk hw.2.2 rfl)) ?_
                (repeat (first | refine Zhq ?_ | refine Zhgn ?_ | refine Zhgu ?_ | refine Zhgv ?_))
                refine h_gv rfl hS (fun w' hw => r_ld rfl rfl (cell_of_blk hw.2.1 rfl)) ?_
                (repeat (first | refine Zhq ?_ | refine Zhgn ?_ | refine Zhgu ?_ | refine Zhgv ?_))
                refine h_gv rfl hS (fun w' hw => r_ia (size := 6) rfl rfl hfs rfl (by omega) (by omega)) ?_
                (repeat (first | refine Zhq ?_ | refine Zhgn ?_ | refine Zhgu ?_ | refine Zhgv ?_))
                refine h_gv rfl hS (fun w' hw => r_ld rfl rfl (hfc w' hw.1 3 _ rfl)) ?_
                (repeat (first | refine Zhq ?_ | refine Zhgn ?_ | refine Zhgu ?_ | refine Zhgv ?_))
                refine h_call (us := []) (zs := []) (by kernel_rfl) rfl rfl (needE G.at_ _ x.f 8 (by decide)) ?_
                rintro _ w7 ⟨q5, rfl, g, e5, _⟩
                have G := G.call g
                have h0 := G.blk 0 rfl; try have h1 := G.blk 1 rfl; try have h2 := G.blk 2 rfl; try have h3 := G.blk 3 rfl; try have h4 := G.blk 4 rfl; try have h5 := G.blk 5 rfl
                refine ⟨fun _ => ⟨G.at_.k0, h2, h0⟩, ?_⟩
                refine h_st (vs := kc X q5) rfl rfl rfl rfl rfl h2 (Nat.le_of_ble_eq_true rfl) (fun w8 s => ⟨fun h => (h rfl).elim, ?_⟩)
                have s : Sb w7 b (kc X q5) tC w8 := s
                have G := G.put 2 rfl s rfl
                refine h_nil ?_
                exact l_cut q5 ⟨rfl, rfl, rfl, rfl, rfl, rfl, rfl, trivial⟩ ⟨G, e5⟩
              | false =>
                refine k_h (fun w' => Kp No X.w w' ∧ w'.heap[b]? = some (.cells (kc X q4).toArray tC (0, 0)) ∧ w'.heap[b6]? = some (.cells (exC (x, .slice la x.l.length lc)).toArray 146 (0, 0))) [(0, false), (1, false), (2, false), (3, false), (4, false), (5, false), (6, false), (7, false), (8, false), (9, false), (10, false), (11, false), (12, false), (13, false), (14, false), (15, false), (16, false), (17, true), (18, true)] 18 (by kernel_rfl) (waits_of_last (by kernel_rfl)) (by kernel_rfl) (by kernel_rfl) (by kernel_rfl) rfl (fun w6 k6 _ => ?_)
                have G := G.no k6
                have h0 := G.blk 0 rfl; try have h1 := G.blk 1 rfl; try have h2 := G.blk 2 rfl; try have h3 := G.blk 3 rfl; try have h4 := G.blk 4 rfl; try have h5 := G.blk 5 rfl
                have hS := And.intro G.at_.k0 (And.intro h2 h0)
                refine h_v hS (fun w' hw => r_ldw rfl hw.2.1 rfl rfl) ?_
                (repeat (first | refine Zhq ?_ | refine Zhgn ?_ | refine Zhgu ?_ | refine Zhgv ?_))
                refine h_call (us := []) (zs := []) (by kernel_rfl) rfl rfl (needE G.at_ _ x.f 8 (by decide)) ?_
                rintro _ w7 ⟨q5, rfl, g, e5, _⟩
                have G := G.call g
                have h0 := G.blk 0 rfl; try have h1 := G.blk 1 rfl; try have h2 := G.blk 2 rfl; try have h3 := G.blk 3 rfl; try have h4 := G.blk 4 rfl; try have h5 := G.blk 5 rfl
                refine ⟨fun _ => ⟨G.at_.k0, h2, h0⟩, ?_⟩
                refine h_st (vs := kc X q5) rfl rfl rfl rfl rfl h2 (Nat.le_of_ble_eq_true rfl) (fun w8 s => ⟨fun h => (h rfl).elim, ?_⟩)
                have s : Sb w7 b (kc X q5) tC w8 := s
                have G := G.put 2 rfl s rfl
                refine h_nil ?_
                exact l_cut q5 ⟨rfl, rfl, rfl, rfl, rfl, rfl, rfl, trivial⟩ ⟨G, e5⟩
            · clear G h0 h1 h2
              rintro q5 l w6 ⟨G, e5⟩
              have h0 := G.blk 0 rfl; try have h1 := G.blk 1 rfl; try have h2 := G.blk 2 rfl; try have h3 := G.blk 3 rfl; try have h4 := G.blk 4 rfl; try have h5 := G.blk 5 rfl
              (repeat refine Zlr ?_)
              refine s_v (r_ia (size := 6) rfl rfl hfs rfl (by omega) (by omega)) ?_
              have hc4 := hfc _ G.at_.k0 4 _ rfl
              (repeat refine Zlr ?_)
              obtain ⟨tg, cur, hta, htn, htb, htl⟩ := tab_at G.at_.sl hi
              have hts : Value.slice X.sl.a X.sl.n X.sl.c = .slice (some ⟨tg, 0, none⟩) X.sl.n X.sl.c := by rw [hta]
              (repeat refine Zlr ?_)
              refine s_v (r_ia rfl rfl hts rfl (by omega) (by omega)) ?_
              (repeat refine Zlr ?_)
              refine s_st (vs := [.int .i64 f]) rfl rfl rfl rfl rfl htb (by rw [hi0]; exact htl) (fun w s => ?_)
              rw [hi0] at s
              have s : Sb _ tg (cur.set i (.int .i64 f)) tInt w := s
              have G := G.call (Sk.tab G.at_ (.inr <| .inl <| congrArg Value.ownBlock hts) htb s)
              have h0 := G.blk 0 rfl; try have h1 := G.blk 1 rfl; try have h2 := G.blk 2 rfl; try have h3 := G.blk 3 rfl; try have h4 := G.blk 4 rfl; try have h5 := G.blk 5 rfl
              (repeat refine Zlr ?_)
              exact l_cut (q5, y.ty) ⟨rfl, rfl, rfl, rfl, trivial⟩ ⟨_, hcs, G.drop 1, (e3.trans e4).trans e5, fun _ r hr => (nl r hr).elim⟩
          · (repeat refine Zlr ?_)
            exact l_cut (q4, 2) ⟨rfl, rfl, rfl, rfl, trivial⟩ ⟨_, hcs, G.drop 1, e3.trans e4, fun _ r hr => (nl r hr).elim⟩
    (repeat refine Zlr ?_)
    refine c_b rfl (fun hk => ?_) (fun hk8 => ?_)
    · have hk : x.k = 8 := beq_iff_eq.1 hk
      have nl := nlit hx (by omega)
      have hpa : x.a ∈ prt x := by unfold prt; rw [if_pos (.inr hk)]; exact List.mem_singleton_self _
      (repeat refine Zlr ?_)
      refine s_call (us := []) (zs := []) (by kernel_rfl) rfl rfl (IH x.a hpa G.at_) ?_
      rintro _ w ⟨q3, a, rfl, g, e3, _⟩
      have G := G.call g
      have h0 := G.blk 0 rfl; try have h1 := G.blk 1 rfl; try have h2 := G.blk 2 rfl; try have h3 := G.blk 3 rfl; try have h4 := G.blk 4 rfl; try have h5 := G.blk 5 rfl
      (repeat refine Zlr ?_)
      refine s_al rfl (fun b9 w n => ?_)
      have G := G.new n
      have h0 := G.blk 0 rfl; try have h1 := G.blk 1 rfl; try have h2 := G.blk 2 rfl; try have h3 := G.blk 3 rfl; try have h4 := G.blk 4 rfl; try have h5 := G.blk 5 rfl
      (repeat refine Zlr ?_)
      refine s_stw (vs := kc X q3) rfl rfl rfl rfl rfl h0 rfl (fun w s => ?_)
      have G := G.put 0 rfl s rfl
      have h0 := G.blk 0 rfl; try have h1 := G.blk 1 rfl; try have h2 := G.blk 2 rfl; try have h3 := G.blk 3 rfl; try have h4 := G.blk 4 rfl; try have h5 := G.blk 5 rfl
      (repeat refine Zlr ?_)
      refine s_cs 205 rfl (fun _ => ?_) (fun _ => ?_)
      · (repeat (first | refine Zlr ?_ | refine Zn ?_ | refine Zu ?_ | refine Zg ?_ | refine Zgl ?_))
        refine s_cs 209 rfl (fun _ => ?_) (fun _ => ?_)
        · (repeat (first | refine Zlr ?_ | refine Zn ?_ | refine Zu ?_ | refine Zg ?_ | refine Zgl ?_))
          refine s_call (us := []) (zs := []) (by kernel_rfl) rfl rfl (needE G.at_ _ x.f 8 (by decide)) ?_
          rintro _ w ⟨q4, rfl, g, en, _⟩
          have G := G.call g
          have h0 := G.blk 0 rfl; try have h1 := G.blk 1 rfl; try have h2 := G.blk 2 rfl; try have h3 := G.blk 3 rfl; try have h4 := G.blk 4 rfl; try have h5 := G.blk 5 rfl
          (repeat refine Zlr ?_)
          refine s_stw (vs := kc X q4) rfl rfl rfl rfl rfl h3 rfl (fun w s => ?_)
          have G := G.put 3 rfl s rfl
          have h0 := G.blk 0 rfl; try have h1 := G.blk 1 rfl; try have h2 := G.blk 2 rfl; try have h3 := G.blk 3 rfl; try have h4 := G.blk 4 rfl; try have h5 := G.blk 5 rfl
          (repeat refine Zlr ?_)
          exact l_cut (q4, a) ⟨rfl, rfl, rfl, rfl, trivial⟩ ⟨_, hcs, G.drop 2, e3.trans en, fun _ r hr => (nl r hr).elim⟩
        · (repeat (first | refine Zlr ?_ | refine Zn ?_ | refine Zu ?_ | refine Zg ?_ | refine Zgl ?_))
          refine s_cs 213 rfl (fun _ => ?_) (fun _ => ?_)
          · (repeat (first | refine Zlr ?_ | refine Zn ?_ | refine Zu ?_ | refine Zg ?_ | refine Zgl ?_))
            refine s_call (us := []) (zs := []) (by kernel_rfl) rfl rfl (needE G.at_ _ x.f 8 (by decide)) ?_
            rintro _ w ⟨q4, rfl, g, en, _⟩
            have G := G.call g
            have h0 := G.blk 0 rfl; try have h1 := G.blk 1 rfl; try have h2 := G.blk 2 rfl; try have h3 := G.blk 3 rfl; try have h4 := G.blk 4 rfl; try have h5 := G.blk 5 rfl
            (repeat refine Zlr ?_)
            refine s_stw (vs := kc X q4) rfl rfl rfl rfl rfl h3 rfl (fun w s => ?_)
            have G := G.put 3 rfl s rfl
            have h0 := G.blk 0 rfl; try have h1 := G.blk 1 rfl; try have h2 := G.blk 2 rfl; try have h3 := G.blk 3 rfl; try have h4 := G.blk 4 rfl; try have h5 := G.blk 5 rfl
            (repeat refine Zlr ?_)
            exact l_cut (q4, a) ⟨rfl, rfl, rfl, rfl, trivial⟩ ⟨_, hcs, G.drop 2, e3.trans en, fun _ r hr => (nl r hr).elim⟩
          · (repeat (first | refine Zlr ?_ | refine Zn ?_ | refine Zu ?_ | refine Zg ?_ | refine Zgl ?_))
            refine s_call (us := []) (zs := []) (by kernel_rfl) rfl rfl (needE G.at_ _ x.f 8 (by decide)) ?_
            rintro _ w ⟨q4, rfl, g, en, _⟩
            have G := G.call g
            have h0 := G.blk 0 rfl; try have h1 := G.blk 1 rfl; try have h2 := G.blk 2 rfl; try have h3 := G.blk 3 rfl; try have h4 := G.blk 4 rfl; try have h5 := G.blk 5 rfl
            (repeat refine Zlr ?_)
            refine s_stw (vs := kc X q4) rfl rfl rfl rfl rfl h3 rfl (fun w s => ?_)
            have G := G.put 3 rfl s rfl
            have h0 := G.blk 0 rfl; try have h1 := G.blk 1 rfl; try have h2 := G.blk 2 rfl; try have h3 := G.blk 3 rfl; try have h4 := G.blk 4 rfl; try have h5 := G.blk 5 rfl
            (repeat refine Zlr ?_)
            exact l_cut (q4, a) ⟨rfl, rfl, rfl, rfl, trivial⟩ ⟨_, hcs, G.drop 2, e3.trans en, fun _ r hr => (nl r hr).elim⟩
      · (repeat (first | refine Zlr ?_ | refine Zn ?_ | refine Zu ?_ | refine Zg ?_ | refine Zgl ?_))
        refine s_cs 213 rfl (fun _ => ?_) (fun _ => ?_)
        · (repeat (first | refine Zlr ?_ | refine Zn ?_ | refine Zu ?_ | refine Zg ?_ | refine Zgl ?_))
          refine s_call (us := []) (zs := []) (by kernel_rfl) rfl rfl (needE G.at_ _ x.f 8 (by decide)) ?_
          rintro _ w ⟨q4, rfl, g, en, _⟩
          have G := G.call g
          have h0 := G.blk 0 rfl; try have h1 := G.blk 1 rfl; try have h2 := G.blk 2 rfl; try have h3 := G.blk 3 rfl; try have h4 := G.blk 4 rfl; try have h5 := G.blk 5 rfl
          (repeat refine Zlr ?_)
          refine s_stw (vs := kc X q4) rfl rfl rfl rfl rfl h3 rfl (fun w s => ?_)
          have G := G.put 3 rfl s rfl
          have h0 := G.blk 0 rfl; try have h1 := G.blk 1 rfl; try have h2 := G.blk 2 rfl; try have h3 := G.blk 3 rfl; try have h4 := G.blk 4 rfl; try have h5 := G.blk 5 rfl
          (repeat refine Zlr ?_)
          exact l_cut (q4, a) ⟨rfl, rfl, rfl, rfl, trivial⟩ ⟨_, hcs, G.drop 2, e3.trans en, fun _ r hr => (nl r hr).elim⟩
        · (repeat (first | refine Zlr ?_ | refine Zn ?_ | refine Zu ?_ | refine Zg ?_ | refine Zgl ?_))
          refine s_call (us := []) (zs := []) (by kernel_rfl) rfl rfl (needE G.at_ _ x.f 8 (by decide)) ?_
          rintro _ w ⟨q4, rfl, g, en, _⟩
          have G := G.call g
          have h0 := G.blk 0 rfl; try have h1 := G.blk 1 rfl; try have h2 := G.blk 2 rfl; try have h3 := G.blk 3 rfl; try have h4 := G.blk 4 rfl; try have h5 := G.blk 5 rfl
          (repeat refine Zlr ?_)
          refine s_stw (vs := kc X q4) rfl rfl rfl rfl rfl h3 rfl (fun w s => ?_)
          have G := G.put 3 rfl s rfl
          have h0 := G.blk 0 rfl; try have h1 := G.blk 1 rfl; try have h2 := G.blk 2 rfl; try have h3 := G.blk 3 rfl; try have h4 := G.blk 4 rfl; try have h5 := G.blk 5 rfl
          (repeat refine Zlr ?_)
          exact l_cut (q4, a) ⟨rfl, rfl, rfl, rfl, trivial⟩ ⟨_, hcs, G.drop 2, e3.trans en, fun _ r hr => (nl r hr).elim⟩
    (repeat refine Zlr ?_)
    refine c_b rfl (fun hk => ?_) (fun hk9 => ?_)
    · have hk : x.k = 9 := beq_iff_eq.1 hk
      have nl := nlit hx (by omega)
      have hpx : prt x = [x.a, x.b] := by unfold prt; rw [if_neg (by omega), if_pos hk]
      have hpa : x.a ∈ prt x := by rw [hpx]; exact List.mem_cons_self
      have hpb : x.b ∈ prt x := by rw [hpx]; exact List.mem_cons_of_mem _ (List.mem_singleton_self _)
      have hsz : 0 < (strOfNums x.op).size := by
        have e : (B (strOfNums x.op)).length = (strOfNums x.op).size := B_len _
        rw [B_nums (hop9 hk).1] at e
        have := List.length_pos_iff.2 (hop9 hk).2
        omega
      (repeat refine Zlr ?_)
      refine s_call (us := []) (zs := []) (by kernel_rfl) rfl rfl (IH x.a hpa G.at_) ?_
      rintro _ w ⟨q3, a, rfl, g, e3, _⟩
      have G := G.call g
      have h0 := G.blk 0 rfl; try have h1 := G.blk 1 rfl; try have h2 := G.blk 2 rfl; try have h3 := G.blk 3 rfl; try have h4 := G.blk 4 rfl; try have h5 := G.blk 5 rfl
      (repeat refine Zlr ?_)
      refine s_al rfl (fun b9 w n => ?_)
      have G := G.new n
      have h0 := G.blk 0 rfl; try have h1 := G.blk 1 rfl; try have h2 := G.blk 2 rfl; try have h3 := G.blk 3 rfl; try have h4 := G.blk 4 rfl; try have h5 := G.blk 5 rfl
      (repeat refine Zlr ?_)
      refine s_stw (vs := kc X q3) rfl rfl rfl rfl rfl h0 rfl (fun w s => ?_)
      have G := G.put 0 rfl s rfl
      have h0 := G.blk 0 rfl; try have h1 := G.blk 1 rfl; try have h2 := G.blk 2 rfl; try have h3 := G.blk 3 rfl; try have h4 := G.blk 4 rfl; try have h5 := G.blk 5 rfl
      (repeat refine Zlr ?_)
      (repeat refine Zlr ?_)
      refine s_call (us := []) (zs := []) (by kernel_rfl) rfl rfl (IH x.b hpb G.at_) ?_
      rintro _ w ⟨q4, c, rfl, g, e4, _⟩
      have G := G.call g
      have h0 := G.blk 0 rfl; try have h1 := G.blk 1 rfl; try have h2 := G.blk 2 rfl; try have h3 := G.blk 3 rfl; try have h4 := G.blk 4 rfl; try have h5 := G.blk 5 rfl
      (repeat refine Zlr ?_)
      refine s_al rfl (fun b10 w n => ?_)
      have G := G.new n
      have h0 := G.blk 0 rfl; try have h1 := G.blk 1 rfl; try have h2 := G.blk 2 rfl; try have h3 := G.blk 3 rfl; try have h4 := G.blk 4 rfl; try have h5 := G.blk 5 rfl
      (repeat refine Zlr ?_)
      refine s_stw (vs := kc X q4) rfl rfl rfl rfl rfl h0 rfl (fun w s => ?_)
      have G := G.put 0 rfl s rfl
      have h0 := G.blk 0 rfl; try have h1 := G.blk 1 rfl; try have h2 := G.blk 2 rfl; try have h3 := G.blk 3 rfl; try have h4 := G.blk 4 rfl; try have h5 := G.blk 5 rfl
      (repeat (first | refine k_nil ?_ | refine k_n ?_ | refine k_r ?_ | refine k_x ?_ | refine b_n ?_ | refine b_r ?_ | refine b_y rfl ?_ | refine b_z rfl ?_ | refine l_r ?_ | refine l_x ?_ | refine k_seq ?_ | refine k_blk ?_ | refine k_ret ?_ | refine k_exit ?_ | refine k_skip ?_ | refine Zs ?_ | refine Zl ?_))
      refine k_cutc (σ := Bool) (fun t => [(1, .int .i64 (i : Int)), (2, .pointer (some ⟨b, 0, none⟩)), (4, .pointer (some ⟨b2, 0, none⟩)), (6, .pointer (some ⟨b6, 0, none⟩)), (7, .int .i64 2), (8, .int .i64 x.f), (24, .int .i64 a), (25, .pointer (some ⟨b10, 0, none⟩)), (26, .int .i64 c), (27, .bool t)]) (fun t w' => w' = w) ?_ ?_
      · refine k_reg ?_
        (repeat refine Zlr ?_)
        refine s_cs 240 rfl (fun _ => ?_) (fun _ => ?_)
        · (repeat (first | refine Zlr ?_ | refine Zn ?_ | refine Zu ?_ | refine Zg ?_ | refine Zgl ?_))
          exact l_cut _ ⟨rfl, rfl, rfl, rfl, rfl, rfl, rfl, rfl, rfl, rfl, trivial⟩ rfl
        · (repeat (first | refine Zlr ?_ | refine Zn ?_ | refine Zu ?_ | refine Zg ?_ | refine Zgl ?_))
          exact l_cut _ ⟨rfl, rfl, rfl, rfl, rfl, rfl, rfl, rfl, rfl, rfl, trivial⟩ rfl
      rintro L l w' hw
      rw [hw]
      clear hw w'
      refine k_cut (σ := Bool) (fun t => [(1, .int .i64 (i : Int)), (2, .pointer (some ⟨b, 0, none⟩)), (4, .pointer (some ⟨b2, 0, none⟩)), (6, .pointer (some ⟨b6, 0, none⟩)), (7, .int .i64 2), (8, .int .i64 x.f), (24, .int .i64 a), (25, .pointer (some ⟨b10, 0, none⟩)), (26, .int .i64 c), (27, .bool L), (28, .bool t)]) (fun t w' => w' = w) ?_ ?_
      · refine k_reg ?_
        (repeat refine Zlr ?_)
        refine s_cs 248 rfl (fun _ => ?_) (fun _ => ?_)
        · (repeat (first | refine Zlr ?_ | refine Zn ?_ | refine Zu ?_ | refine Zg ?_ | refine Zgl ?_))
          exact l_cut _ ⟨rfl, rfl, rfl, rfl, rfl, rfl, rfl, rfl, rfl, rfl, rfl, trivial⟩ rfl
        · (repeat (first | refine Zlr ?_ | refine Zn ?_ | refine Zu ?_ | refine Zg ?_ | refine Zgl ?_))
          exact l_cut _ ⟨rfl, rfl, rfl, rfl, rfl, rfl, rfl, rfl, rfl, rfl, rfl, trivial⟩ rfl
      rintro E l2 w' hw
      rw [hw]
      clear hw w'
      refine k_cut (σ := Kq) (fun t => [(1, .int .i64 (i : Int)), (2, .pointer (some ⟨b, 0, none⟩)), (4, .pointer (some ⟨b2, 0, none⟩)), (6, .pointer (some ⟨b6, 0, none⟩)), (7, .int .i64 2), (8, .int .i64 x.f), (27, .bool L), (28, .bool E)]) (fun t w' => Wk X w0 q w' t [(b10, kc X q4, tC), (b9, kc X q3, tC), (b6, exC (x, .slice la x.l.length lc), 146), (b2, cs2, tC), (b, kc X t, tC)] ∧ Er q t) ?_ ?_
      · refine k_reg ?_
        (repeat refine Zlr ?_)
        refine s_cs 257 rfl (fun _ => ?_) (fun _ => ?_)
        · cases E with
          | true =>
            (repeat (first | refine Zlr ?_ | refine Zn ?_ | refine Zu ?_ | refine Zg ?_ | refine Zgl ?_))
            refine s_call (us := []) (zs := []) (by kernel_rfl) rfl rfl (needE G.at_ _ x.f 8 (by decide)) ?_
            rintro _ w ⟨q5, rfl, g, en, _⟩
            have G := G.call g
            have h0 := G.blk 0 rfl; try have h1 := G.blk 1 rfl; try have h2 := G.blk 2 rfl; try have h3 := G.blk 3 rfl; try have h4 := G.blk 4 rfl; try have h5 := G.blk 5 rfl
            (repeat refine Zlr ?_)
            refine s_stw (vs := kc X q5) rfl rfl rfl rfl rfl h4 rfl (fun w s => ?_)
            have G := G.put 4 rfl s rfl
            have h0 := G.blk 0 rfl; try have h1 := G.blk 1 rfl; try have h2 := G.blk 2 rfl; try have h3 := G.blk 3 rfl; try have h4 := G.blk 4 rfl; try have h5 := G.blk 5 rfl
            (repeat refine Zlr ?_)
            exact l_cut q5 ⟨rfl, rfl, rfl, rfl, rfl, rfl, rfl, rfl, trivial⟩ ⟨G, (e3.trans e4).trans en⟩
          | false =>
            cases L with
            | true =>
              (repeat (first | refine Zlr ?_ | refine Zn ?_ | refine Zu ?_ | refine Zg ?_ | refine Zgl ?_))
              refine s_cs 266 rfl (fun _ => ?_) (fun _ => ?_)
              · (repeat (first | refine Zlr ?_ | refine Zn ?_ | refine Zu ?_ | refine Zg ?_ | refine Zgl ?_))
                refine s_call (us := []) (zs := []) (by kernel_rfl) rfl rfl (needE G.at_ _ x.f 8 (by decide)) ?_
                rintro _ w ⟨q5, rfl, g, en, _⟩
                have G := G.call g
                have h0 := G.blk 0 rfl; try have h1 := G.blk 1 rfl; try have h2 := G.blk 2 rfl; try have h3 := G.blk 3 rfl; try have h4 := G.blk 4 rfl; try have h5 := G.blk 5 rfl
                (repeat refine Zlr ?_)
                refine s_stw (vs := kc X q5) rfl rfl rfl rfl rfl h4 rfl (fun w s => ?_)
                have G := G.put 4 rfl s rfl
                have h0 := G.blk 0 rfl; try have h1 := G.blk 1 rfl; try have h2 := G.blk 2 rfl; try have h3 := G.blk 3 rfl; try have h4 := G.blk 4 rfl; try have h5 := G.blk 5 rfl
                (repeat refine Zlr ?_)
                exact l_cut q5 ⟨rfl, rfl, rfl, rfl, rfl, rfl, rfl, rfl, trivial⟩ ⟨G, (e3.trans e4).trans en⟩
              · (repeat (first | refine Zlr ?_ | refine Zn ?_ | refine Zu ?_ | refine Zg ?_ | refine Zgl ?_))
                refine s_call (us := []) (zs := []) (by kernel_rfl) rfl rfl (needE G.at_ _ x.f 8 (by decide)) ?_
                rintro _ w ⟨q5, rfl, g, en, _⟩
                have G := G.call g
                have h0 := G.blk 0 rfl; try have h1 := G.blk 1 rfl; try have h2 := G.blk 2 rfl; try have h3 := G.blk 3 rfl; try have h4 := G.blk 4 rfl; try have h5 := G.blk 5 rfl
                (repeat refine Zlr ?_)
                refine s_stw (vs := kc X q5) rfl rfl rfl rfl rfl h4 rfl (fun w s => ?_)
                have G := G.put 4 rfl s rfl
                have h0 := G.blk 0 rfl; try have h1 := G.blk 1 rfl; try have h2 := G.blk 2 rfl; try have h3 := G.blk 3 rfl; try have h4 := G.blk 4 rfl; try have h5 := G.blk 5 rfl
                (repeat refine Zlr ?_)
                exact l_cut q5 ⟨rfl, rfl, rfl, rfl, rfl, rfl, rfl, rfl, trivial⟩ ⟨G, (e3.trans e4).trans en⟩
            | false =>
              (repeat (first | refine Zlr ?_ | refine Zn ?_ | refine Zu ?_ | refine Zg ?_ | refine Zgl ?_))
              refine s_call (us := []) (zs := []) (by kernel_rfl) rfl rfl (needE G.at_ _ x.f 8 (by decide)) ?_
              rintro _ w ⟨q5, rfl, g, en, _⟩
              have G := G.call g
              have h0 := G.blk 0 rfl; try have h1 := G.blk 1 rfl; try have h2 := G.blk 2 rfl; try have h3 := G.blk 3 rfl; try have h4 := G.blk 4 rfl; try have h5 := G.blk 5 rfl
              (repeat refine Zlr ?_)
              refine s_stw (vs := kc X q5) rfl rfl rfl rfl rfl h4 rfl (fun w s => ?_)
              have G := G.put 4 rfl s rfl
              have h0 := G.blk 0 rfl; try have h1 := G.blk 1 rfl; try have h2 := G.blk 2 rfl; try have h3 := G.blk 3 rfl; try have h4 := G.blk 4 rfl; try have h5 := G.blk 5 rfl
              (repeat refine Zlr ?_)
              exact l_cut q5 ⟨rfl, rfl, rfl, rfl, rfl, rfl, rfl, rfl, trivial⟩ ⟨G, (e3.trans e4).trans en⟩
        · (repeat (first | refine Zlr ?_ | refine Zn ?_ | refine Zu ?_ | refine Zg ?_ | refine Zgl ?_))
          refine s_call (us := []) (zs := []) (by kernel_rfl) rfl rfl (needE G.at_ _ x.f 8 (by decide)) ?_
          rintro _ w ⟨q5, rfl, g, en, _⟩
          have G := G.call g
          have h0 := G.blk 0 rfl; try have h1 := G.blk 1 rfl; try have h2 := G.blk 2 rfl; try have h3 := G.blk 3 rfl; try have h4 := G.blk 4 rfl; try have h5 := G.blk 5 rfl
          (repeat refine Zlr ?_)
          refine s_stw (vs := kc X q5) rfl rfl rfl rfl rfl h4 rfl (fun w s => ?_)
          have G := G.put 4 rfl s rfl
          have h0 := G.blk 0 rfl; try have h1 := G.blk 1 rfl; try have h2 := G.blk 2 rfl; try have h3 := G.blk 3 rfl; try have h4 := G.blk 4 rfl; try have h5 := G.blk 5 rfl
          (repeat refine Zlr ?_)
          exact l_cut q5 ⟨rfl, rfl, rfl, rfl, rfl, rfl, rfl, rfl, trivial⟩ ⟨G, (e3.trans e4).trans en⟩
      rintro q5 l3 w5 ⟨G, e5⟩
      have h0 := G.blk 0 rfl; try have h1 := G.blk 1 rfl; try have h2 := G.blk 2 rfl; try have h3 := G.blk 3 rfl; try have h4 := G.blk 4 rfl; try have h5 := G.blk 5 rfl
      refine k_seq ?_
      refine k_reg ?_
      cases E with
      | true =>
        (repeat (first | refine Zlr ?_ | refine Zn ?_ | refine Zu ?_ | refine Zg ?_ | refine Zgl ?_))
        refine c_f rfl ?_
        (repeat refine Zlr ?_)
        exact l_cut (q5, 2) ⟨rfl, rfl, rfl, rfl, trivial⟩ ⟨_, hcs, G.drop 3, e5, fun _ r hr => (nl r hr).elim⟩
      | false =>
        cases L with
        | true =>
          (repeat (first | refine Zlr ?_ | refine Zn ?_ | refine Zu ?_ | refine Zg ?_ | refine Zgl ?_))
          refine c_f rfl ?_
          (repeat refine Zlr ?_)
          exact l_cut (q5, 2) ⟨rfl, rfl, rfl, rfl, trivial⟩ ⟨_, hcs, G.drop 3, e5, fun _ r hr => (nl r hr).elim⟩
        | false =>
          (repeat (first | refine Zlr ?_ | refine Zn ?_ | refine Zu ?_ | refine Zg ?_ | refine Zgl ?_))
          refine s_gv rfl (r_ix (s := strOfNums x.op) (i := 0) rfl rfl rfl (Int.le_refl 0) (by omega)) ?_
          (repeat (first | refine Zlr ?_ | refine Zn ?_ | refine Zu ?_ | refine Zg ?_ | refine Zgl ?_))
          refine s_cs 293 rfl (fun _ => ?_) (fun _ => ?_)
          · (repeat (first | refine Zlr ?_ | refine Zn ?_ | refine Zu ?_ | refine Zg ?_ | refine Zgl ?_))
            refine s_gv rfl (r_ix (s := strOfNums x.op) (i := 0) rfl rfl rfl (Int.le_refl 0) (by omega)) ?_
            (repeat (first | refine Zlr ?_ | refine Zn ?_ | refine Zu ?_ | refine Zg ?_ | refine Zgl ?_))
            refine c_b rfl (fun _ => ?_) (fun _ => ?_)
            · (repeat refine Zlr ?_)
              exact l_cut (q5, 1) ⟨rfl, rfl, rfl, rfl, trivial⟩ ⟨_, hcs, G.drop 3, e5, fun _ r hr => (nl r hr).elim⟩
            · (repeat refine Zlr ?_)
              exact l_cut (q5, 2) ⟨rfl, rfl, rfl, rfl, trivial⟩ ⟨_, hcs, G.drop 3, e5, fun _ r hr => (nl r hr).elim⟩
          · (repeat (first | refine Zlr ?_ | refine Zn ?_ | refine Zu ?_ | refine Zg ?_ | refine Zgl ?_))
            refine c_f rfl ?_
            (repeat refine Zlr ?_)
            exact l_cut (q5, 2) ⟨rfl, rfl, rfl, rfl, trivial⟩ ⟨_, hcs, G.drop 3, e5, fun _ r hr => (nl r hr).elim⟩
    · (repeat refine Zlr ?_)
      exact l_cut (q, 2) ⟨rfl, rfl, rfl, rfl, trivial⟩ ⟨_, hcs, G.drop 1, Er.refl q, fun h0 r hr => ⟨h0, lit_2 hx (fun e => e.elim (beq_eq_false_iff_ne.1 hk1) (beq_eq_false_iff_ne.1 hk7)) hr⟩⟩
  · clear G h0 h1 h2 hcs
    rintro ⟨q', kd⟩ l w5 ⟨cs, hcs, G, er, hl⟩
    have h0 := G.blk 0 rfl; try have h1 := G.blk 1 rfl; try have h2 := G.blk 2 rfl; try have h3 := G.blk 3 rfl; try have h4 := G.blk 4 rfl; try have h5 := G.blk 5 rfl
    (repeat refine Zlr ?_)
    refine c_b rfl (fun hc3 => ?_) (fun hc3 => ?_)
    · (repeat refine Zlr ?_)
      obtain ⟨tg, cur, hta, htn, htb, htl⟩ := tab_at G.at_.ty hi
      have hts : Value.slice X.ty.a X.ty.n X.ty.c = .slice (some ⟨tg, 0, none⟩) X.ty.n X.ty.c := by rw [hta]
      (repeat refine Zlr ?_)
      refine s_v (r_ia rfl rfl hts rfl (by omega) (by omega)) ?_
      (repeat refine Zlr ?_)
      refine s_st (vs := [.int .i64 kd]) rfl rfl rfl rfl rfl htb (by rw [hi0]; exact htl) (fun w s => ?_)
      rw [hi0] at s
      have s : Sb _ tg (cur.set i (.int .i64 kd)) tInt w := s
      have G := G.call (Sk.tab G.at_ (.inl <| congrArg Value.ownBlock hts) htb s)
      have h0 := G.blk 0 rfl; try have h1 := G.blk 1 rfl; try have h2 := G.blk 2 rfl; try have h3 := G.blk 3 rfl; try have h4 := G.blk 4 rfl; try have h5 := G.blk 5 rfl
      (repeat refine Zlr ?_)
      refine s_stw (vs := kc X q') rfl rfl rfl rfl rfl h0 hcs (fun w6 s6 => ?_)
      have G := G.put 0 rfl s6 rfl
      have h0 := G.blk 0 rfl; try have h1 := G.blk 1 rfl; try have h2 := G.blk 2 rfl; try have h3 := G.blk 3 rfl; try have h4 := G.blk 4 rfl; try have h5 := G.blk 5 rfl
      (repeat refine Zlr ?_)
      exact ret_c2 rfl (rv_agw rfl h0 rfl rfl) (rv_t rfl) ⟨q', kd, rfl, G.sg, er, hl⟩
    · (repeat refine Zlr ?_)
      refine s_stw (vs := kc X q') rfl rfl rfl rfl rfl h0 hcs (fun w6 s6 => ?_)
      have G := G.put 0 rfl s6 rfl
      have h0 := G.blk 0 rfl; try have h1 := G.blk 1 rfl; try have h2 := G.blk 2 rfl; try have h3 := G.blk 3 rfl; try have h4 := G.blk 4 rfl; try have h5 := G.blk 5 rfl
      (repeat refine Zlr ?_)
      exact ret_c2 rfl (rv_agw rfl h0 rfl rfl) (rv_t rfl) ⟨q', kd, rfl, G.sg, er, hl⟩
end
end Go.Proofs.Ytkllhfajldnpoaa.Ck
namespace Go.Proofs.Ytkllhfajldnpoaa.Ck
open Go Go.RowKit Fw Sy Rf
set_option linter.unusedVariables false
set_option maxRecDepth 20000
section
variable {X : Kc} {w w0 w2 : World} {q q0 q1 q2 : Kq}
/-- How deep: blocks, whiles. -/
structure Bd (q : Kq) (n : Nat) : Prop where
  b0 : 0 ≤ q.k.bl
  b1 : q.k.bl + n ≤ 5000
  l0 : 0 ≤ q.k.lo
  l1 : q.k.lo + n ≤ 5000
/-- What a statement keeps. -/
structure Gr (q q' : Kq) : Prop where
  er : q.c ≠ 0 → q'.c ≠ 0
  f : q'.f = q.f
  bl : q'.k.bl = q.k.bl
  lo : q'.k.lo = q.k.lo
  sl : (slo q.f q.k).length ≤ (slo q'.f q'.k).length
theorem Gr.refl (q : Kq) : Gr q q := ⟨fun h => h, rfl, rfl, rfl, Nat.le_refl _⟩
theorem Gr.trans (h : Gr q q1) (k : Gr q1 q2) : Gr q q2 := ⟨fun h0 => k.er (h.er h0), k.f.trans h.f, k.bl.trans h.bl, k.lo.trans h.lo, Nat.le_trans h.sl k.sl⟩
theorem Er.gr (h : Er q q1) : Gr q q1 := ⟨h.er, h.f, by rw [h.k], by rw [h.k], by rw [h.f, h.k]; exact Nat.le_refl _⟩
theorem Gr.c0 (h : Gr q q1) (h0 : q1.c = 0) : q.c = 0 := Decidable.byContradiction fun h1 => h.er h1 h0
theorem Er.c0 (h : Er q q1) (h0 : q1.c = 0) : q.c = 0 := Decidable.byContradiction fun h1 => h.er h1 h0
/-- Another block, other whiles. -/
theorem Sk.deep (A : Ak X w q) (b l : Int) : Sk X w q w { q with k := { q.k with bl := b, lo := l } } := ⟨⟨A.k0, A.tr, A.pg, A.ty, A.sl, A.pu, A.fu, A.so, A.vl, A.kl, A.inn, A.dj, A.di, A.nm, A.nr, A.nb, A.ff, A.sb⟩, Kp.refl _ _, fun _ _ h => h⟩
/-- The names that stood. -/
theorem Sk.names (A : Ak X w q) {m : Sl} {l : List Nm} (o : w.ownsRow X.w.heap.size tName 3 m.v l.length (l.flatMap nmC)) (nr : ∀ e ∈ l, Rgb e.1 ∧ 0 ≤ e.2.2 ∧ e.2.2 < (slo q.f q.k).length) (nb : l.length ≤ (slo q.f q.k).length) :
    Sk X w q w { q with nm := m, k := { q.k with nm := l } } := ⟨⟨A.k0, A.tr, A.pg, A.ty, A.sl, A.pu, A.fu, A.so, A.vl, A.kl, A.inn, A.dj, A.di, o, nr, nb, A.ff, A.sb⟩, Kp.refl _ _, fun _ _ h => h⟩
theorem Ak.st (h : Ak X w q) {i : Nat} {x : St} (hx : X.S.st[i]? = some x) : ∃ g lv mv, X.us.a = some ⟨g, 0, none⟩ ∧ X.us.n = X.S.st.length ∧ LI X.w lv x.th ∧ LI X.w mv x.el ∧ ∀ w', Kp No X.w w' → ∀ (j : Nat) (u : Value), (stC (x, lv, mv))[j]? = some u → w'.cell? ⟨g, 0 + (i : Int).toNat * 9 + j, none⟩ = some u := by
  obtain ⟨g, lv, mv, e, hl, hm, hc⟩ := Tr.st (a := X.us.a) (n := X.us.n) (c := X.us.c) h.tr hx
  obtain ⟨_, b, _, _, b', _, _, e2, _⟩ := Tr.val h.tr
  simp only [Value.slice.injEq] at e2
  exact ⟨g, lv, mv, e, e2.2.1, hl, hm, fun w' k j u hj => k.cell0 (hc j u hj)⟩
theorem Jk.mono {S : PS} {b c : Prop} {i : Int} (h : Jk S b i) (hbc : b → c) : Jk S c i := by
  induction h with
  | mk h1 h2 h3 i2 i3 => exact .mk (fun h => hbc (h1 h)) (fun h j hj => i2 h j hj hbc) (fun h j hj => h3 h j hj)
theorem Jk.of {S : PS} {b : Prop} {i : Int} {y : St} (hg : gt S i = y) (h1 : y.k = 7 ∨ y.k = 8 → b) (h2 : y.k = 5 → ∀ j ∈ y.th ++ y.el, Jk S b j) (h3 : y.k = 6 → ∀ j ∈ y.th, Jk S True j) : Jk S b i :=
  .mk (by rw [hg]; exact h1) (by rw [hg]; exact h2) (by rw [hg]; exact h3)
theorem needK (h : Ak X w q) (ok : Bool) (p c : Int) (hc : c ≠ 0) : Ret Try.prog 45 [kv X q, .bool ok, .int .i64 p, .int .i64 c] w fun v w1 => ∃ q', v = kv X q' ∧ Kp No w w1 ∧ Sk X w q w1 q' ∧ Er q q' ∧ (ok = true → q'.c = q.c) := by
  refine (needF h ok p c).mono ?_
  rintro v w1 ⟨rfl, k⟩
  exact ⟨_, rfl, k, (Sk.start h).no k |>.call (Sk.need (h.no k) ok p c), Er.need hc, fun hok => by rw [hok]; exact congrArg Kq.c (if_neg fun h => by cases h.2)⟩
/-- Right where expressions are literals (for the fixed texts). -/
def kst0 (S : PS) (f : Nat) : Nat → KS → Int → Option KS
  | 0, _, _ => none
  | n + 1, k, i =>
    if (gt S i).k = 1 then (lit S (gt S i).a).bind fun kd => (kdecl f k (gt S i).nm kd).map Prod.fst
    else if (gt S i).k = 3 then (lit S (gt S i).a).bind fun kd => (kslot f k (gt S i).nm false).bind fun m => if kd = (slo f k).getD m.toNat 0 then some k else none
    else if (gt S i).k = 5 then (lit S (gt S i).a).bind fun kd => if kd = 2 then (kblock (kst0 S f n) (gt S i).th k).bind fun k' => kblock (kst0 S f n) (gt S i).el k' else none
    else if (gt S i).k = 6 then (lit S (gt S i).a).bind fun kd => if kd = 2 then (kblock (kst0 S f n) (gt S i).th { k with lo := k.lo + 1 }).map fun k' => { k' with lo := k'.lo - 1 } else none
    else if (gt S i).k = 10 then (lit S (gt S i).a).map fun _ => k
    else none
section
variable {S : PS} {f n : Nat} {k k' : KS} {i : Int} {y : St}
theorem k0_1 (hg : gt S i = y) (hk : y.k = 1) (h : kst0 S f n k i = some k') : ∃ r x, lit S y.a = some r ∧ kdecl f k y.nm r = some x ∧ x.1 = k' := by
  cases n with
  | zero => cases h
  | succ n =>
    unfold kst0 at h
    rw [hg, if_pos hk] at h
    obtain ⟨r, h1, h2⟩ := Option.bind_eq_some_iff.1 h
    obtain ⟨x, h3, h4⟩ := Option.map_eq_some_iff.1 h2
    exact ⟨r, x, h1, h3, h4⟩
theorem k0_3 (hg : gt S i = y) (hk : y.k = 3) (h : kst0 S f n k i = some k') : ∃ r m, lit S y.a = some r ∧ kslot f k y.nm false = some m ∧ r = (slo f k).getD m.toNat 0 ∧ k = k' := by
  cases n with
  | zero => cases h
  | succ n =>
    unfold kst0 at h
    rw [hg, if_neg (by omega), if_pos hk] at h
    obtain ⟨r, h1, h2⟩ := Option.bind_eq_some_iff.1 h
    obtain ⟨m, h3, h4⟩ := Option.bind_eq_some_iff.1 h2
    split at h4
    · rename_i h5
      cases h4
      exact ⟨r, m, h1, h3, h5, rfl⟩
    · cases h4
theorem k0_5 (hg : gt S i = y) (hk : y.k = 5) (h : kst0 S f n k i = some k') : ∃ n' k1, lit S y.a = some 2 ∧ kblock (kst0 S f n') y.th k = some k1 ∧ kblock (kst0 S f n') y.el k1 = some k' := by
  cases n with
  | zero => cases h
  | succ n =>
    unfold kst0 at h
    rw [hg, if_neg (by omega), if_neg (by omega), if_pos hk] at h
    obtain ⟨r, h1, h2⟩ := Option.bind_eq_some_iff.1 h
    split at h2
    · rename_i h5
      subst h5
      obtain ⟨k1, h3, h4⟩ := Option.bind_eq_some_iff.1 h2
      exact ⟨n, k1, h1, h3, h4⟩
    · cases h2
theorem k0_6 (hg : gt S i = y) (hk : y.k = 6) (h : kst0 S f n k i = some k') : ∃ n' k1, lit S y.a = some 2 ∧ kblock (kst0 S f n') y.th { k with lo := k.lo + 1 } = some k1 ∧ { k1 with lo := k1.lo - 1 } = k' := by
  cases n with
  | zero => cases h
  | succ n =>
    unfold kst0 at h
    rw [hg, if_neg (by omega), if_neg (by omega), if_neg (by omega), if_pos hk] at h
    obtain ⟨r, h1, h2⟩ := Option.bind_eq_some_iff.1 h
    split at h2
    · rename_i h5
      subst h5
      obtain ⟨k1, h3, h4⟩ := Option.map_eq_some_iff.1 h2
      exact ⟨n, k1, h1, h3, h4⟩
    · cases h2
theorem k0_10 (hg : gt S i = y) (hk : y.k = 10) (h : kst0 S f n k i = some k') : ∃ r, lit S y.a = some r ∧ k = k' := by
  cases n with
  | zero => cases h
  | succ n =>
    unfold kst0 at h
    rw [hg, if_neg (by omega), if_neg (by omega), if_neg (by omega), if_neg (by omega), if_pos hk] at h
    obtain ⟨r, h1, h2⟩ := Option.map_eq_some_iff.1 h
    exact ⟨r, h1, h2⟩
theorem k0_no (hg : gt S i = y) (hk : y.k ≠ 1 ∧ y.k ≠ 3 ∧ y.k ≠ 5 ∧ y.k ≠ 6 ∧ y.k ≠ 10) (h : kst0 S f n k i = some k') : False := by
  cases n with
  | zero => cases h
  | succ n =>
    unfold kst0 at h
    rw [hg, if_neg (by omega), if_neg (by omega), if_neg (by omega), if_neg (by omega), if_neg (by omega)] at h
    cases h
theorem kslot_b {q : Kq} {s : List Int} {arr : Bool} {m : Int} (h : kslot q.f q.k s arr = some m) : slotB q s arr = true ∧ findA s q.k.nm (-1) = m := by
  rw [slotB_iff] at h
  split at h
  · rename_i h1; cases h; exact ⟨h1, rfl⟩
  · cases h
end
theorem Er.slotB {q q1 : Kq} (h : Er q q1) {s : List Int} {arr : Bool} : slotB q1 s arr = slotB q s arr := by unfold Ck.slotB; rw [h.k, h.f]
def StR (X : Kc) (w : World) (q : Kq) (i : Int) (v : Value) (w' : World) : Prop := ∃ q', v = kv X q' ∧ Sk X w q w' q' ∧ Gr q q' ∧ (q'.c = 0 → Jk X.S (0 < q.k.lo) i) ∧ (q.c = 0 → ∀ n k', kst0 X.S q.f n q.k i = some k' → q'.c = 0 ∧ q'.k = k')
def BlR (X : Kc) (w : World) (q : Kq) (l : List Int) (v : Value) (w' : World) : Prop := ∃ q', v = kv X q' ∧ Sk X w q w' q' ∧ Gr q q' ∧ (q'.c = 0 → ∀ j ∈ l, Jk X.S (0 < q.k.lo) j) ∧ (q.c = 0 → ∀ n k', kblock (kst0 X.S q.f n) l q.k = some k' → q'.c = 0 ∧ q'.k = k')
set_option maxHeartbeats 2000000 in
theorem blockF (h : Ak X w q) {n : Nat} (l : List Int) (hl : ∀ j ∈ l, 0 ≤ j ∧ j < n) (bd : Bd q (2 * n + 1)) {la : Option Addr} {lc : Nat} (hli : LI X.w (.slice la l.length lc) l)
    (rec : ∀ j ∈ l, ∀ {w : World} {q : Kq}, Ak X w q → Bd q (2 * j.toNat + 2) → Ret Try.prog 47 [kv X q, .int .i64 j] w (StR X w q j)) : Ret Try.prog 62 [kv X q, .slice la l.length lc] w (BlR X w q l) := by
  have hll : l.length ≤ 9223372036854775807 := by have := own_mx hli; unfold maxLen at this; omega
  obtain ⟨a', c', e, hlat⟩ := li_at hli
  cases e
  obtain ⟨bd1, bd2, bd3, bd4⟩ := bd
  refine ret_enter Try.func62 rfl Try.ntmps62 rfl ?_
  (repeat refine Zlr ?_)
  refine s_box (cs := kc X q) rfl rfl (fun b w1 n1 => ?_)
  have G := (Wk.start h).new n1
  (repeat refine Zlr ?_)
  refine s_al rfl (fun b2 w2 n2 => ?_)
  have G := G.new n2
  have h0 := G.blk 0 rfl; try have h1 := G.blk 1 rfl; try have h2 := G.blk 2 rfl; try have h3 := G.blk 3 rfl; try have h4 := G.blk 4 rfl; try have h5 := G.blk 5 rfl
  (repeat refine Zlr ?_)
  refine s_st (vs := [.int .i64 (q.k.bl + 1)]) rfl rfl rfl rfl rfl h1 (Nat.le_of_ble_eq_true rfl) (fun w3 s3 => ?_)
  have G := (G.put 1 rfl s3 rfl).mv (Sk.deep (G.put 1 rfl s3 rfl).at_ (q.k.bl + 1) q.k.lo)
  obtain ⟨q1, hq1⟩ : ∃ q1 : Kq, { q with k := { q.k with bl := q.k.bl + 1, lo := q.k.lo } } = q1 := ⟨_, rfl⟩
  obtain ⟨cs, hcs, G⟩ : ∃ cs : List Value, cs.length = 14 ∧ Wk X w q w3 q1 [(b2, cs, tC), (b, kc X q1, tC)] := ⟨_, rfl, by rw [← hq1]; exact G⟩
  have qf : q1.f = q.f := by rw [← hq1]
  have qb : q1.k.bl = q.k.bl + 1 := by rw [← hq1]
  have ql : q1.k.lo = q.k.lo := by rw [← hq1]
  have qs : slo q1.f q1.k = slo q.f q.k := by rw [← hq1]; rfl
  have qc : q1.c = q.c := by rw [← hq1]
  have qk : q1.k = { q.k with bl := q.k.bl + 1 } := by rw [← hq1]
  clear hq1 h0 h1 n1 n2 s3
  have h0 := G.blk 0 rfl; try have h1 := G.blk 1 rfl; try have h2 := G.blk 2 rfl; try have h3 := G.blk 3 rfl; try have h4 := G.blk 4 rfl; try have h5 := G.blk 5 rfl
  (repeat refine Zlr ?_)
  refine k_loop (σ := Kq × Nat) (fun t => [(1, .slice la l.length lc), (2, .pointer (some ⟨b, 0, none⟩)), (4, .pointer (some ⟨b2, 0, none⟩)), (5, .slice q.nm.a q.nm.n q.nm.c), (6, .int .i64 q1.k.bl), (17, .int .i64 (l.length : Int)), (18, .int .i64 (t.2 : Int))])
    (fun t w' => t.2 ≤ l.length ∧ (∃ cs, cs.length = 14 ∧ Wk X w q w' t.1 [(b2, cs, tC), (b, kc X t.1, tC)]) ∧ Gr q1 t.1 ∧ (t.1.c = 0 → ∀ j ∈ l.take t.2, Jk X.S (0 < q.k.lo) j) ∧ (q.c = 0 → ∀ n k', kblk (kst0 X.S q.f n) (q.k.bl + 1) l { q.k with bl := q.k.bl + 1 } = some k' → t.1.c = 0 ∧ kblk (kst0 X.S q.f n) (q.k.bl + 1) (l.drop t.2) t.1.k = some k')) (fun t => l.length - t.2) (q1, 0) ⟨rfl, rfl, rfl, rfl, rfl, rfl, rfl, trivial⟩ ⟨Nat.zero_le _, ⟨_, hcs, G⟩, Gr.refl q1, fun _ j hj => by simp at hj, fun h0 n k' hk => ⟨qc.trans h0, by rw [List.drop_zero, qk]; exact hk⟩⟩ ?_
  clear G h0 h1 hcs
  rintro ⟨q3, m⟩ l' w4 ⟨hm, ⟨cs, hcs, G⟩, gr, hj0, hx0⟩
  simp only at hm G gr hj0 hx0
  try dsimp only
  have h0 := G.blk 0 rfl; try have h1 := G.blk 1 rfl; try have h2 := G.blk 2 rfl; try have h3 := G.blk 3 rfl; try have h4 := G.blk 4 rfl; try have h5 := G.blk 5 rfl
  (repeat refine Zlr ?_)
  refine c_dec rfl (fun hlt => ?_) (fun hge => ?_)
  · have hlt : m < l.length := by omega
    obtain ⟨j, hj⟩ : ∃ j, l[m]? = some j := ⟨_, List.getElem?_eq_getElem hlt⟩
    obtain ⟨lg, hla, hlc⟩ := hlat m j hj
    have hls : Value.slice la l.length lc = .slice (some ⟨lg, 0, none⟩) l.length lc := by rw [hla]
    have hjm := List.mem_of_getElem? hj
    obtain ⟨hj1, hj2⟩ := hl j hjm
    (repeat refine Zlr ?_)
    refine k_h (fun w' => Kp No X.w w' ∧ w'.heap[b]? = some (.cells (kc X q3).toArray tC (0, 0))) [(0, false), (1, false), (2, false), (3, false), (4, false), (5, true), (6, true)] 6 (by kernel_rfl) (waits_of_last (by kernel_rfl)) (by kernel_rfl) (by kernel_rfl) (by kernel_rfl) rfl (fun w5 k5 _ => ?_)
    have G := G.no k5
    have h0 := G.blk 0 rfl; try have h1 := G.blk 1 rfl; try have h2 := G.blk 2 rfl; try have h3 := G.blk 3 rfl; try have h4 := G.blk 4 rfl; try have h5 := G.blk 5 rfl
    have hS := And.intro G.at_.k0 h1
    refine h_v hS (fun w' hw => r_ldw rfl hw.2 rfl rfl) ?_
    (repeat (first | refine Zhq ?_ | refine Zhgn ?_ | refine Zhgu ?_ | refine Zhgv ?_))
    refine h_v hS (fun w' hw => r_ia rfl rfl hls rfl (by omega) (by omega)) ?_
    refine h_v hS (fun w' hw => r_ld rfl rfl (hlc w' hw.1)) ?_
    refine h_call (us := []) (zs := []) (by kernel_rfl) rfl rfl (rec j hjm G.at_ ⟨by rw [gr.bl]; omega, by rw [gr.bl]; omega, by rw [gr.lo]; omega, by rw [gr.lo]; omega⟩) ?_
    rintro _ w6 ⟨q4, rfl, g, gr4, hjk, hx4⟩
    have G := G.call g
    have h0 := G.blk 0 rfl; try have h1 := G.blk 1 rfl; try have h2 := G.blk 2 rfl; try have h3 := G.blk 3 rfl; try have h4 := G.blk 4 rfl; try have h5 := G.blk 5 rfl
    refine ⟨fun _ => ⟨G.at_.k0, h1⟩, ?_⟩
    refine h_st (vs := kc X q4) rfl rfl rfl rfl rfl h1 (Nat.le_of_ble_eq_true rfl) (fun w7 s => ⟨fun h => (h rfl).elim, ?_⟩)
    have s : Sb w6 b (kc X q4) tC w7 := s
    have G := G.put 1 rfl s rfl
    have h0 := G.blk 0 rfl; try have h1 := G.blk 1 rfl; try have h2 := G.blk 2 rfl; try have h3 := G.blk 3 rfl; try have h4 := G.blk 4 rfl; try have h5 := G.blk 5 rfl
    refine h_nil ?_
    (repeat refine Zlr ?_)
    refine s_st (vs := [.int .i64 q1.k.bl]) rfl rfl rfl rfl rfl h1 (Nat.le_of_ble_eq_true rfl) (fun w8 s => ?_)
    have e8 : q4.k.bl = q1.k.bl := by rw [gr4.bl, gr.bl]
    have s : Sb w7 b (kc X q4) tC w8 := by rw [← e8] at s; exact s
    have G := G.put 1 rfl s rfl
    have h0 := G.blk 0 rfl; try have h1 := G.blk 1 rfl; try have h2 := G.blk 2 rfl; try have h3 := G.blk 3 rfl; try have h4 := G.blk 4 rfl; try have h5 := G.blk 5 rfl
    (repeat refine Zlr ?_)
    refine l_next (q4, m + 1) ⟨rfl, rfl, rfl, rfl, rfl, rfl, rfl, trivial⟩ ⟨hlt, ⟨cs, hcs, G⟩, gr.trans gr4, fun hc j' hj' => ?_, fun h0 n k' hk => ?_⟩ (by show l.length - (m + 1) < l.length - m; omega)
    simp only at hj'
    rw [List.take_add_one, hj] at hj'
    rcases List.mem_append.1 hj' with hj' | hj'
    · exact hj0 (gr4.c0 hc) j' hj'
    · have e : j' = j := by simpa using hj'
      subst e
      have := hjk hc
      rw [gr.lo, ql] at this
      exact this
    · obtain ⟨x1, x2⟩ := hx0 h0 n k' hk
      rw [List.drop_eq_getElem_cons hlt] at x2
      have ej : l[m] = j := by rw [List.getElem?_eq_getElem hlt] at hj; exact Option.some.inj hj
      rw [ej] at x2
      obtain ⟨k1, x3, x4⟩ := Option.bind_eq_some_iff.1 x2
      obtain ⟨x5, x6⟩ := hx4 x1 n k1 (by rw [gr.f, qf]; exact x3)
      refine ⟨x5, ?_⟩
      have e9 : ({ k1 with bl := q.k.bl + 1 } : KS) = q4.k := by rw [← x6, ← qb, ← e8]
      rw [← e9]
      exact x4
  · have e : m = l.length := by omega
    subst e
    rw [List.take_length] at hj0
    have e3 : slo q3.f { q3.k with nm := q.k.nm } = slo q3.f q3.k := rfl
    have hsl : (slo q.f q.k).length ≤ (slo q3.f q3.k).length := by have := gr.sl; rw [qs] at this; exact this
    (repeat refine Zlr ?_)
    refine s_st (vs := [.slice q.nm.a q.nm.n q.nm.c]) rfl rfl rfl rfl rfl h1 (Nat.le_of_ble_eq_true rfl) (fun w5 s => ?_)
    have G := G.put 1 rfl s rfl
    have G := G.mv (Sk.names G.at_ (m := q.nm) (l := q.k.nm) (own_gk h G.sg.gs.kp h.nm rfl) (fun e he => by
      obtain ⟨n1, n2, n3⟩ := h.nr e he
      exact ⟨n1, n2, by omega⟩) (Nat.le_trans h.nb hsl))
    have h0 := G.blk 0 rfl; try have h1 := G.blk 1 rfl; try have h2 := G.blk 2 rfl; try have h3 := G.blk 3 rfl; try have h4 := G.blk 4 rfl; try have h5 := G.blk 5 rfl
    (repeat refine Zlr ?_)
    refine s_st (vs := [.int .i64 (q1.k.bl - 1)]) rfl rfl rfl rfl rfl h1 (Nat.le_of_ble_eq_true rfl) (fun w6 s => ?_)
    have G := G.put 1 rfl s rfl
    have G := G.mv (Sk.deep G.at_ (q1.k.bl - 1) q3.k.lo)
    obtain ⟨q5, hq5⟩ : ∃ q5 : Kq, { q3 with nm := q.nm, k := { q3.k with nm := q.k.nm, bl := q1.k.bl - 1, lo := q3.k.lo } } = q5 := ⟨_, rfl⟩
    have G : Wk X w q w6 q5 [(b2, cs, tC), (b, kc X q5, tC)] := by rw [← hq5]; exact G
    have qf5 : q5.f = q3.f := by rw [← hq5]
    have qb5 : q5.k.bl = q1.k.bl - 1 := by rw [← hq5]
    have ql5 : q5.k.lo = q3.k.lo := by rw [← hq5]
    have qs5 : slo q5.f q5.k = slo q3.f q3.k := by rw [← hq5]; rfl
    have qc5 : q5.c = q3.c := by rw [← hq5]
    have qk5 : q5.k = { q3.k with nm := q.k.nm, bl := q.k.bl } := by rw [← hq5]; show ({ q3.k with nm := q.k.nm, bl := q1.k.bl - 1 } : KS) = _; rw [qb, Int.add_sub_cancel]
    clear hq5
    have h0 := G.blk 0 rfl; try have h1 := G.blk 1 rfl; try have h2 := G.blk 2 rfl; try have h3 := G.blk 3 rfl; try have h4 := G.blk 4 rfl; try have h5 := G.blk 5 rfl
    (repeat refine Zlr ?_)
    refine s_stw (vs := kc X q5) rfl rfl rfl rfl rfl h0 hcs (fun w7 s => ?_)
    have G := G.put 0 rfl s rfl
    have h0 := G.blk 0 rfl; try have h1 := G.blk 1 rfl; try have h2 := G.blk 2 rfl; try have h3 := G.blk 3 rfl; try have h4 := G.blk 4 rfl; try have h5 := G.blk 5 rfl
    (repeat refine Zlr ?_)
    exact ret_c1 rfl (rv_agw rfl h0 rfl rfl) ⟨q5, rfl, G.sg, ⟨fun h0 => by rw [qc5]; exact gr.er (by rw [qc]; exact h0), by rw [qf5, gr.f, qf], by rw [qb5, qb]; omega, by rw [ql5, gr.lo, ql], by rw [qs5]; exact hsl⟩, fun hc => hj0 (by rw [← qc5]; exact hc), fun h0 n k' hk => by
      obtain ⟨k1, y1, y2⟩ := Option.map_eq_some_iff.1 hk
      obtain ⟨y3, y4⟩ := hx0 h0 n k1 y1
      rw [List.drop_length] at y4
      cases y4
      exact ⟨qc5.trans y3, by rw [qk5]; exact y2⟩⟩
set_option maxHeartbeats 4000000 in
theorem stmtF : ∀ (i : Nat) {w : World} {q : Kq}, Ak X w q → i < X.S.st.length → Bd q (2 * i + 2) → Ret Try.prog 47 [kv X q, .int .i64 (i : Int)] w (StR X w q i) := by
  intro i
  induction i using Nat.strongRecOn with
  | ind i ih =>
  intro w0 q h hi bd
  obtain ⟨y, hy⟩ : ∃ y, X.S.st[i]? = some y := ⟨_, List.getElem?_eq_getElem hi⟩
  obtain ⟨hsub, hnm, hva, hvb, hv9⟩ := h.pg.st i y hy
  have hgt : gt X.S (i : Int) = y := by unfold gt; rw [List.getD_eq_getElem?_getD, Int.toNat_natCast, hy]; rfl
  have IHe : ∀ j, Vx j X.S.ex → ∀ {w : World} {q : Kq}, Ak X w q → Ret Try.prog 63 [kv X q, .int .i64 j] w (ExS X w q j) := by
    intro j hj w q hA
    obtain ⟨h1, h2⟩ := hj
    have e : j = (j.toNat : Int) := by omega
    rw [e]
    exact exprF _ hA (by omega)
  have IH : ∀ j, Vx j X.S.ex → ∀ {w : World} {q : Kq}, Ak X w q → Ret Try.prog 60 [kv X q, .int .i64 j] w (ExS X w q j) := by
    intro j hj w q hA
    obtain ⟨h1, h2⟩ := hj
    have e : j = (j.toNat : Int) := by omega
    rw [e]
    exact valueF hA (by omega) fun w q hA => exprF _ hA (by omega)
  have IHs : ∀ j ∈ y.th ++ y.el, ∀ {w : World} {q : Kq}, Ak X w q → Bd q (2 * j.toNat + 2) → Ret Try.prog 47 [kv X q, .int .i64 j] w (StR X w q j) := by
    intro j hj w q hA hb
    obtain ⟨h1, h2⟩ := hsub j hj
    have e : j = (j.toNat : Int) := by omega
    have := ih j.toNat (by omega) hA (by omega) hb
    rw [← e] at this
    exact this
  have hi0 : 0 + (i : Int).toNat * 1 = i := by omega
  obtain ⟨bd1, bd2, bd3, bd4⟩ := bd
  obtain ⟨g, lv, mv, hga, hgn, hlt0, hle0, hcx⟩ := h.st hy
  have hua : Value.slice X.us.a X.us.n X.us.c = .slice (some ⟨g, 0, none⟩) X.us.n X.us.c := by rw [hga]
  obtain ⟨ta, tc, rfl, _⟩ := li_at hlt0
  obtain ⟨ea, ec, rfl, _⟩ := li_at hle0
  refine ret_enter Try.func47 rfl Try.ntmps47 rfl ?_
  (repeat refine Zlr ?_)
  refine s_box (cs := kc X q) rfl rfl (fun b w1 n => ?_)
  have G := (Wk.start h).new n
  (repeat refine Zlr ?_)
  refine s_al rfl (fun b2 w2 n2 => ?_)
  have G := G.new n2
  have h0 := G.blk 0 rfl; try have h1 := G.blk 1 rfl; try have h2 := G.blk 2 rfl; try have h3 := G.blk 3 rfl; try have h4 := G.blk 4 rfl; try have h5 := G.blk 5 rfl
  (repeat refine Zlr ?_)
  refine c_b rfl (fun hc => ?_) (fun hc => ?_)
  · (repeat refine Zlr ?_)
    refine s_stw (vs := kc X q) rfl rfl rfl rfl rfl h0 rfl (fun w3 s3 => ?_)
    have G := G.put 0 rfl s3 rfl
    have h0 := G.blk 0 rfl; try have h1 := G.blk 1 rfl; try have h2 := G.blk 2 rfl; try have h3 := G.blk 3 rfl; try have h4 := G.blk 4 rfl; try have h5 := G.blk 5 rfl
    (repeat refine Zlr ?_)
    exact ret_c1 rfl (rv_agw rfl h0 rfl rfl) ⟨q, rfl, G.sg, Gr.refl q, fun h0 => absurd h0 (by simpa using hc), fun h0 => absurd h0 (by simpa using hc)⟩
  refine k_skip ?_
  refine k_n ?_
  (repeat refine Zlr ?_)
  refine s_v (r_ia (size := 9) rfl rfl hua rfl (by omega) (by omega)) ?_
  refine s_v (r_lda (n := 9) (vs := stC (y, .slice ta y.th.length tc, .slice ea y.el.length ec)) rfl rfl rfl rfl (cells_ofc rfl fun j u hj => hcx _ G.at_.k0 j u hj)) ?_
  (repeat refine Zlr ?_)
  refine s_al rfl (fun b6 w3 n3 => ?_)
  have G := G.new n3
  have h0 := G.blk 0 rfl; try have h1 := G.blk 1 rfl; try have h2 := G.blk 2 rfl; try have h3 := G.blk 3 rfl; try have h4 := G.blk 4 rfl; try have h5 := G.blk 5 rfl
  (repeat refine Zlr ?_)
  refine s_stw (vs := stC (y, .slice ta y.th.length tc, .slice ea y.el.length ec)) rfl rfl rfl rfl rfl h0 rfl (fun w s4 => ?_)
  have G := G.put 0 rfl s4 rfl
  have h0 := G.blk 0 rfl; try have h1 := G.blk 1 rfl; try have h2 := G.blk 2 rfl; try have h3 := G.blk 3 rfl; try have h4 := G.blk 4 rfl; try have h5 := G.blk 5 rfl
  obtain ⟨tg, cur, hta, htn, htb, htl⟩ := tab_at G.at_.fu hi
  have hts : Value.slice X.fu.a X.fu.n X.fu.c = .slice (some ⟨tg, 0, none⟩) X.fu.n X.fu.c := by rw [hta]
  (repeat refine Zlr ?_)
  refine s_v (r_ia rfl rfl hts rfl (by omega) (by omega)) ?_
  (repeat refine Zlr ?_)
  refine s_st (vs := [.int .i64 (q.f : Int)]) rfl rfl rfl rfl rfl htb (by rw [hi0]; exact htl) (fun w s => ?_)
  rw [hi0] at s
  have s : Sb _ tg (cur.set i (.int .i64 (q.f : Int))) tInt w := s
  have G := G.call (Sk.tab G.at_ (.inr <| .inr <| .inr <| congrArg Value.ownBlock hts) htb s)
  have h0 := G.blk 0 rfl; try have h1 := G.blk 1 rfl; try have h2 := G.blk 2 rfl; try have h3 := G.blk 3 rfl; try have h4 := G.blk 4 rfl; try have h5 := G.blk 5 rfl
  (repeat (first | refine k_nil ?_ | refine k_n ?_ | refine k_r ?_ | refine k_x ?_ | refine b_n ?_ | refine b_r ?_ | refine b_y rfl ?_ | refine b_z rfl ?_ | refine l_r ?_ | refine l_x ?_ | refine k_seq ?_ | refine k_blk ?_ | refine k_ret ?_ | refine k_exit ?_ | refine k_skip ?_ | refine Zs ?_ | refine Zl ?_))
  refine k_reg ?_
  (repeat (first | refine k_nil ?_ | refine k_n ?_ | refine k_r ?_ | refine k_x ?_ | refine b_n ?_ | refine b_r ?_ | refine b_y rfl ?_ | refine b_z rfl ?_ | refine l_r ?_ | refine l_x ?_ | refine k_seq ?_ | refine k_blk ?_ | refine k_ret ?_ | refine k_exit ?_ | refine k_skip ?_ | refine Zs ?_ | refine Zl ?_))
  refine k_reg ?_
  (repeat (first | refine Zs ?_ | refine Zl ?_))
  refine k_nil ?_
  refine k_n ?_
  obtain ⟨cs2, hcs, hG⟩ : ∃ cs2 : List Value, cs2.length = 14 ∧ Wk X w0 q _ q [(b6, stC (y, .slice ta y.th.length tc, .slice ea y.el.length ec), 86), (b2, cs2, tC), (b, kc X q, tC)] := ⟨_, rfl, G⟩
  clear G h0 h1 h2
  have G := hG
  clear hG n n2 n3 s4
  have h0 := G.blk 0 rfl; try have h1 := G.blk 1 rfl; try have h2 := G.blk 2 rfl; try have h3 := G.blk 3 rfl; try have h4 := G.blk 4 rfl; try have h5 := G.blk 5 rfl
  refine k_cutc (σ := Kq × Int) (fun t => [(1, .int .i64 (i : Int)), (2, .pointer (some ⟨b, 0, none⟩)), (4, .pointer (some ⟨b2, 0, none⟩)), (7, .int .i64 t.2)])
    (fun t w' => ∃ cs, cs.length = 14 ∧ Wk X w0 q w' t.1 [(b2, cs, tC), (b, kc X t.1, tC)] ∧ Gr q t.1 ∧ (t.1.c = 0 → Jk X.S (0 < q.k.lo) i) ∧ (q.c = 0 → ∀ n k', kst0 X.S q.f n q.k i = some k' → t.1.c = 0 ∧ t.1.k = k')) ?_ ?_
  · (repeat refine Zlr ?_)
    refine c_b rfl (fun hk => ?_) (fun hk1 => ?_)
    · have hk : y.k = 1 := beq_iff_eq.1 hk
      (repeat refine Zlr ?_)
      refine s_call (us := []) (zs := []) (by kernel_rfl) rfl rfl (IH y.a (hva (by omega)) G.at_) ?_
      rintro _ w ⟨q3, a, rfl, g, e3, l3⟩
      have G := G.call g
      have h0 := G.blk 0 rfl; try have h1 := G.blk 1 rfl; try have h2 := G.blk 2 rfl; try have h3 := G.blk 3 rfl; try have h4 := G.blk 4 rfl; try have h5 := G.blk 5 rfl
      (repeat refine Zlr ?_)
      refine s_al rfl (fun b9 w n => ?_)
      have G := G.new n
      have h0 := G.blk 0 rfl; try have h1 := G.blk 1 rfl; try have h2 := G.blk 2 rfl; try have h3 := G.blk 3 rfl; try have h4 := G.blk 4 rfl; try have h5 := G.blk 5 rfl
      (repeat refine Zlr ?_)
      refine s_stw (vs := kc X q3) rfl rfl rfl rfl rfl h0 rfl (fun w s => ?_)
      have G := G.put 0 rfl s rfl
      have h0 := G.blk 0 rfl; try have h1 := G.blk 1 rfl; try have h2 := G.blk 2 rfl; try have h3 := G.blk 3 rfl; try have h4 := G.blk 4 rfl; try have h5 := G.blk 5 rfl
      (repeat refine Zlr ?_)
      have x3 : q.c = 0 → ∀ n k', kst0 X.S q.f n q.k i = some k' → q3.c = 0 := fun h0 n k' hn => by
        obtain ⟨r, x, n1, _⟩ := k0_1 hgt hk hn
        exact (l3 h0 r n1).1
      refine c_b rfl (fun hc => ?_) (fun hc => ?_)
      · (repeat refine Zlr ?_)
        refine s_stw (vs := kc X q3) rfl rfl rfl rfl rfl h2 hcs (fun w s => ?_)
        have G := G.put 2 rfl s rfl
        have h0 := G.blk 0 rfl; try have h1 := G.blk 1 rfl; try have h2 := G.blk 2 rfl; try have h3 := G.blk 3 rfl; try have h4 := G.blk 4 rfl; try have h5 := G.blk 5 rfl
        (repeat refine Zlr ?_)
        exact ret_c1 rfl (rv_agw rfl h2 rfl rfl) ⟨q3, rfl, G.sg, e3.gr, fun h0 => absurd h0 (by simpa using hc), fun h0 n k' hn => absurd (x3 h0 n k' hn) (by simpa using hc)⟩
      (repeat refine Zlr ?_)
      refine s_call (us := []) (zs := []) (by kernel_rfl) rfl rfl (declareF G.at_ y.nm a y.f (hnm (by omega))) ?_
      rintro _ w ⟨q4, n4, rfl, g, hd1, hd2, hd3, ⟨hd4, hd5⟩, hd6⟩
      have G := G.call g
      have gd : Gr q3 q4 := ⟨hd1, hd3, hd4, hd5, hd6⟩
      have h0 := G.blk 0 rfl; try have h1 := G.blk 1 rfl; try have h2 := G.blk 2 rfl; try have h3 := G.blk 3 rfl; try have h4 := G.blk 4 rfl; try have h5 := G.blk 5 rfl
      (repeat refine Zlr ?_)
      refine s_stw (vs := kc X q4) rfl rfl rfl rfl rfl h3 rfl (fun w s => ?_)
      have G := G.put 3 rfl s rfl
      have h0 := G.blk 0 rfl; try have h1 := G.blk 1 rfl; try have h2 := G.blk 2 rfl; try have h3 := G.blk 3 rfl; try have h4 := G.blk 4 rfl; try have h5 := G.blk 5 rfl
      (repeat refine Zlr ?_)
      have x4 : q.c = 0 → ∀ n k', kst0 X.S q.f n q.k i = some k' → q4.c = 0 ∧ q4.k = k' := fun h0 n k' hn => by
        obtain ⟨r, x, n1, n2, n3⟩ := k0_1 hgt hk hn
        obtain ⟨m1, m2⟩ := l3 h0 r n1
        have := hd2 m1
        rw [e3.k, e3.f, m2, n2] at this
        exact ⟨this.1, this.2.1.trans n3⟩
      exact l_cut (q4, n4) ⟨rfl, rfl, rfl, rfl, trivial⟩ ⟨_, hcs, G.drop 2, e3.gr.trans gd, fun _ => Jk.of hgt (fun h => by omega) (fun h => by omega) (fun h => by omega), x4⟩
    (repeat refine Zlr ?_)
    refine c_b rfl (fun hk => ?_) (fun hk2 => ?_)
    · have hk : y.k = 2 := beq_iff_eq.1 hk
      (repeat (first | refine k_nil ?_ | refine k_n ?_ | refine k_r ?_ | refine k_x ?_ | refine b_n ?_ | refine b_r ?_ | refine b_y rfl ?_ | refine b_z rfl ?_ | refine l_r ?_ | refine l_x ?_ | refine k_seq ?_ | refine k_blk ?_ | refine k_ret ?_ | refine k_exit ?_ | refine k_skip ?_ | refine Zs ?_ | refine Zl ?_))
      refine k_cutc (σ := Kq) (fun t => [(1, .int .i64 (i : Int)), (2, .pointer (some ⟨b, 0, none⟩)), (4, .pointer (some ⟨b2, 0, none⟩)), (5, .pointer (some ⟨b6, 0, none⟩)), (6, .int .i64 y.f), (7, .int .i64 (-1))]) (fun t w' => Wk X w0 q w' t [(b6, stC (y, .slice ta y.th.length tc, .slice ea y.el.length ec), 86), (b2, cs2, tC), (b, kc X t, tC)] ∧ Er q t) ?_ ?_
      · refine k_reg ?_
        (repeat refine Zlr ?_)
        refine s_split 71 rfl (fun _ => ?_) (fun _ => ?_)
        · (repeat (first | refine Zlr ?_ | refine Zn ?_ | refine Zu ?_ | refine Zg ?_ | refine Zgl ?_))
          refine s_call (us := []) (zs := []) (by kernel_rfl) rfl rfl (needE G.at_ _ y.f 15 (by decide)) ?_
          rintro _ w ⟨q3, rfl, g, en, _⟩
          have G := G.call g
          have h0 := G.blk 0 rfl; try have h1 := G.blk 1 rfl; try have h2 := G.blk 2 rfl; try have h3 := G.blk 3 rfl; try have h4 := G.blk 4 rfl; try have h5 := G.blk 5 rfl
          (repeat refine Zlr ?_)
          refine s_stw (vs := kc X q3) rfl rfl rfl rfl rfl h2 rfl (fun w s => ?_)
          have G := G.put 2 rfl s rfl
          refine k_nil ?_
          exact l_cut q3 ⟨rfl, rfl, rfl, rfl, rfl, rfl, trivial⟩ ⟨G, en⟩
        · (repeat (first | refine Zlr ?_ | refine Zn ?_ | refine Zu ?_ | refine Zg ?_ | refine Zgl ?_))
          refine s_call (us := []) (zs := []) (by kernel_rfl) rfl rfl (needE G.at_ _ y.f 15 (by decide)) ?_
          rintro _ w ⟨q3, rfl, g, en, _⟩
          have G := G.call g
          have h0 := G.blk 0 rfl; try have h1 := G.blk 1 rfl; try have h2 := G.blk 2 rfl; try have h3 := G.blk 3 rfl; try have h4 := G.blk 4 rfl; try have h5 := G.blk 5 rfl
          (repeat refine Zlr ?_)
          refine s_stw (vs := kc X q3) rfl rfl rfl rfl rfl h2 rfl (fun w s => ?_)
          have G := G.put 2 rfl s rfl
          refine k_nil ?_
          exact l_cut q3 ⟨rfl, rfl, rfl, rfl, rfl, rfl, trivial⟩ ⟨G, en⟩
      rintro q3 l w ⟨G, e3⟩
      have h0 := G.blk 0 rfl; try have h1 := G.blk 1 rfl; try have h2 := G.blk 2 rfl; try have h3 := G.blk 3 rfl; try have h4 := G.blk 4 rfl; try have h5 := G.blk 5 rfl
      (repeat refine Zlr ?_)
      have x3 : q.c = 0 → ∀ n k', kst0 X.S q.f n q.k i = some k' → q3.c = 0 := fun _ n k' hn => (k0_no hgt (by omega) hn).elim
      refine c_b rfl (fun hc => ?_) (fun hc => ?_)
      · (repeat refine Zlr ?_)
        refine s_stw (vs := kc X q3) rfl rfl rfl rfl rfl h1 hcs (fun w s => ?_)
        have G := G.put 1 rfl s rfl
        have h0 := G.blk 0 rfl; try have h1 := G.blk 1 rfl; try have h2 := G.blk 2 rfl; try have h3 := G.blk 3 rfl; try have h4 := G.blk 4 rfl; try have h5 := G.blk 5 rfl
        (repeat refine Zlr ?_)
        exact ret_c1 rfl (rv_agw rfl h1 rfl rfl) ⟨q3, rfl, G.sg, e3.gr, fun h0 => absurd h0 (by simpa using hc), fun h0 n k' hn => absurd (x3 h0 n k' hn) (by simpa using hc)⟩
      (repeat refine Zlr ?_)
      refine s_call (us := []) (zs := []) (by kernel_rfl) rfl rfl (declareF G.at_ y.nm 3 y.f (hnm (by omega))) ?_
      rintro _ w ⟨q4, n4, rfl, g, hd1, hd2, hd3, ⟨hd4, hd5⟩, hd6⟩
      have G := G.call g
      have gd : Gr q3 q4 := ⟨hd1, hd3, hd4, hd5, hd6⟩
      have h0 := G.blk 0 rfl; try have h1 := G.blk 1 rfl; try have h2 := G.blk 2 rfl; try have h3 := G.blk 3 rfl; try have h4 := G.blk 4 rfl; try have h5 := G.blk 5 rfl
      (repeat refine Zlr ?_)
      refine s_stw (vs := kc X q4) rfl rfl rfl rfl rfl h2 rfl (fun w s => ?_)
      have G := G.put 2 rfl s rfl
      have h0 := G.blk 0 rfl; try have h1 := G.blk 1 rfl; try have h2 := G.blk 2 rfl; try have h3 := G.blk 3 rfl; try have h4 := G.blk 4 rfl; try have h5 := G.blk 5 rfl
      (repeat refine Zlr ?_)
      exact l_cut (q4, n4) ⟨rfl, rfl, rfl, rfl, trivial⟩ ⟨_, hcs, G.drop 1, e3.gr.trans gd, fun _ => Jk.of hgt (fun h => by omega) (fun h => by omega) (fun h => by omega), fun _ n k' hn => (k0_no hgt (by omega) hn).elim⟩
    (repeat refine Zlr ?_)
    refine c_b rfl (fun hk => ?_) (fun hk3 => ?_)
    · have hk : y.k = 3 := beq_iff_eq.1 hk
      (repeat refine Zlr ?_)
      refine s_call (us := []) (zs := []) (by kernel_rfl) rfl rfl (IH y.a (hva (by omega)) G.at_) ?_
      rintro _ w ⟨q3, a, rfl, g, e3, l3⟩
      have G := G.call g
      have h0 := G.blk 0 rfl; try have h1 := G.blk 1 rfl; try have h2 := G.blk 2 rfl; try have h3 := G.blk 3 rfl; try have h4 := G.blk 4 rfl; try have h5 := G.blk 5 rfl
      (repeat refine Zlr ?_)
      refine s_al rfl (fun b9 w n => ?_)
      have G := G.new n
      have h0 := G.blk 0 rfl; try have h1 := G.blk 1 rfl; try have h2 := G.blk 2 rfl; try have h3 := G.blk 3 rfl; try have h4 := G.blk 4 rfl; try have h5 := G.blk 5 rfl
      (repeat refine Zlr ?_)
      refine s_stw (vs := kc X q3) rfl rfl rfl rfl rfl h0 rfl (fun w s => ?_)
      have G := G.put 0 rfl s rfl
      have h0 := G.blk 0 rfl; try have h1 := G.blk 1 rfl; try have h2 := G.blk 2 rfl; try have h3 := G.blk 3 rfl; try have h4 := G.blk 4 rfl; try have h5 := G.blk 5 rfl
      (repeat refine Zlr ?_)
      have x3 : q.c = 0 → ∀ n k', kst0 X.S q.f n q.k i = some k' → q3.c = 0 := fun h0 n k' hn => by
        obtain ⟨r, m, n1, _⟩ := k0_3 hgt hk hn
        exact (l3 h0 r n1).1
      refine c_b rfl (fun hc => ?_) (fun hc => ?_)
      · (repeat refine Zlr ?_)
        refine s_stw (vs := kc X q3) rfl rfl rfl rfl rfl h2 hcs (fun w s => ?_)
        have G := G.put 2 rfl s rfl
        have h0 := G.blk 0 rfl; try have h1 := G.blk 1 rfl; try have h2 := G.blk 2 rfl; try have h3 := G.blk 3 rfl; try have h4 := G.blk 4 rfl; try have h5 := G.blk 5 rfl
        (repeat refine Zlr ?_)
        exact ret_c1 rfl (rv_agw rfl h2 rfl rfl) ⟨q3, rfl, G.sg, e3.gr, fun h0 => absurd h0 (by simpa using hc), fun h0 n k' hn => absurd (x3 h0 n k' hn) (by simpa using hc)⟩
      (repeat refine Zlr ?_)
      (repeat refine Zlr ?_)
      refine s_call (us := []) (zs := []) (by kernel_rfl) rfl rfl (slotF G.at_ y.nm false y.f (hnm (by omega))) ?_
      rintro _ w ⟨rfl, k⟩
      have G := G.no k
      have hfi : 0 ≤ findA y.nm q3.k.nm (-1) → _ := G.at_.find (s := y.nm)
      have G := G.mv (Sk.need G.at_ (slotB q3 y.nm false) y.f 6)
      obtain ⟨q4, hq2⟩ : ∃ t, needQ (slotB q3 y.nm false) y.f 6 q3 = t := ⟨_, rfl⟩
      obtain ⟨z, hz⟩ : ∃ t, findA y.nm q3.k.nm (-1) = t := ⟨_, rfl⟩
      have e2 : Er q3 q4 := by rw [← hq2]; exact Er.need (by decide)
      have hz2 : q4.c = 0 → 0 ≤ z ∧ z.toNat < (slo q4.f q4.k).length := by
        intro hc
        rw [e2.f, e2.k]
        rw [← hq2] at hc
        obtain ⟨_, h2⟩ := (need_c (by decide)).1 hc
        have h3 : 0 ≤ findA y.nm q3.k.nm (-1) := by
          unfold slotB at h2
          rw [Bool.and_eq_true] at h2
          exact of_decide_eq_true h2.1
        rw [← hz]
        exact ⟨h3, hfi h3⟩
      rw [hq2] at G ⊢
      rw [hz]
      have hok2 : slotB q3 y.nm false = true → q4.c = q3.c := fun hb => by rw [← hq2, hb]; exact congrArg Kq.c (if_neg fun h => by cases h.2)
      clear hq2
      have h0 := G.blk 0 rfl; try have h1 := G.blk 1 rfl; try have h2 := G.blk 2 rfl; try have h3 := G.blk 3 rfl; try have h4 := G.blk 4 rfl; try have h5 := G.blk 5 rfl
      (repeat refine Zlr ?_)
      have x4 : q.c = 0 → ∀ n k', kst0 X.S q.f n q.k i = some k' → q4.c = 0 ∧ a = (slo q.f q.k).getD z.toNat 0 ∧ q.k = k' := fun h0 n k' hn => by
        obtain ⟨r, m, n1, n2, n3, n4⟩ := k0_3 hgt hk hn
        obtain ⟨m1, m2⟩ := l3 h0 r n1
        obtain ⟨m3, m4⟩ := kslot_b n2
        rw [← e3.slotB] at m3
        rw [← e3.k, hz] at m4
        exact ⟨(hok2 m3).trans m1, by rw [m4, m2]; exact n3, n4⟩
      refine s_stw (vs := kc X q4) rfl rfl rfl rfl rfl h3 rfl (fun w s => ?_)
      have G := G.put 3 rfl s rfl
      have h0 := G.blk 0 rfl; try have h1 := G.blk 1 rfl; try have h2 := G.blk 2 rfl; try have h3 := G.blk 3 rfl; try have h4 := G.blk 4 rfl; try have h5 := G.blk 5 rfl
      (repeat refine Zlr ?_)
      refine c_b rfl (fun hc3 => ?_) (fun hc3 => ?_)
      · obtain ⟨hz0, hzl⟩ := hz2 (beq_iff_eq.1 hc3)
        obtain ⟨sb, sl, ha, hn, hv, hsl, hc1, hln, hcs'⟩ := G.at_.slots
        have hsa : Value.slice X.so.a X.so.n X.so.c = .slice (some ⟨sb, 0, none⟩) X.so.n X.so.c := by rw [ha]
        obtain ⟨u, hu⟩ : ∃ u, (slo q4.f q4.k)[z.toNat]? = some u := ⟨_, List.getElem?_eq_getElem hzl⟩
        obtain ⟨ib, hia, hic⟩ := hcs' _ _ hu
        rw [show ((z.toNat : Nat) : Int).toNat = z.toNat by omega] at hic
        have hia' : Value.slice sl.a sl.n sl.c = .slice (some ⟨ib, 0, none⟩) sl.n sl.c := by rw [hia]
        have hff := G.at_.ff
        (repeat refine Zlr ?_)
        refine k_h (fun w' => Kp No w w') [(0, false), (1, false), (2, false), (3, false), (4, false), (5, false), (6, false), (7, false), (8, false), (9, false), (10, false), (11, false), (12, false), (13, false), (14, true), (15, true)] 15 (by kernel_rfl) (waits_of_last (by kernel_rfl)) (by kernel_rfl) (by kernel_rfl) (by kernel_rfl) rfl (fun w6 k6 _ => ?_)
        have hb3 := h3
        have hd1 : ∀ w', Kp No w w' → w'.heap[b]? = some (.cells (kc X q4).toArray tC (0, 0)) := fun w' hw => hw.get0 hb3
        have hcl1 : ∀ w', Kp No w w' → w'.cell? ⟨sb, 0 + (q4.f : Int).toNat * 1, none⟩ = some (.slice sl.a sl.n sl.c) := fun w' hw => hw.cell0 hc1
        have hcl2 : ∀ w', Kp No w w' → w'.cell? ⟨ib, 0 + z.toNat * 1, none⟩ = some (.int .i64 u) := fun w' hw => hw.cell0 hic
        refine h_v k6 (fun w' hw => r_ldw rfl (hd1 w' hw) rfl rfl) ?_
        (repeat (first | refine Zhq ?_ | refine Zhgn ?_ | refine Zhgu ?_ | refine Zhgv ?_))
        refine h_v k6 (fun w' hw => r_ia rfl rfl hsa rfl (by omega) (by omega)) ?_
        (repeat (first | refine Zhq ?_ | refine Zhgn ?_ | refine Zhgu ?_ | refine Zhgv ?_))
        refine h_v k6 (fun w' hw => r_ia rfl rfl hia' rfl (by omega) (by omega)) ?_
        (repeat (first | refine Zhq ?_ | refine Zhgn ?_ | refine Zhgu ?_ | refine Zhgv ?_))
        have G := G.no k6
        refine h_call (us := []) (zs := []) (by kernel_rfl) rfl rfl (needK G.at_ _ y.f 8 (by decide)) ?_
        rintro _ w7 ⟨q5, rfl, k7, g, en, hok5⟩
        have G := G.call g
        have h0 := G.blk 0 rfl; try have h1 := G.blk 1 rfl; try have h2 := G.blk 2 rfl; try have h3 := G.blk 3 rfl; try have h4 := G.blk 4 rfl; try have h5 := G.blk 5 rfl
        refine ⟨fun _ => k6.no k7, ?_⟩
        refine h_st (vs := kc X q5) rfl rfl rfl rfl rfl h3 (Nat.le_of_ble_eq_true rfl) (fun w8 s => ⟨fun h => (h rfl).elim, ?_⟩)
        have s : Sb w7 b (kc X q5) tC w8 := s
        have G := G.put 3 rfl s rfl
        have h0 := G.blk 0 rfl; try have h1 := G.blk 1 rfl; try have h2 := G.blk 2 rfl; try have h3 := G.blk 3 rfl; try have h4 := G.blk 4 rfl; try have h5 := G.blk 5 rfl
        refine h_nil ?_
        (repeat refine Zlr ?_)
        have x5 : q.c = 0 → ∀ n k', kst0 X.S q.f n q.k i = some k' → q5.c = 0 ∧ q5.k = k' := fun h0 n k' hn => by
          obtain ⟨m1, m2, m3⟩ := x4 h0 n k' hn
          refine ⟨(hok5 ?_).trans m1, by rw [en.k, e2.k, e3.k]; exact m3⟩
          rw [e2.f, e2.k, e3.f, e3.k] at hu
          rw [List.getD_eq_getElem?_getD, hu] at m2
          exact beq_iff_eq.2 m2
        exact l_cut (q5, z) ⟨rfl, rfl, rfl, rfl, trivial⟩ ⟨_, hcs, G.drop 2, ((e3.trans e2).trans en).gr, fun _ => Jk.of hgt (fun h => by omega) (fun h => by omega) (fun h => by omega), x5⟩
      · (repeat refine Zlr ?_)
        exact l_cut (q4, z) ⟨rfl, rfl, rfl, rfl, trivial⟩ ⟨_, hcs, G.drop 2, (e3.trans e2).gr, fun _ => Jk.of hgt (fun h => by omega) (fun h => by omega) (fun h => by omega), fun h0 n k' hn => absurd (x4 h0 n k' hn).1 (by simpa using hc3)⟩
    (repeat refine Zlr ?_)
    refine c_b rfl (fun hk => ?_) (fun hk4 => ?_)
    · have hk : y.k = 4 := beq_iff_eq.1 hk
      (repeat refine Zlr ?_)
      refine s_call (us := []) (zs := []) (by kernel_rfl) rfl rfl (IH y.a (hva (by omega)) G.at_) ?_
      rintro _ w ⟨q3, a, rfl, g, e3, l3⟩
      have G := G.call g
      have h0 := G.blk 0 rfl; try have h1 := G.blk 1 rfl; try have h2 := G.blk 2 rfl; try have h3 := G.blk 3 rfl; try have h4 := G.blk 4 rfl; try have h5 := G.blk 5 rfl
      (repeat refine Zlr ?_)
      refine s_al rfl (fun b9 w n => ?_)
      have G := G.new n
      have h0 := G.blk 0 rfl; try have h1 := G.blk 1 rfl; try have h2 := G.blk 2 rfl; try have h3 := G.blk 3 rfl; try have h4 := G.blk 4 rfl; try have h5 := G.blk 5 rfl
      (repeat refine Zlr ?_)
      refine s_stw (vs := kc X q3) rfl rfl rfl rfl rfl h0 rfl (fun w s => ?_)
      have G := G.put 0 rfl s rfl
      have h0 := G.blk 0 rfl; try have h1 := G.blk 1 rfl; try have h2 := G.blk 2 rfl; try have h3 := G.blk 3 rfl; try have h4 := G.blk 4 rfl; try have h5 := G.blk 5 rfl
      (repeat refine Zlr ?_)
      (repeat refine Zlr ?_)
      refine s_call (us := []) (zs := []) (by kernel_rfl) rfl rfl (IH y.b (hvb hk) G.at_) ?_
      rintro _ w ⟨q5, c, rfl, g, e5, l3⟩
      have G := G.call g
      have h0 := G.blk 0 rfl; try have h1 := G.blk 1 rfl; try have h2 := G.blk 2 rfl; try have h3 := G.blk 3 rfl; try have h4 := G.blk 4 rfl; try have h5 := G.blk 5 rfl
      (repeat refine Zlr ?_)
      refine s_al rfl (fun b10 w n => ?_)
      have G := G.new n
      have h0 := G.blk 0 rfl; try have h1 := G.blk 1 rfl; try have h2 := G.blk 2 rfl; try have h3 := G.blk 3 rfl; try have h4 := G.blk 4 rfl; try have h5 := G.blk 5 rfl
      (repeat refine Zlr ?_)
      refine s_stw (vs := kc X q5) rfl rfl rfl rfl rfl h0 rfl (fun w s => ?_)
      have G := G.put 0 rfl s rfl
      have h0 := G.blk 0 rfl; try have h1 := G.blk 1 rfl; try have h2 := G.blk 2 rfl; try have h3 := G.blk 3 rfl; try have h4 := G.blk 4 rfl; try have h5 := G.blk 5 rfl
      (repeat refine Zlr ?_)
      have x3 : q.c = 0 → ∀ n k', kst0 X.S q.f n q.k i = some k' → q5.c = 0 := fun _ n k' hn => (k0_no hgt (by omega) hn).elim
      refine c_b rfl (fun hc => ?_) (fun hc => ?_)
      · (repeat refine Zlr ?_)
        refine s_stw (vs := kc X q5) rfl rfl rfl rfl rfl h3 hcs (fun w s => ?_)
        have G := G.put 3 rfl s rfl
        have h0 := G.blk 0 rfl; try have h1 := G.blk 1 rfl; try have h2 := G.blk 2 rfl; try have h3 := G.blk 3 rfl; try have h4 := G.blk 4 rfl; try have h5 := G.blk 5 rfl
        (repeat refine Zlr ?_)
        exact ret_c1 rfl (rv_agw rfl h3 rfl rfl) ⟨q5, rfl, G.sg, (e3.trans e5).gr, fun h0 => absurd h0 (by simpa using hc), fun h0 n k' hn => absurd (x3 h0 n k' hn) (by simpa using hc)⟩
      (repeat refine Zlr ?_)
      (repeat refine Zlr ?_)
      refine s_call (us := []) (zs := []) (by kernel_rfl) rfl rfl (slotF G.at_ y.nm true y.f (hnm (by omega))) ?_
      rintro _ w ⟨rfl, k⟩
      have G := G.no k
      have hfi : 0 ≤ findA y.nm q5.k.nm (-1) → _ := G.at_.find (s := y.nm)
      have G := G.mv (Sk.need G.at_ (slotB q5 y.nm true) y.f 6)
      obtain ⟨q4, hq2⟩ : ∃ t, needQ (slotB q5 y.nm true) y.f 6 q5 = t := ⟨_, rfl⟩
      obtain ⟨z, hz⟩ : ∃ t, findA y.nm q5.k.nm (-1) = t := ⟨_, rfl⟩
      have e2 : Er q5 q4 := by rw [← hq2]; exact Er.need (by decide)
      have hz2 : q4.c = 0 → 0 ≤ z ∧ z.toNat < (slo q4.f q4.k).length := by
        intro hc
        rw [e2.f, e2.k]
        rw [← hq2] at hc
        obtain ⟨_, h2⟩ := (need_c (by decide)).1 hc
        have h3 : 0 ≤ findA y.nm q5.k.nm (-1) := by
          unfold slotB at h2
          rw [Bool.and_eq_true] at h2
          exact of_decide_eq_true h2.1
        rw [← hz]
        exact ⟨h3, hfi h3⟩
      rw [hq2] at G ⊢
      rw [hz]
      have hok2 : slotB q5 y.nm true = true → q4.c = q5.c := fun hb => by rw [← hq2, hb]; exact congrArg Kq.c (if_neg fun h => by cases h.2)
      clear hq2
      have h0 := G.blk 0 rfl; try have h1 := G.blk 1 rfl; try have h2 := G.blk 2 rfl; try have h3 := G.blk 3 rfl; try have h4 := G.blk 4 rfl; try have h5 := G.blk 5 rfl
      (repeat refine Zlr ?_)
      refine s_stw (vs := kc X q4) rfl rfl rfl rfl rfl h4 rfl (fun w s => ?_)
      have G := G.put 4 rfl s rfl
      have h0 := G.blk 0 rfl; try have h1 := G.blk 1 rfl; try have h2 := G.blk 2 rfl; try have h3 := G.blk 3 rfl; try have h4 := G.blk 4 rfl; try have h5 := G.blk 5 rfl
      (repeat refine Zlr ?_)
      refine s_split 160 rfl (fun _ => ?_) (fun _ => ?_)
      · (repeat (first | refine Zlr ?_ | refine Zn ?_ | refine Zu ?_ | refine Zg ?_ | refine Zgl ?_))
        refine s_call (us := []) (zs := []) (by kernel_rfl) rfl rfl (needE G.at_ _ y.f 8 (by decide)) ?_
        rintro _ w ⟨q6, rfl, g, en, _⟩
        have G := G.call g
        have h0 := G.blk 0 rfl; try have h1 := G.blk 1 rfl; try have h2 := G.blk 2 rfl; try have h3 := G.blk 3 rfl; try have h4 := G.blk 4 rfl; try have h5 := G.blk 5 rfl
        (repeat refine Zlr ?_)
        refine s_stw (vs := kc X q6) rfl rfl rfl rfl rfl h4 rfl (fun w s => ?_)
        have G := G.put 4 rfl s rfl
        have h0 := G.blk 0 rfl; try have h1 := G.blk 1 rfl; try have h2 := G.blk 2 rfl; try have h3 := G.blk 3 rfl; try have h4 := G.blk 4 rfl; try have h5 := G.blk 5 rfl
        (repeat refine Zlr ?_)
        exact l_cut (q6, z) ⟨rfl, rfl, rfl, rfl, trivial⟩ ⟨_, hcs, G.drop 3, (((e3.trans e5).trans e2).trans en).gr, fun _ => Jk.of hgt (fun h => by omega) (fun h => by omega) (fun h => by omega), fun _ n k' hn => (k0_no hgt (by omega) hn).elim⟩
      · (repeat (first | refine Zlr ?_ | refine Zn ?_ | refine Zu ?_ | refine Zg ?_ | refine Zgl ?_))
        refine s_call (us := []) (zs := []) (by kernel_rfl) rfl rfl (needE G.at_ _ y.f 8 (by decide)) ?_
        rintro _ w ⟨q6, rfl, g, en, _⟩
        have G := G.call g
        have h0 := G.blk 0 rfl; try have h1 := G.blk 1 rfl; try have h2 := G.blk 2 rfl; try have h3 := G.blk 3 rfl; try have h4 := G.blk 4 rfl; try have h5 := G.blk 5 rfl
        (repeat refine Zlr ?_)
        refine s_stw (vs := kc X q6) rfl rfl rfl rfl rfl h4 rfl (fun w s => ?_)
        have G := G.put 4 rfl s rfl
        have h0 := G.blk 0 rfl; try have h1 := G.blk 1 rfl; try have h2 := G.blk 2 rfl; try have h3 := G.blk 3 rfl; try have h4 := G.blk 4 rfl; try have h5 := G.blk 5 rfl
        (repeat refine Zlr ?_)
        exact l_cut (q6, z) ⟨rfl, rfl, rfl, rfl, trivial⟩ ⟨_, hcs, G.drop 3, (((e3.trans e5).trans e2).trans en).gr, fun _ => Jk.of hgt (fun h => by omega) (fun h => by omega) (fun h => by omega), fun _ n k' hn => (k0_no hgt (by omega) hn).elim⟩
    (repeat refine Zlr ?_)
    refine c_b rfl (fun hk => ?_) (fun hk5 => ?_)
    · have hk : y.k = 5 := beq_iff_eq.1 hk
      (repeat refine Zlr ?_)
      refine s_call (us := []) (zs := []) (by kernel_rfl) rfl rfl (IH y.a (hva (by omega)) G.at_) ?_
      rintro _ w ⟨q3, a, rfl, g, e3, l3⟩
      have G := G.call g
      have h0 := G.blk 0 rfl; try have h1 := G.blk 1 rfl; try have h2 := G.blk 2 rfl; try have h3 := G.blk 3 rfl; try have h4 := G.blk 4 rfl; try have h5 := G.blk 5 rfl
      (repeat refine Zlr ?_)
      refine s_al rfl (fun b9 w n => ?_)
      have G := G.new n
      have h0 := G.blk 0 rfl; try have h1 := G.blk 1 rfl; try have h2 := G.blk 2 rfl; try have h3 := G.blk 3 rfl; try have h4 := G.blk 4 rfl; try have h5 := G.blk 5 rfl
      (repeat refine Zlr ?_)
      refine s_stw (vs := kc X q3) rfl rfl rfl rfl rfl h0 rfl (fun w s => ?_)
      have G := G.put 0 rfl s rfl
      have h0 := G.blk 0 rfl; try have h1 := G.blk 1 rfl; try have h2 := G.blk 2 rfl; try have h3 := G.blk 3 rfl; try have h4 := G.blk 4 rfl; try have h5 := G.blk 5 rfl
      (repeat refine Zlr ?_)
      refine k_h (fun w' => Kp No X.w w' ∧ w'.heap[b9]? = some (.cells (kc X q3).toArray tC (0, 0)) ∧ w'.heap[b6]? = some (.cells (stC (y, .slice ta y.th.length tc, .slice ea y.el.length ec)).toArray 86 (0, 0))) [(0, false), (1, false), (2, false), (3, false), (5, false), (6, false), (4, true), (7, true), (8, true)] 8 (by kernel_rfl) (waits_of_last (by kernel_rfl)) (by kernel_rfl) (by kernel_rfl) (by kernel_rfl) rfl (fun w6 k6 _ => ?_)
      have G := G.no k6
      have h0 := G.blk 0 rfl; try have h1 := G.blk 1 rfl; try have h2 := G.blk 2 rfl; try have h3 := G.blk 3 rfl; try have h4 := G.blk 4 rfl; try have h5 := G.blk 5 rfl
      have hS := And.intro G.at_.k0 (And.intro h0 h1)
      refine h_v hS (fun w' hw => r_ldw rfl hw.2.1 rfl rfl) ?_
      (repeat (first | refine Zhq ?_ | refine Zhgn ?_ | refine Zhgu ?_ | refine Zhgv ?_))
      refine h_v hS (fun w' hw => r_ld rfl rfl (cell_of_blk hw.2.2 rfl)) ?_
      refine h_call (us := []) (zs := []) (by kernel_rfl) rfl rfl (needE G.at_ _ y.f 8 (by decide)) ?_
      rintro _ w7 ⟨q4, rfl, g, en, hok4⟩
      have G := G.call g
      have h0 := G.blk 0 rfl; try have h1 := G.blk 1 rfl; try have h2 := G.blk 2 rfl; try have h3 := G.blk 3 rfl; try have h4 := G.blk 4 rfl; try have h5 := G.blk 5 rfl
      refine ⟨fun _ => ⟨G.at_.k0, h0, h1⟩, ?_⟩
      have lo4 : q4.k.lo = q.k.lo := by rw [en.k, e3.k]
      have bl4 : q4.k.bl = q.k.bl := by rw [en.k, e3.k]
      refine h_call (us := []) (zs := []) (by kernel_rfl) rfl rfl (blockF G.at_ (n := i) y.th (fun j hj => hsub j (List.mem_append_left _ hj)) ⟨by rw [bl4]; omega, by rw [bl4]; omega, by rw [lo4]; omega, by rw [lo4]; omega⟩ hlt0 fun j hj => IHs j (List.mem_append_left _ hj)) ?_
      rintro _ w8 ⟨q5, rfl, g, bk, j5, x5⟩
      have G := G.call g
      have h0 := G.blk 0 rfl; try have h1 := G.blk 1 rfl; try have h2 := G.blk 2 rfl; try have h3 := G.blk 3 rfl; try have h4 := G.blk 4 rfl; try have h5 := G.blk 5 rfl
      refine ⟨fun _ => ⟨G.at_.k0, h0, h1⟩, ?_⟩
      refine h_st (vs := kc X q5) rfl rfl rfl rfl rfl h3 (Nat.le_of_ble_eq_true rfl) (fun w9 s => ⟨fun h => (h rfl).elim, ?_⟩)
      have s : Sb w8 b (kc X q5) tC w9 := s
      have G := G.put 3 rfl s rfl
      have h0 := G.blk 0 rfl; try have h1 := G.blk 1 rfl; try have h2 := G.blk 2 rfl; try have h3 := G.blk 3 rfl; try have h4 := G.blk 4 rfl; try have h5 := G.blk 5 rfl
      refine h_nil ?_
      (repeat refine Zlr ?_)
      have lo5 : q5.k.lo = q.k.lo := by rw [bk.lo, lo4]
      have bl5 : q5.k.bl = q.k.bl := by rw [bk.bl, bl4]
      have g5 : Gr q q5 := (e3.trans en).gr.trans bk
      refine s_call (us := []) (zs := []) (by kernel_rfl) rfl rfl (blockF G.at_ (n := i) y.el (fun j hj => hsub j (List.mem_append_right _ hj)) ⟨by rw [bl5]; omega, by rw [bl5]; omega, by rw [lo5]; omega, by rw [lo5]; omega⟩ hle0 fun j hj => IHs j (List.mem_append_right _ hj)) ?_
      rintro _ w ⟨q6, rfl, g, g6, j6, x6⟩
      have G := G.call g
      have h0 := G.blk 0 rfl; try have h1 := G.blk 1 rfl; try have h2 := G.blk 2 rfl; try have h3 := G.blk 3 rfl; try have h4 := G.blk 4 rfl; try have h5 := G.blk 5 rfl
      (repeat refine Zlr ?_)
      refine s_stw (vs := kc X q6) rfl rfl rfl rfl rfl h3 rfl (fun w s => ?_)
      have G := G.put 3 rfl s rfl
      have h0 := G.blk 0 rfl; try have h1 := G.blk 1 rfl; try have h2 := G.blk 2 rfl; try have h3 := G.blk 3 rfl; try have h4 := G.blk 4 rfl; try have h5 := G.blk 5 rfl
      (repeat refine Zlr ?_)
      exact l_cut (q6, -1) ⟨rfl, rfl, rfl, rfl, trivial⟩ ⟨_, hcs, G.drop 2, g5.trans g6, fun hc => Jk.of hgt (fun h => by omega) (fun _ j hj => by
        rcases List.mem_append.1 hj with hj | hj
        · have := j5 (g6.c0 hc) j hj; rw [lo4] at this; exact this
        · have := j6 hc j hj; rw [lo5] at this; exact this) (fun h => by omega), fun h0 n k' hn => by
          obtain ⟨n', k1, n1, n2, n3⟩ := k0_5 hgt hk hn
          obtain ⟨m1, m2⟩ := l3 h0 2 n1
          have m3 : q4.c = 0 := (hok4.2 (beq_iff_eq.2 m2)).trans m1
          obtain ⟨m4, m5⟩ := x5 m3 n' k1 (by rw [en.f, en.k, e3.f, e3.k]; exact n2)
          exact x6 m4 n' k' (by rw [bk.f, en.f, e3.f, m5]; exact n3)⟩
    (repeat refine Zlr ?_)
    refine c_b rfl (fun hk => ?_) (fun hk6 => ?_)
    · have hk : y.k = 6 := beq_iff_eq.1 hk
      (repeat refine Zlr ?_)
      refine s_call (us := []) (zs := []) (by kernel_rfl) rfl rfl (IH y.a (hva (by omega)) G.at_) ?_
      rintro _ w ⟨q7, a, rfl, g, e7, l7⟩
      have G := G.call g
      have h0 := G.blk 0 rfl; try have h1 := G.blk 1 rfl; try have h2 := G.blk 2 rfl; try have h3 := G.blk 3 rfl; try have h4 := G.blk 4 rfl; try have h5 := G.blk 5 rfl
      (repeat refine Zlr ?_)
      have hlo7 : q7.k.lo = q.k.lo := by rw [e7.k]
      have hbl7 : q7.k.bl = q.k.bl := by rw [e7.k]
      refine s_al rfl (fun b9 w n => ?_)
      have G := G.new n
      have h0 := G.blk 0 rfl; try have h1 := G.blk 1 rfl; try have h2 := G.blk 2 rfl; try have h3 := G.blk 3 rfl; try have h4 := G.blk 4 rfl; try have h5 := G.blk 5 rfl
      (repeat refine Zlr ?_)
      refine s_stw (vs := kc X q7) rfl rfl rfl rfl rfl h0 rfl (fun w s => ?_)
      have G := G.put 0 rfl s rfl
      have h0 := G.blk 0 rfl; try have h1 := G.blk 1 rfl; try have h2 := G.blk 2 rfl; try have h3 := G.blk 3 rfl; try have h4 := G.blk 4 rfl; try have h5 := G.blk 5 rfl
      (repeat refine Zlr ?_)
      refine s_st (vs := [.int .i64 (q7.k.lo + 1)]) rfl rfl rfl rfl rfl h0 (Nat.le_of_ble_eq_true rfl) (fun w s => ?_)
      have G := (G.put 0 rfl s rfl).mv (Sk.deep (G.put 0 rfl s rfl).at_ q7.k.bl (q7.k.lo + 1))
      obtain ⟨q3, hq3⟩ : ∃ q3 : Kq, { q7 with k := { q7.k with bl := q7.k.bl, lo := q7.k.lo + 1 } } = q3 := ⟨_, rfl⟩
      have G : Wk X w0 q w q3 [(b9, kc X q3, tC), (b6, stC (y, .slice ta y.th.length tc, .slice ea y.el.length ec), 86), (b2, cs2, tC), (b, kc X q, tC)] := by rw [← hq3]; exact G
      have qf : q3.f = q7.f := by rw [← hq3]
      have qb : q3.k.bl = q.k.bl := by rw [← hq3]; exact hbl7
      have ql : q3.k.lo = q.k.lo + 1 := by rw [← hq3, ← hlo7]
      have qs : slo q3.f q3.k = slo q7.f q7.k := by rw [← hq3]; rfl
      have qc : q3.c = q7.c := by rw [← hq3]
      have qk3 : q3.k = { q7.k with lo := q7.k.lo + 1 } := by rw [← hq3]
      clear hq3
      have h0 := G.blk 0 rfl; try have h1 := G.blk 1 rfl; try have h2 := G.blk 2 rfl; try have h3 := G.blk 3 rfl; try have h4 := G.blk 4 rfl; try have h5 := G.blk 5 rfl
      (repeat refine Zlr ?_)
      refine k_h (fun w' => Kp No X.w w' ∧ w'.heap[b9]? = some (.cells (kc X q3).toArray tC (0, 0)) ∧ w'.heap[b6]? = some (.cells (stC (y, .slice ta y.th.length tc, .slice ea y.el.length ec)).toArray 86 (0, 0))) [(0, false), (1, false), (2, false), (3, false), (5, false), (6, false), (4, true), (7, true), (8, true)] 8 (by kernel_rfl) (waits_of_last (by kernel_rfl)) (by kernel_rfl) (by kernel_rfl) (by kernel_rfl) rfl (fun w6 k6 _ => ?_)
      have G := G.no k6
      have h0 := G.blk 0 rfl; try have h1 := G.blk 1 rfl; try have h2 := G.blk 2 rfl; try have h3 := G.blk 3 rfl; try have h4 := G.blk 4 rfl; try have h5 := G.blk 5 rfl
      have hS := And.intro G.at_.k0 (And.intro h0 h1)
      refine h_v hS (fun w' hw => r_ldw rfl hw.2.1 rfl rfl) ?_
      (repeat (first | refine Zhq ?_ | refine Zhgn ?_ | refine Zhgu ?_ | refine Zhgv ?_))
      refine h_v hS (fun w' hw => r_ld rfl rfl (cell_of_blk hw.2.2 rfl)) ?_
      refine h_call (us := []) (zs := []) (by kernel_rfl) rfl rfl (needE G.at_ _ y.f 8 (by decide)) ?_
      rintro _ w7 ⟨q4, rfl, g, en, hok4⟩
      have G := G.call g
      have h0 := G.blk 0 rfl; try have h1 := G.blk 1 rfl; try have h2 := G.blk 2 rfl; try have h3 := G.blk 3 rfl; try have h4 := G.blk 4 rfl; try have h5 := G.blk 5 rfl
      refine ⟨fun _ => ⟨G.at_.k0, h0, h1⟩, ?_⟩
      have lo4 : q4.k.lo = q.k.lo + 1 := by rw [en.k, ql]
      have bl4 : q4.k.bl = q.k.bl := by rw [en.k, qb]
      refine h_call (us := []) (zs := []) (by kernel_rfl) rfl rfl (blockF G.at_ (n := i) y.th (fun j hj => hsub j (List.mem_append_left _ hj)) ⟨by rw [bl4]; omega, by rw [bl4]; omega, by rw [lo4]; omega, by rw [lo4]; omega⟩ hlt0 fun j hj => IHs j (List.mem_append_left _ hj)) ?_
      rintro _ w8 ⟨q5, rfl, g, bk, j5, x5⟩
      have G := G.call g
      have h0 := G.blk 0 rfl; try have h1 := G.blk 1 rfl; try have h2 := G.blk 2 rfl; try have h3 := G.blk 3 rfl; try have h4 := G.blk 4 rfl; try have h5 := G.blk 5 rfl
      refine ⟨fun _ => ⟨G.at_.k0, h0, h1⟩, ?_⟩
      refine h_st (vs := kc X q5) rfl rfl rfl rfl rfl h3 (Nat.le_of_ble_eq_true rfl) (fun w9 s => ⟨fun h => (h rfl).elim, ?_⟩)
      have s : Sb w8 b (kc X q5) tC w9 := s
      have G := G.put 3 rfl s rfl
      have h0 := G.blk 0 rfl; try have h1 := G.blk 1 rfl; try have h2 := G.blk 2 rfl; try have h3 := G.blk 3 rfl; try have h4 := G.blk 4 rfl; try have h5 := G.blk 5 rfl
      have l5 : q5.k.lo = q.k.lo + 1 := by rw [bk.lo, lo4]
      refine h_nil ?_
      (repeat refine Zlr ?_)
      refine s_st (vs := [.int .i64 (q5.k.lo - 1)]) rfl rfl rfl rfl rfl h3 (Nat.le_of_ble_eq_true rfl) (fun w s => ?_)
      have G := (G.put 3 rfl s rfl).mv (Sk.deep (G.put 3 rfl s rfl).at_ q5.k.bl (q5.k.lo - 1))
      obtain ⟨q6, hq6⟩ : ∃ q6 : Kq, { q5 with k := { q5.k with bl := q5.k.bl, lo := q5.k.lo - 1 } } = q6 := ⟨_, rfl⟩
      have G : Wk X w0 q w q6 [(b9, kc X q3, tC), (b6, stC (y, .slice ta y.th.length tc, .slice ea y.el.length ec), 86), (b2, cs2, tC), (b, kc X q6, tC)] := by rw [← hq6]; exact G
      have qf6 : q6.f = q5.f := by rw [← hq6]
      have qb6 : q6.k.bl = q5.k.bl := by rw [← hq6]
      have ql6 : q6.k.lo = q5.k.lo - 1 := by rw [← hq6]
      have qs6 : slo q6.f q6.k = slo q5.f q5.k := by rw [← hq6]; rfl
      have qc6 : q6.c = q5.c := by rw [← hq6]
      have qk6 : q6.k = { q5.k with lo := q5.k.lo - 1 } := by rw [← hq6]
      clear hq6
      have h0 := G.blk 0 rfl; try have h1 := G.blk 1 rfl; try have h2 := G.blk 2 rfl; try have h3 := G.blk 3 rfl; try have h4 := G.blk 4 rfl; try have h5 := G.blk 5 rfl
      (repeat refine Zlr ?_)
      exact l_cut (q6, -1) ⟨rfl, rfl, rfl, rfl, trivial⟩ ⟨_, hcs, G.drop 2, ⟨fun h0 => by rw [qc6]; exact bk.er (en.er (by rw [qc]; exact e7.er h0)), by rw [qf6, bk.f, en.f, qf, e7.f], by rw [qb6, bk.bl, en.k, qb], by rw [ql6, l5]; omega, by
        rw [qs6]; refine Nat.le_trans ?_ bk.sl; rw [en.f, en.k, qs, e7.f, e7.k]; exact Nat.le_refl _⟩,
        fun hc => Jk.of hgt (fun h => by omega) (fun h => by omega) (fun _ j hj => (j5 (by rw [← qc6]; exact hc) j hj).mono fun _ => trivial), fun h0 n k' hn => by
          obtain ⟨n', k1, n1, n2, n3⟩ := k0_6 hgt hk hn
          obtain ⟨m1, m2⟩ := l7 h0 2 n1
          have m3 : q4.c = 0 := (hok4.2 (beq_iff_eq.2 m2)).trans (qc.trans m1)
          obtain ⟨m4, m5⟩ := x5 m3 n' k1 (by rw [en.f, en.k, qf, qk3, e7.f, e7.k]; exact n2)
          exact ⟨qc6.trans m4, by rw [qk6, m5]; exact n3⟩⟩
    (repeat refine Zlr ?_)
    refine k_cs 212 rfl (fun hk => ?_) (fun hk7 => ?_)
    · have hk : y.k = 7 := beq_iff_eq.1 hk
      refine c_t rfl ?_
      (repeat refine Zlr ?_)
      refine c_t rfl ?_
      (repeat refine Zlr ?_)
      refine s_call (us := []) (zs := []) (by kernel_rfl) rfl rfl (needE G.at_ _ y.f 9 (by decide)) ?_
      rintro _ w ⟨q3, rfl, g, en, hok⟩
      have G := G.call g
      have h0 := G.blk 0 rfl; try have h1 := G.blk 1 rfl; try have h2 := G.blk 2 rfl; try have h3 := G.blk 3 rfl; try have h4 := G.blk 4 rfl; try have h5 := G.blk 5 rfl
      (repeat refine Zlr ?_)
      refine s_stw (vs := kc X q3) rfl rfl rfl rfl rfl h2 rfl (fun w s => ?_)
      have G := G.put 2 rfl s rfl
      have h0 := G.blk 0 rfl; try have h1 := G.blk 1 rfl; try have h2 := G.blk 2 rfl; try have h3 := G.blk 3 rfl; try have h4 := G.blk 4 rfl; try have h5 := G.blk 5 rfl
      (repeat refine Zlr ?_)
      exact l_cut (q3, -1) ⟨rfl, rfl, rfl, rfl, trivial⟩ ⟨_, hcs, G.drop 1, en.gr, fun hc => Jk.of hgt (fun _ => of_decide_eq_true (hok.1 hc)) (fun h => by omega) (fun h => by omega), fun _ n k' hn => (k0_no hgt (by omega) hn).elim⟩
    refine c_f rfl ?_
    (repeat refine Zlr ?_)
    refine c_b rfl (fun hk => ?_) (fun hk8 => ?_)
    · have hk : y.k = 8 := beq_iff_eq.1 hk
      (repeat refine Zlr ?_)
      refine s_call (us := []) (zs := []) (by kernel_rfl) rfl rfl (needE G.at_ _ y.f 9 (by decide)) ?_
      rintro _ w ⟨q3, rfl, g, en, hok⟩
      have G := G.call g
      have h0 := G.blk 0 rfl; try have h1 := G.blk 1 rfl; try have h2 := G.blk 2 rfl; try have h3 := G.blk 3 rfl; try have h4 := G.blk 4 rfl; try have h5 := G.blk 5 rfl
      (repeat refine Zlr ?_)
      refine s_stw (vs := kc X q3) rfl rfl rfl rfl rfl h2 rfl (fun w s => ?_)
      have G := G.put 2 rfl s rfl
      have h0 := G.blk 0 rfl; try have h1 := G.blk 1 rfl; try have h2 := G.blk 2 rfl; try have h3 := G.blk 3 rfl; try have h4 := G.blk 4 rfl; try have h5 := G.blk 5 rfl
      (repeat refine Zlr ?_)
      exact l_cut (q3, -1) ⟨rfl, rfl, rfl, rfl, trivial⟩ ⟨_, hcs, G.drop 1, en.gr, fun hc => Jk.of hgt (fun _ => of_decide_eq_true (hok.1 hc)) (fun h => by omega) (fun h => by omega), fun _ n k' hn => (k0_no hgt (by omega) hn).elim⟩
    have nk7 : y.k ≠ 7 := fun e => by rw [e] at hk7; cases hk7
    have nk8 : y.k ≠ 8 := fun e => by rw [e] at hk8; cases hk8
    have nk5 : y.k ≠ 5 := fun e => by rw [e] at hk5; cases hk5
    have nk6 : y.k ≠ 6 := fun e => by rw [e] at hk6; cases hk6
    (repeat refine Zlr ?_)
    refine c_b rfl (fun hk => ?_) (fun hk9 => ?_)
    · have hk : y.k = 9 := beq_iff_eq.1 hk
      (repeat refine Zlr ?_)
      refine c_b rfl (fun ha0 => ?_) (fun ha0 => ?_)
      · (repeat refine Zlr ?_)
        refine s_call (us := []) (zs := []) (by kernel_rfl) rfl rfl (IH y.a (hv9 hk (of_decide_eq_true ha0)) G.at_) ?_
        rintro _ w ⟨q3, a, rfl, g, e3, l3⟩
        have G := G.call g
        have h0 := G.blk 0 rfl; try have h1 := G.blk 1 rfl; try have h2 := G.blk 2 rfl; try have h3 := G.blk 3 rfl; try have h4 := G.blk 4 rfl; try have h5 := G.blk 5 rfl
        (repeat refine Zlr ?_)
        refine s_stw (vs := kc X q3) rfl rfl rfl rfl rfl h2 rfl (fun w s => ?_)
        have G := G.put 2 rfl s rfl
        have h0 := G.blk 0 rfl; try have h1 := G.blk 1 rfl; try have h2 := G.blk 2 rfl; try have h3 := G.blk 3 rfl; try have h4 := G.blk 4 rfl; try have h5 := G.blk 5 rfl
        (repeat refine Zlr ?_)
        have hff := G.at_.ff
        obtain ⟨fy, hfy⟩ : ∃ fy, X.S.fn[q3.f]? = some fy := ⟨_, List.getElem?_eq_getElem hff⟩
        obtain ⟨fg, flv, fmv, hfa, _, _, hfc⟩ := h.fn hfy
        have hfs : Value.slice X.uf.a X.uf.n X.uf.c = .slice (some ⟨fg, 0, none⟩) X.uf.n X.uf.c := by rw [hfa]
        have hfn := h.fnn
        refine k_h (fun w' => Kp No X.w w' ∧ w'.heap[b]? = some (.cells (kc X q3).toArray tC (0, 0))) [(0, false), (1, false), (2, false), (3, false), (4, false), (5, false), (6, false), (7, false), (8, false), (9, false), (10, false), (11, false), (12, true), (13, true)] 13 (by kernel_rfl) (waits_of_last (by kernel_rfl)) (by kernel_rfl) (by kernel_rfl) (by kernel_rfl) rfl (fun w6 k6 _ => ?_)
        have G := G.no k6
        have h0 := G.blk 0 rfl; try have h1 := G.blk 1 rfl; try have h2 := G.blk 2 rfl; try have h3 := G.blk 3 rfl; try have h4 := G.blk 4 rfl; try have h5 := G.blk 5 rfl
        have hS := And.intro G.at_.k0 h2
        refine h_v hS (fun w' hw => r_ldw rfl hw.2 rfl rfl) ?_
        (repeat (first | refine Zhq ?_ | refine Zhgn ?_ | refine Zhgu ?_ | refine Zhgv ?_))
        refine h_v hS (fun w' hw => r_ld rfl rfl (cell_of_blk hw.2 rfl)) ?_
        (repeat (first | refine Zhq ?_ | refine Zhgn ?_ | refine Zhgu ?_ | refine Zhgv ?_))
        refine h_v hS (fun w' hw => r_ld rfl rfl (cell_of_blk hw.2 rfl)) ?_
        (repeat (first | refine Zhq ?_ | refine Zhgn ?_ | refine Zhgu ?_ | refine Zhgv ?_))
        refine h_v hS (fun w' hw => r_ia (size := 6) rfl rfl hfs rfl (by omega) (by omega)) ?_
        (repeat (first | refine Zhq ?_ | refine Zhgn ?_ | refine Zhgu ?_ | refine Zhgv ?_))
        refine h_v hS (fun w' hw => r_ld rfl rfl (hfc w' hw.1 4 _ rfl)) ?_
        (repeat (first | refine Zhq ?_ | refine Zhgn ?_ | refine Zhgu ?_ | refine Zhgv ?_))
        refine h_call (us := []) (zs := []) (by kernel_rfl) rfl rfl (needE G.at_ _ y.f 8 (by decide)) ?_
        rintro _ w7 ⟨q5, rfl, g, en, _⟩
        have G := G.call g
        have h0 := G.blk 0 rfl; try have h1 := G.blk 1 rfl; try have h2 := G.blk 2 rfl; try have h3 := G.blk 3 rfl; try have h4 := G.blk 4 rfl; try have h5 := G.blk 5 rfl
        refine ⟨fun _ => ⟨G.at_.k0, h2⟩, ?_⟩
        refine h_st (vs := kc X q5) rfl rfl rfl rfl rfl h2 (Nat.le_of_ble_eq_true rfl) (fun w8 s => ⟨fun h => (h rfl).elim, ?_⟩)
        have s : Sb w7 b (kc X q5) tC w8 := s
        have G := G.put 2 rfl s rfl
        have h0 := G.blk 0 rfl; try have h1 := G.blk 1 rfl; try have h2 := G.blk 2 rfl; try have h3 := G.blk 3 rfl; try have h4 := G.blk 4 rfl; try have h5 := G.blk 5 rfl
        refine h_nil ?_
        (repeat refine Zlr ?_)
        exact l_cut (q5, -1) ⟨rfl, rfl, rfl, rfl, trivial⟩ ⟨_, hcs, G.drop 1, (e3.trans en).gr, fun _ => Jk.of hgt (fun h => by omega) (fun h => by omega) (fun h => by omega), fun _ n k' hn => (k0_no hgt (by omega) hn).elim⟩
      · have e3 := Er.refl q
        (repeat refine Zlr ?_)
        have hff := G.at_.ff
        obtain ⟨fy, hfy⟩ : ∃ fy, X.S.fn[q.f]? = some fy := ⟨_, List.getElem?_eq_getElem hff⟩
        obtain ⟨fg, flv, fmv, hfa, _, _, hfc⟩ := h.fn hfy
        have hfs : Value.slice X.uf.a X.uf.n X.uf.c = .slice (some ⟨fg, 0, none⟩) X.uf.n X.uf.c := by rw [hfa]
        have hfn := h.fnn
        refine k_h (fun w' => Kp No X.w w' ∧ w'.heap[b]? = some (.cells (kc X q).toArray tC (0, 0))) [(0, false), (1, false), (2, false), (3, false), (4, false), (5, false), (6, false), (7, false), (8, false), (9, false), (10, false), (11, false), (12, true), (13, true)] 13 (by kernel_rfl) (waits_of_last (by kernel_rfl)) (by kernel_rfl) (by kernel_rfl) (by kernel_rfl) rfl (fun w6 k6 _ => ?_)
        have G := G.no k6
        have h0 := G.blk 0 rfl; try have h1 := G.blk 1 rfl; try have h2 := G.blk 2 rfl; try have h3 := G.blk 3 rfl; try have h4 := G.blk 4 rfl; try have h5 := G.blk 5 rfl
        have hS := And.intro G.at_.k0 h2
        refine h_v hS (fun w' hw => r_ldw rfl hw.2 rfl rfl) ?_
        (repeat (first | refine Zhq ?_ | refine Zhgn ?_ | refine Zhgu ?_ | refine Zhgv ?_))
        refine h_v hS (fun w' hw => r_ld rfl rfl (cell_of_blk hw.2 rfl)) ?_
        (repeat (first | refine Zhq ?_ | refine Zhgn ?_ | refine Zhgu ?_ | refine Zhgv ?_))
        refine h_v hS (fun w' hw => r_ld rfl rfl (cell_of_blk hw.2 rfl)) ?_
        (repeat (first | refine Zhq ?_ | refine Zhgn ?_ | refine Zhgu ?_ | refine Zhgv ?_))
        refine h_v hS (fun w' hw => r_ia (size := 6) rfl rfl hfs rfl (by omega) (by omega)) ?_
        (repeat (first | refine Zhq ?_ | refine Zhgn ?_ | refine Zhgu ?_ | refine Zhgv ?_))
        refine h_v hS (fun w' hw => r_ld rfl rfl (hfc w' hw.1 4 _ rfl)) ?_
        (repeat (first | refine Zhq ?_ | refine Zhgn ?_ | refine Zhgu ?_ | refine Zhgv ?_))
        refine h_call (us := []) (zs := []) (by kernel_rfl) rfl rfl (needE G.at_ _ y.f 8 (by decide)) ?_
        rintro _ w7 ⟨q5, rfl, g, en, _⟩
        have G := G.call g
        have h0 := G.blk 0 rfl; try have h1 := G.blk 1 rfl; try have h2 := G.blk 2 rfl; try have h3 := G.blk 3 rfl; try have h4 := G.blk 4 rfl; try have h5 := G.blk 5 rfl
        refine ⟨fun _ => ⟨G.at_.k0, h2⟩, ?_⟩
        refine h_st (vs := kc X q5) rfl rfl rfl rfl rfl h2 (Nat.le_of_ble_eq_true rfl) (fun w8 s => ⟨fun h => (h rfl).elim, ?_⟩)
        have s : Sb w7 b (kc X q5) tC w8 := s
        have G := G.put 2 rfl s rfl
        have h0 := G.blk 0 rfl; try have h1 := G.blk 1 rfl; try have h2 := G.blk 2 rfl; try have h3 := G.blk 3 rfl; try have h4 := G.blk 4 rfl; try have h5 := G.blk 5 rfl
        refine h_nil ?_
        (repeat refine Zlr ?_)
        exact l_cut (q5, -1) ⟨rfl, rfl, rfl, rfl, trivial⟩ ⟨_, hcs, G.drop 1, (e3.trans en).gr, fun _ => Jk.of hgt (fun h => by omega) (fun h => by omega) (fun h => by omega), fun _ n k' hn => (k0_no hgt (by omega) hn).elim⟩
    (repeat refine Zlr ?_)
    refine c_b rfl (fun hk => ?_) (fun hk10 => ?_)
    · have hk : y.k = 10 := beq_iff_eq.1 hk
      (repeat refine Zlr ?_)
      refine s_call (us := []) (zs := []) (by kernel_rfl) rfl rfl (IH y.a (hva (by omega)) G.at_) ?_
      rintro _ w ⟨q3, a, rfl, g, e3, l3⟩
      have G := G.call g
      have h0 := G.blk 0 rfl; try have h1 := G.blk 1 rfl; try have h2 := G.blk 2 rfl; try have h3 := G.blk 3 rfl; try have h4 := G.blk 4 rfl; try have h5 := G.blk 5 rfl
      (repeat refine Zlr ?_)
      refine s_stw (vs := kc X q3) rfl rfl rfl rfl rfl h2 rfl (fun w s => ?_)
      have G := G.put 2 rfl s rfl
      have h0 := G.blk 0 rfl; try have h1 := G.blk 1 rfl; try have h2 := G.blk 2 rfl; try have h3 := G.blk 3 rfl; try have h4 := G.blk 4 rfl; try have h5 := G.blk 5 rfl
      (repeat refine Zlr ?_)
      have x3 : q.c = 0 → ∀ n k', kst0 X.S q.f n q.k i = some k' → q3.c = 0 ∧ q3.k = k' := fun h0 n k' hn => by
        obtain ⟨r, n1, n2⟩ := k0_10 hgt hk hn
        exact ⟨(l3 h0 r n1).1, by rw [e3.k]; exact n2⟩
      exact l_cut (q3, -1) ⟨rfl, rfl, rfl, rfl, trivial⟩ ⟨_, hcs, G.drop 1, e3.gr, fun _ => Jk.of hgt (fun h => by omega) (fun h => by omega) (fun h => by omega), x3⟩
    (repeat refine Zlr ?_)
    refine c_b rfl (fun hk => ?_) (fun hk11 => ?_)
    · have hk : y.k = 11 := beq_iff_eq.1 hk
      (repeat refine Zlr ?_)
      refine s_call (us := []) (zs := []) (by kernel_rfl) rfl rfl (IHe y.a (hva (by omega)) G.at_) ?_
      rintro _ w ⟨q3, a, rfl, g, e3, l3⟩
      have G := G.call g
      have h0 := G.blk 0 rfl; try have h1 := G.blk 1 rfl; try have h2 := G.blk 2 rfl; try have h3 := G.blk 3 rfl; try have h4 := G.blk 4 rfl; try have h5 := G.blk 5 rfl
      (repeat refine Zlr ?_)
      refine s_stw (vs := kc X q3) rfl rfl rfl rfl rfl h2 rfl (fun w s => ?_)
      have G := G.put 2 rfl s rfl
      have h0 := G.blk 0 rfl; try have h1 := G.blk 1 rfl; try have h2 := G.blk 2 rfl; try have h3 := G.blk 3 rfl; try have h4 := G.blk 4 rfl; try have h5 := G.blk 5 rfl
      (repeat refine Zlr ?_)
      exact l_cut (q3, -1) ⟨rfl, rfl, rfl, rfl, trivial⟩ ⟨_, hcs, G.drop 1, e3.gr, fun _ => Jk.of hgt (fun h => by omega) (fun h => by omega) (fun h => by omega), fun _ n k' hn => (k0_no hgt (by omega) hn).elim⟩
    · (repeat refine Zlr ?_)
      exact l_cut (q, -1) ⟨rfl, rfl, rfl, rfl, trivial⟩ ⟨_, hcs, G.drop 1, Gr.refl q, fun _ => Jk.of hgt (fun h => by omega) (fun h => by omega) (fun h => by omega), fun _ n k' hn => (k0_no hgt ⟨beq_eq_false_iff_ne.1 hk1, beq_eq_false_iff_ne.1 hk3, nk5, nk6, beq_eq_false_iff_ne.1 hk10⟩ hn).elim⟩
  · clear G h0 h1 h2 hcs
    rintro ⟨q', kd⟩ l w5 ⟨cs, hcs, G, er⟩
    simp only at G er
    try dsimp only
    have h0 := G.blk 0 rfl; try have h1 := G.blk 1 rfl; try have h2 := G.blk 2 rfl; try have h3 := G.blk 3 rfl; try have h4 := G.blk 4 rfl; try have h5 := G.blk 5 rfl
    (repeat refine Zlr ?_)
    refine c_b rfl (fun hc3 => ?_) (fun hc3 => ?_)
    · (repeat refine Zlr ?_)
      obtain ⟨tg, cur, hta, htn, htb, htl⟩ := tab_at G.at_.pu hi
      have hts : Value.slice X.pu.a X.pu.n X.pu.c = .slice (some ⟨tg, 0, none⟩) X.pu.n X.pu.c := by rw [hta]
      (repeat refine Zlr ?_)
      refine s_v (r_ia rfl rfl hts rfl (by omega) (by omega)) ?_
      (repeat refine Zlr ?_)
      refine s_st (vs := [.int .i64 kd]) rfl rfl rfl rfl rfl htb (by rw [hi0]; exact htl) (fun w s => ?_)
      rw [hi0] at s
      have s : Sb _ tg (cur.set i (.int .i64 kd)) tInt w := s
      have G := G.call (Sk.tab G.at_ (.inr <| .inr <| .inl <| congrArg Value.ownBlock hts) htb s)
      have h0 := G.blk 0 rfl; try have h1 := G.blk 1 rfl; try have h2 := G.blk 2 rfl; try have h3 := G.blk 3 rfl; try have h4 := G.blk 4 rfl; try have h5 := G.blk 5 rfl
      (repeat refine Zlr ?_)
      refine s_stw (vs := kc X q') rfl rfl rfl rfl rfl h0 hcs (fun w6 s6 => ?_)
      have G := G.put 0 rfl s6 rfl
      have h0 := G.blk 0 rfl; try have h1 := G.blk 1 rfl; try have h2 := G.blk 2 rfl; try have h3 := G.blk 3 rfl; try have h4 := G.blk 4 rfl; try have h5 := G.blk 5 rfl
      (repeat refine Zlr ?_)
      exact ret_c1 rfl (rv_agw rfl h0 rfl rfl) ⟨q', rfl, G.sg, er⟩
    · (repeat refine Zlr ?_)
      refine s_stw (vs := kc X q') rfl rfl rfl rfl rfl h0 hcs (fun w6 s6 => ?_)
      have G := G.put 0 rfl s6 rfl
      have h0 := G.blk 0 rfl; try have h1 := G.blk 1 rfl; try have h2 := G.blk 2 rfl; try have h3 := G.blk 3 rfl; try have h4 := G.blk 4 rfl; try have h5 := G.blk 5 rfl
      (repeat refine Zlr ?_)
      exact ret_c1 rfl (rv_agw rfl h0 rfl rfl) ⟨q', rfl, G.sg, er⟩
end
end Go.Proofs.Ytkllhfajldnpoaa.Ck
namespace Go.Proofs.Ytkllhfajldnpoaa.Ck
open Go Go.RowKit Fw Sy Rf
set_option linter.unusedVariables false
set_option maxRecDepth 20000
theorem wd_rgb {L : List Int} (hL : Rgb L) (s : PS) : Rgb (wd (envOf L) s) := by
  intro c hc
  unfold wd at hc
  cases h : (envOf L).W[s.i]? with
  | none => rw [h] at hc; cases hc
  | some l =>
    rw [h] at hc
    obtain ⟨t, _, e⟩ := List.mem_map.1 (show l ∈ (Tk.allT L).1.map fun t => (L.take t.2.2.toNat).drop t.2.1.toNat from List.mem_of_getElem? h)
    rw [← e] at hc
    exact hL c (List.mem_of_mem_take (List.mem_of_mem_drop hc))
theorem nam_rgb {L : List Int} (hL : Rgb L) {w : List Int} (h : Nam (envOf L) w) : Rgb w := by
  obtain ⟨s, _, rfl⟩ := h
  exact wd_rgb hL s
theorem sg_rgb : ∀ l ∈ sgAll, Rgb l ∧ l ≠ [] := by
  have h : (sgAll.all fun l => l.all (fun c => decide (0 ≤ c ∧ c < 256)) && !l.isEmpty) = true := by decide
  intro l hl
  have h := List.all_eq_true.1 h l hl
  rw [Bool.and_eq_true] at h
  refine ⟨fun c hc => of_decide_eq_true (List.all_eq_true.1 h.1 c hc), fun e => ?_⟩
  subst e
  exact absurd h.2 (by decide)
theorem chain_lt {ex : List Ex} {j : Nat} {f e : Int} : ∀ {l : List Int} {last : Int}, Chain ex j f e last l → ∀ k ∈ l, 0 ≤ k ∧ k < j := by
  intro l
  induction l with
  | nil => intro last _ k hk; cases hk
  | cons a r ih =>
    rintro last ⟨m, y, rfl, h1, _, _, _, _, h6⟩ k hk
    rcases List.mem_cons.1 hk with rfl | hk
    · omega
    · exact ih h6 k hk
theorem pg_of {L : List Int} {S : PS} (h : prs L = .ok () S) (hL : Rgb L) (b1 : S.ex.length ≤ 1000001) (b2 : S.st.length ≤ 1000) (b3 : S.fn.length ≤ 32) : Pg S := by
  have W := prs_whole h
  have F := prs_wf h
  refine ⟨fun i x hx => ⟨chain_lt (W.ex i x hx), fun hk => ?_, fun hk => ?_⟩, fun i y hy => ⟨fun j hj => ?_, fun hk => ?_, fun hk => ?_, fun hk => ?_, fun hk h0 => ?_⟩, fun i f hf => ⟨?_, ?_, fun j hj => ?_⟩, (prs_end h).2, b1, b2, b3⟩
  · rcases F.ex x (List.mem_of_getElem? hx) with h | h | h | h | h | h | h
    · omega
    · omega
    · omega
    · omega
    · exact nam_rgb hL h.2
    · omega
    · omega
  · rcases F.ex x (List.mem_of_getElem? hx) with h | h | h | h | h | h | h
    · omega
    · omega
    · omega
    · omega
    · omega
    · omega
    · exact sg_rgb _ h.2
  · obtain ⟨m, z, rfl, h1, _⟩ := W.st i y hy j hj
    omega
  · rcases F.st y (List.mem_of_getElem? hy) with h | h | h | h | h | h | h | h | h
    · exact nam_rgb hL h.2.1
    · exact nam_rgb hL h.2.1
    · exact nam_rgb hL h.2.1
    all_goals omega
  · rcases F.st y (List.mem_of_getElem? hy) with h | h | h | h | h | h | h | h | h
    · exact h.2.2.1
    · omega
    · exact h.2.2.1
    · exact h.2
    · exact h.2.1
    · omega
    · omega
    · exact h.2.1
    · exact h.2.1
  · rcases F.st y (List.mem_of_getElem? hy) with h | h | h | h | h | h | h | h | h
    · omega
    · omega
    · exact h.2.2.2.1
    all_goals omega
  · rcases F.st y (List.mem_of_getElem? hy) with h | h | h | h | h | h | h | h | h
    all_goals try omega
    rcases h.2.1 with h | h
    · omega
    · exact h
  · exact nam_rgb hL (F.fn f (List.mem_of_getElem? hf)).1
  · exact fun p hp => nam_rgb hL ((F.fn f (List.mem_of_getElem? hf)).2.1 p hp)
  · obtain ⟨m, y, rfl, h1, _⟩ := W.fn f (List.mem_of_getElem? hf) j hj
    have := (List.getElem?_eq_some_iff.1 h1).1
    omega
end Go.Proofs.Ytkllhfajldnpoaa.Ck
namespace Go.Proofs.Ytkllhfajldnpoaa.Ck
open Go Go.RowKit Fw Sy Rf
set_option linter.unusedVariables false
set_option maxRecDepth 20000
abbrev tInfo : TypeId := 69
abbrev tTree : TypeId := 39
abbrev nS : Sl := ⟨none, 0, 0⟩
/-- Lists that are being made: each in memory of its own. -/
structure Tb (w0 w : World) (L : List (TypeId × Sl × List Value)) : Prop where
  k0 : Kp No w0 w
  own : ∀ (i : Nat) e v cs, L[i]? = some (e, v, cs) → (e = tInt ∨ e = tInts) ∧ w.ownsRow w0.heap.size e 1 v.v cs.length cs
  dj : ∀ (i j : Nat) e v cs e' v' cs' b, L[i]? = some (e, v, cs) → L[j]? = some (e', v', cs') → v.v.ownBlock = some b → v'.v.ownBlock = some b → i = j
section
variable {w0 w w' : World} {L : List (TypeId × Sl × List Value)}
theorem okK_ne {e T : TypeId} (he : e = tInt ∨ e = tInts) (hT : okK T = true) : Nat.beq e T = false := by
  simp only [okK, Bool.not_eq_true', Bool.or_eq_false_iff] at hT
  rcases he with rfl | rfl
  · have := hT.1
    cases h : Nat.beq tInt T with
    | false => rfl
    | true => rw [← Nat.eq_of_beq_eq_true h] at this; cases this
  · have := hT.2
    cases h : Nat.beq tInts T with
    | false => rfl
    | true => rw [← Nat.eq_of_beq_eq_true h] at this; cases this
theorem Tb.no (h : Tb w0 w L) (k : Kp No w w') : Tb w0 w' L := ⟨h.k0.no k, fun i e v cs hi => ⟨(h.own i e v cs hi).1, own_kp (h.own i e v cs hi).2 k fun _ _ h => h⟩, h.dj⟩
theorem Tb.box (h : Tb w0 w L) {b : Nat} {cs : Array Value} {T : TypeId} (hb : w.heap[b]? = some (.cells cs T (0, 0))) (hT : okK T = true) (hg : w0.heap.size ≤ b) (k : Kp (fun i => i = b) w w') : Tb w0 w' L :=
  ⟨h.k0.from0' k fun i hi e => by omega, fun i e v cs hi => ⟨(h.own i e v cs hi).1, own_kp (h.own i e v cs hi).2 k fun g hg e' => by
    obtain ⟨c, hc⟩ := own_ty (h.own i e v cs hi).2 hg
    exact ty_ne hc hb (okK_ne (h.own i e v cs hi).1 hT) e'⟩, h.dj⟩
theorem Tb.app (h : Tb w0 w L) {i : Nat} {e : TypeId} {v v' : Sl} {cs xs : List Value} (hi : L[i]? = some (e, v, cs)) (a : Ap w w0.heap.size e 1 v.v xs.length xs v'.v w') : Tb w0 w' (L.set i (e, v', xs)) := by
  have hil := (List.getElem?_eq_some_iff.1 hi).1
  have hn : ∀ g, v.v.ownBlock = some g → w0.heap.size ≤ g ∧ g < w.heap.size := fun g hg => own_lt (h.own i e v cs hi).2 hg
  refine ⟨h.k0.from0' a.kp fun g hg e' => (by have := (hn g e'.symm).1; omega), fun j e1 v1 cs1 hj => ?_, fun j k e1 v1 cs1 e2 v2 cs2 b hj hk h1 h2 => ?_⟩
  · rw [List.getElem?_set] at hj
    split at hj
    · cases hj
      exact ⟨(h.own i e v cs hi).1, a.own⟩
    · rename_i hne
      exact ⟨(h.own j e1 v1 cs1 hj).1, own_kp (h.own j e1 v1 cs1 hj).2 a.kp fun g hg e' => hne (h.dj i j _ _ _ _ _ _ g hi hj e'.symm hg)⟩
  · rw [List.getElem?_set] at hj hk
    have old : ∀ {j : Nat} {e1 : TypeId} {v1 : Sl} {cs1 : List Value}, L[j]? = some (e1, v1, cs1) → v1.v.ownBlock = some b → v'.v.ownBlock = some b → i = j := fun {j e1 v1 cs1} hj h1 h2 => by
      rcases a.row b h2 with h3 | h3
      · exact h.dj i j _ _ _ _ _ _ b hi hj h3 h1
      · have := (own_lt (h.own j e1 v1 cs1 hj).2 h1).2; omega
    split at hj
    · rename_i e3
      split at hk
      · rename_i e4; omega
      · cases hj
        rw [← e3]
        exact old hk h2 h1
    · split at hk
      · rename_i _ e4
        cases hk
        rw [← e4]
        exact (old hj h1 h2).symm
      · exact h.dj j k _ _ _ _ _ _ b hj hk h1 h2
end
/-- These, and boxes of our own. -/
structure Pw (w0 w : World) (L : List (TypeId × Sl × List Value)) (l : List (Nat × List Value × TypeId)) : Prop where
  tb : Tb w0 w L
  bx : ∀ (i b : Nat) (cs : List Value) (T : TypeId), l[i]? = some (b, cs, T) → w0.heap.size ≤ b ∧ w.heap[b]? = some (.cells cs.toArray T (0, 0)) ∧ okK T = true
  nd : ∀ (i j b : Nat) (cs cs' : List Value) (T T' : TypeId), l[i]? = some (b, cs, T) → l[j]? = some (b, cs', T') → i = j
section
variable {w0 w w' : World} {L : List (TypeId × Sl × List Value)} {l : List (Nat × List Value × TypeId)}
theorem Pw.blk (h : Pw w0 w L l) (i : Nat) {b : Nat} {cs : List Value} {T : TypeId} (hi : l[i]? = some (b, cs, T)) : w.heap[b]? = some (.cells cs.toArray T (0, 0)) := (h.bx i b cs T hi).2.1
theorem Pw.no (h : Pw w0 w L l) (k : Kp No w w') : Pw w0 w' L l := ⟨h.tb.no k, fun i b cs T hi => ⟨(h.bx i b cs T hi).1, k.get0 (h.bx i b cs T hi).2.1, (h.bx i b cs T hi).2.2⟩, h.nd⟩
theorem Pw.start (h : Tb w0 w L) : Pw w0 w L [] := ⟨h, fun i b cs T h => by simp at h, fun i j b cs cs' T T' h => by simp at h⟩
theorem Pw.new (h : Pw w0 w L l) {b : Nat} {cs : List Value} {T : TypeId} (n : Nb w b cs T w') (hT : okK T = true) : Pw w0 w' L ((b, cs, T) :: l) := by
  have h' := h.no n.kp
  have old : ∀ {i b' : Nat} {cs' : List Value} {T' : TypeId}, l[i]? = some (b', cs', T') → b' ≠ b := fun hi e => by
    have := lt_of_get (h.bx _ _ _ _ hi).2.1
    have := n.ge
    omega
  refine ⟨h'.tb, fun i b' cs' T' hi => ?_, fun i j b' cs1 cs2 T1 T2 hi hj => ?_⟩
  · cases i with
    | zero =>
      simp at hi
      obtain ⟨rfl, rfl, rfl⟩ := hi
      exact ⟨Nat.le_trans h.tb.k0.size n.ge, n.blk, hT⟩
    | succ i => exact h'.bx i b' cs' T' (by simpa using hi)
  · cases i with
    | zero =>
      cases j with
      | zero => rfl
      | succ j =>
        simp at hi hj
        exact (old hj hi.1.symm).elim
    | succ i =>
      cases j with
      | zero => simp at hi hj; exact (old hi hj.1.symm).elim
      | succ j => rw [h.nd i j b' cs1 cs2 T1 T2 (by simpa using hi) (by simpa using hj)]
theorem Pw.put (h : Pw w0 w L l) (i : Nat) {b : Nat} {cs cs' : List Value} {T : TypeId} (hi : l[i]? = some (b, cs, T)) (k : Sb w b cs' T w') : Pw w0 w' L (l.set i (b, cs', T)) := by
  obtain ⟨h1, h2, h3⟩ := h.bx i b cs T hi
  have hl : i < l.length := (List.getElem?_eq_some_iff.1 hi).1
  have at' : ∀ {j b' cs1 T1}, (l.set i (b, cs', T))[j]? = some (b', cs1, T1) → ∃ cs2, l[j]? = some (b', cs2, T1) := fun {j b' cs1 T1} hj => by
    rw [List.getElem?_set] at hj
    split at hj
    · rename_i e
      subst e
      cases hj
      exact ⟨cs, hi⟩
    · exact ⟨cs1, hj⟩
  refine ⟨h.tb.box h2 h3 h1 k.kp, fun j b' cs1 T1 hj => ?_, fun j1 j2 b' cs1 cs2 T1 T2 hj1 hj2 => ?_⟩
  · rw [List.getElem?_set] at hj
    split at hj
    · cases hj
      exact ⟨h1, k.blk, h3⟩
    · rename_i hne
      obtain ⟨k1, k2, k3⟩ := h.bx j b' cs1 T1 hj
      exact ⟨k1, k.kp.get k2 fun e => hne (by subst e; exact h.nd _ _ _ _ _ _ _ hi hj), k3⟩
  · obtain ⟨_, e1⟩ := at' hj1
    obtain ⟨_, e2⟩ := at' hj2
    exact h.nd _ _ _ _ _ _ _ e1 e2
theorem Pw.app (h : Pw w0 w L l) (i : Nat) {e : TypeId} {v v' : Sl} {cs xs : List Value} (hi : L[i]? = some (e, v, cs)) (a : Ap w w0.heap.size e 1 v.v xs.length xs v'.v w') : Pw w0 w' (L.set i (e, v', xs)) l :=
  ⟨h.tb.app hi a, fun j b cs1 T hj => by
    obtain ⟨k1, k2, k3⟩ := h.bx j b cs1 T hj
    refine ⟨k1, a.kp.get k2 fun e' => ?_, k3⟩
    obtain ⟨c, hc⟩ := own_ty (h.tb.own i e v cs hi).2 e'.symm
    exact ty_ne hc k2 (okK_ne (h.tb.own i e v cs hi).1 k3) rfl, h.nd⟩
end
/-- The small function 'need', wherever it is called. -/
theorem needF0 (X : Kc) (q : Kq) (w : World) (ok : Bool) (p c : Int) : Ret Try.prog 45 [kv X q, .bool ok, .int .i64 p, .int .i64 c] w fun v w1 => v = kv X (needQ ok p c q) ∧ Kp No w w1 := by
  refine ret_enter Try.func45 rfl Try.ntmps45 rfl ?_
  (repeat refine Zlr ?_)
  refine s_box (cs := kc X q) rfl rfl (fun b w1 n => ?_)
  have G := (Pw.start (L := []) (w0 := w) ⟨Kp.refl _ _, fun i e v cs h => by simp at h, fun i j e v cs e' v' cs' b h => by simp at h⟩).new n rfl
  (repeat refine Zlr ?_)
  refine s_al rfl (fun b2 w2 n2 => ?_)
  have G := G.new n2 rfl
  have h0 := G.blk 0 rfl; try have h1 := G.blk 1 rfl; try have h2 := G.blk 2 rfl; try have h3 := G.blk 3 rfl; try have h4 := G.blk 4 rfl; try have h5 := G.blk 5 rfl
  (repeat refine Zlr ?_)
  have good : ¬ (q.c = 0 ∧ ok = false) → needQ ok p c q = q := fun h => if_neg h
  by_cases hc : q.c = 0
  · refine s_set 12 true rfl (beq_iff_eq.2 hc) ?_
    (repeat (first | refine Zlr ?_ | refine Zn ?_ | refine Zu ?_ | refine Zg ?_ | refine Zgl ?_))
    cases ok with
    | false =>
      refine c_t rfl ?_
      have e : needQ false p c q = { q with c := c, p := p } := if_pos ⟨hc, rfl⟩
      rw [e]
      (repeat refine Zlr ?_)
      refine s_st (vs := [.int .i64 c]) rfl rfl rfl rfl rfl h1 (Nat.le_of_ble_eq_true rfl) (fun w3 s3 => ?_)
      have s3 : Sb w2 b (kc X { q with c := c }) tC w3 := s3
      have G := G.put 1 rfl s3
      have h0 := G.blk 0 rfl; try have h1 := G.blk 1 rfl; try have h2 := G.blk 2 rfl; try have h3 := G.blk 3 rfl; try have h4 := G.blk 4 rfl; try have h5 := G.blk 5 rfl
      (repeat refine Zlr ?_)
      refine s_st (vs := [.int .i64 p]) rfl rfl rfl rfl rfl h1 (Nat.le_of_ble_eq_true rfl) (fun w4 s4 => ?_)
      have s4 : Sb w3 b (kc X { q with c := c, p := p }) tC w4 := s4
      have G := G.put 1 rfl s4
      have h0 := G.blk 0 rfl; try have h1 := G.blk 1 rfl; try have h2 := G.blk 2 rfl; try have h3 := G.blk 3 rfl; try have h4 := G.blk 4 rfl; try have h5 := G.blk 5 rfl
      (repeat refine Zlr ?_)
      refine s_stw (vs := kc X { q with c := c, p := p }) rfl rfl rfl rfl rfl h0 rfl (fun w5 s5 => ?_)
      have G := G.put 0 rfl s5
      have h0 := G.blk 0 rfl; try have h1 := G.blk 1 rfl; try have h2 := G.blk 2 rfl; try have h3 := G.blk 3 rfl; try have h4 := G.blk 4 rfl; try have h5 := G.blk 5 rfl
      (repeat refine Zlr ?_)
      exact ret_c1 rfl (rv_agw rfl h0 rfl rfl) ⟨rfl, G.tb.k0⟩
    | true =>
      refine c_f rfl ?_
      rw [good (fun h => by cases h.2)]
      (repeat refine Zlr ?_)
      refine s_stw (vs := kc X q) rfl rfl rfl rfl rfl h0 rfl (fun w5 s5 => ?_)
      have G := G.put 0 rfl s5
      have h0 := G.blk 0 rfl; try have h1 := G.blk 1 rfl; try have h2 := G.blk 2 rfl; try have h3 := G.blk 3 rfl; try have h4 := G.blk 4 rfl; try have h5 := G.blk 5 rfl
      (repeat refine Zlr ?_)
      exact ret_c1 rfl (rv_agw rfl h0 rfl rfl) ⟨rfl, G.tb.k0⟩
  · refine s_set 12 false rfl (beq_eq_false_iff_ne.2 hc) ?_
    (repeat (first | refine Zlr ?_ | refine Zn ?_ | refine Zu ?_ | refine Zg ?_ | refine Zgl ?_))
    refine c_f rfl ?_
    rw [good (fun h => hc h.1)]
    (repeat refine Zlr ?_)
    refine s_stw (vs := kc X q) rfl rfl rfl rfl rfl h0 rfl (fun w5 s5 => ?_)
    have G := G.put 0 rfl s5
    have h0 := G.blk 0 rfl; try have h1 := G.blk 1 rfl; try have h2 := G.blk 2 rfl; try have h3 := G.blk 3 rfl; try have h4 := G.blk 4 rfl; try have h5 := G.blk 5 rfl
    (repeat refine Zlr ?_)
    exact ret_c1 rfl (rv_agw rfl h0 rfl rfl) ⟨rfl, G.tb.k0⟩
end Go.Proofs.Ytkllhfajldnpoaa.Ck
