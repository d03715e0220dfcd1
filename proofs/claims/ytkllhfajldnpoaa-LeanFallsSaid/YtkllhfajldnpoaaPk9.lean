/- What the proofs of this seat lean on, part 9. -/
import Derived.Test.YtkllhfajldnpoaaPk8
namespace Go.Proofs.Ytkllhfajldnpoaa.Fw
open Go Go.RowKit
/-- Since a world nothing old has changed but M; boxes of our own. -/
structure Lw (wE : World) (M : Nat → Prop) (w : World) (l : List (Nat × List Value × TypeId)) : Prop where
  kE : Kp M wE w
  bx : ∀ (i b : Nat) (cs : List Value) (T : TypeId), l[i]? = some (b, cs, T) → (M b ∨ wE.heap.size ≤ b) ∧ w.heap[b]? = some (.cells cs.toArray T (0, 0))
  nd : ∀ (i j b : Nat) (cs cs' : List Value) (T T' : TypeId), l[i]? = some (b, cs, T) → l[j]? = some (b, cs', T') → i = j
section
variable {wE w w' : World} {M : Nat → Prop} {l : List (Nat × List Value × TypeId)}
theorem Lw.blk (h : Lw wE M w l) (i : Nat) {b : Nat} {cs : List Value} {T : TypeId} (hi : l[i]? = some (b, cs, T)) : w.heap[b]? = some (.cells cs.toArray T (0, 0)) := (h.bx i b cs T hi).2
theorem Lw.start (w : World) : Lw w No w [] := ⟨Kp.refl _ _, fun i b cs T h => by simp at h, fun i j b cs cs' T T' h => by simp at h⟩
theorem Lw.one {g : Nat} {cs : List Value} {T : TypeId} (h : w.heap[g]? = some (.cells cs.toArray T (0, 0))) : Lw w (fun i => i = g) w [(g, cs, T)] :=
  ⟨Kp.refl _ _, fun i b cs' T' hi => by
    cases i with
    | zero => simp at hi; obtain ⟨rfl, rfl, rfl⟩ := hi; exact ⟨.inl rfl, h⟩
    | succ i => simp at hi, fun i j b cs1 cs2 T1 T2 h1 h2 => by
    cases i with
    | zero => cases j with
      | zero => rfl
      | succ j => simp at h2
    | succ i => simp at h1⟩
theorem Lw.no (h : Lw wE M w l) (k : Kp No w w') : Lw wE M w' l := ⟨h.kE.no k, fun i b cs T hi => ⟨(h.bx i b cs T hi).1, k.get0 (h.bx i b cs T hi).2⟩, h.nd⟩
theorem Lw.new (h : Lw wE M w l) {b : Nat} {cs : List Value} {T : TypeId} (n : Nb w b cs T w') : Lw wE M w' ((b, cs, T) :: l) := by
  have h' := h.no n.kp
  have old : ∀ {i b' : Nat} {cs' : List Value} {T' : TypeId}, l[i]? = some (b', cs', T') → b' ≠ b := fun hi e => by
    have := lt_of_get (h.bx _ _ _ _ hi).2
    have := n.ge
    omega
  refine ⟨h'.kE, fun i b' cs' T' hi => ?_, fun i j b' cs1 cs2 T1 T2 hi hj => ?_⟩
  · cases i with
    | zero =>
      simp at hi
      obtain ⟨rfl, rfl, rfl⟩ := hi
      exact ⟨.inr (Nat.le_trans h.kE.size n.ge), n.blk⟩
    | succ i => exact h'.bx i b' cs' T' (by simpa using hi)
  · cases i with
    | zero =>
      cases j with
      | zero => rfl
      | succ j =>
        simp at hi hj
        exact (old hj hi.1.symm).elim
    | succ i =>
      cases j with
      | zero => simp at hi hj; exact (old hi hj.1.symm).elim
      | succ j => rw [h.nd i j b' cs1 cs2 T1 T2 (by simpa using hi) (by simpa using hj)]
/-- One of the boxes has changed, and no other old one. -/
theorem Lw.mod (h : Lw wE M w l) (i : Nat) {b : Nat} {cs cs' : List Value} {T : TypeId} (hi : l[i]? = some (b, cs, T)) (k : Kp (fun j => j = b) w w') (hb : w'.heap[b]? = some (.cells cs'.toArray T (0, 0))) : Lw wE M w' (l.set i (b, cs', T)) := by
  obtain ⟨h1, h2⟩ := h.bx i b cs T hi
  have at' : ∀ {j b' cs1 T1}, (l.set i (b, cs', T))[j]? = some (b', cs1, T1) → ∃ cs2, l[j]? = some (b', cs2, T1) := fun {j b' cs1 T1} hj => by
    rw [List.getElem?_set] at hj
    split at hj
    · rename_i e
      subst e
      split at hj
      · cases hj; exact ⟨cs, hi⟩
      · cases hj
    · exact ⟨cs1, hj⟩
  refine ⟨h.kE.trans k fun j hj e => ?_, fun j b' cs1 T1 hj => ?_, fun j1 j2 b' cs1 cs2 T1 T2 hj1 hj2 => ?_⟩
  · subst e
    rcases h1 with h1 | h1
    · exact h1
    · omega
  · rw [List.getElem?_set] at hj
    split at hj
    · split at hj
      · cases hj
        exact ⟨h1, hb⟩
      · cases hj
    · rename_i hne
      obtain ⟨k1, k2⟩ := h.bx j b' cs1 T1 hj
      exact ⟨k1, k.get k2 fun e => hne (by subst e; exact h.nd _ _ _ _ _ _ _ hi hj)⟩
  · obtain ⟨_, e1⟩ := at' hj1
    obtain ⟨_, e2⟩ := at' hj2
    exact h.nd _ _ _ _ _ _ _ e1 e2
theorem Lw.put (h : Lw wE M w l) (i : Nat) {b : Nat} {cs cs' : List Value} {T : TypeId} (hi : l[i]? = some (b, cs, T)) (k : Sb w b cs' T w') : Lw wE M w' (l.set i (b, cs', T)) := h.mod i hi k.kp k.blk
theorem Lw.base (h : Lw wE M w l) {w0 : World} (k : Kp No w0 wE) (hM : ∀ i, M i → w0.heap.size ≤ i) : Kp No w0 w := k.from0' h.kE fun i hi e => by have := hM i e; omega
theorem Lw.drop (h : Lw wE M w l) (k : Nat) : Lw wE M w (l.drop k) :=
  ⟨h.kE, fun i b cs T hi => h.bx (k + i) b cs T (by rw [← List.getElem?_drop]; exact hi), fun i j b cs cs' T T' h1 h2 => by
    have := h.nd (k + i) (k + j) b cs cs' T T' (by rw [← List.getElem?_drop]; exact h1) (by rw [← List.getElem?_drop]; exact h2)
    omega⟩
end
theorem setAt_flat {α : Type} {f : α → List Value} {sz : Nat} (hf : ∀ x, (f x).length = sz) (xs : List α) (i : Nat) (x : α) (hi : i < xs.length) : setAt (xs.flatMap f) (i * sz) (f x) = (xs.set i x).flatMap f := by
  rw [setAt_eq _ _ _ (by
    rw [flat_length hf, hf]
    have : (i + 1) * sz ≤ xs.length * sz := Nat.mul_le_mul_right _ hi
    rw [Nat.add_mul] at this
    omega), flat_take hf, hf, show i * sz + sz = (i + 1) * sz by rw [Nat.add_mul, Nat.one_mul], flat_drop hf, List.set_eq_take_append_cons_drop, if_pos hi]
  simp
end Go.Proofs.Ytkllhfajldnpoaa.Fw
namespace Go.Proofs.Ytkllhfajldnpoaa.Ck
open Go Go.RowKit Fw Sy Rf Fn
set_option linter.unusedVariables false
set_option maxRecDepth 20000
abbrev tAt : TypeId := 84
abbrev tStmt : TypeId := 86
def plC (r : Pl × Value) : List Value := [r.2, .int .i64 r.1.p, .int .i64 r.1.inn, .int .i64 r.1.lp]
theorem plC_len (r : Pl × Value) : (plC r).length = 4 := rfl
/-- Where statements stand, in memory. -/
def Pm (w : World) (rs : List (Pl × Value)) : Prop := ∀ r ∈ rs, LI w r.2 r.1.l
theorem LI.kp {w w' : World} {v : Value} {l : List Int} (h : LI w v l) (k : Kp No w w') : LI w' v l := own_kp h k fun _ _ h => h
/-- What is left of laying a list. -/
def Ly (st : List St) (n : Nat) (l : List Int) (inn lp : Int) (i : Nat) (r : List Int) (out : List Pl) : List Pl := match n with | 0 => out | m + 1 => layR st (lay st m) l inn lp i r out
theorem Ly_0 {st : List St} {n : Nat} {l : List Int} {inn lp : Int} {out : List Pl} : Ly st n l inn lp 0 l out = lay st n out l inn lp := by cases n <;> rfl
theorem Ly_nil {st : List St} {n i : Nat} {l : List Int} {inn lp : Int} {out : List Pl} : Ly st n l inn lp i [] out = out := by cases n <;> rfl
def LayR (S : PS) (w0 w : World) (g N n : Nat) (l : List Int) (inn lp : Int) (rs : List (Pl × Value)) (v : Value) (w1 : World) : Prop :=
  v = .slice (some ⟨g, 0, none⟩) N N ∧ ∃ rs' : List (Pl × Value), rs'.length = N ∧ Pm w0 rs' ∧ rs'.map Prod.fst = lay S.st n (rs.map Prod.fst) l inn lp ∧ w1.heap[g]? = some (.cells (rs'.flatMap plC).toArray tAt (0, 0)) ∧ Kp (fun i => i = g) w w1
section
variable {ux us uf : Sl} {S : PS} {w0 : World}
/-- What is asked of a program's lists. -/
structure Ty (w0 : World) (ux us uf : Sl) (S : PS) : Prop where
  tr : Tr w0 ux.v us.v uf.v S
  ch : ∀ (i : Nat) y, S.st[i]? = some y → ∀ j ∈ y.th ++ y.el, 0 ≤ j ∧ j < i
  fn : ∀ f ∈ S.fn, ∀ j ∈ f.bd, 0 ≤ j ∧ j < S.st.length
  sb : S.st.length ≤ 1000
  fb : S.fn.length ≤ 32
theorem Ty.usn (T : Ty w0 ux us uf S) : us.n = S.st.length := by
  obtain ⟨_, _, _, _, _, _, _, h, _⟩ := Tr.val T.tr
  simp only [Sl.v, Value.slice.injEq] at h
  exact h.2.1
theorem Ty.ufn (T : Ty w0 ux us uf S) : uf.n = S.fn.length := by
  obtain ⟨_, _, _, _, _, _, _, _, h⟩ := Tr.val T.tr
  simp only [Sl.v, Value.slice.injEq] at h
  exact h.2.1
theorem Ty.st (T : Ty w0 ux us uf S) {i : Nat} {x : St} (hx : S.st[i]? = some x) : ∃ g ta tc ea ec, us.a = some ⟨g, 0, none⟩ ∧ LI w0 (.slice ta x.th.length tc) x.th ∧ LI w0 (.slice ea x.el.length ec) x.el ∧ ∀ w', Kp No w0 w' → ∀ (j : Nat) (u : Value), (stC (x, .slice ta x.th.length tc, .slice ea x.el.length ec))[j]? = some u → w'.cell? ⟨g, 0 + (i : Int).toNat * 9 + j, none⟩ = some u := by
  obtain ⟨g, lv, mv, e, hl, hm, hc⟩ := Tr.st (a := us.a) (n := us.n) (c := us.c) T.tr hx
  obtain ⟨ta, tc, rfl⟩ := hl.val
  obtain ⟨ea, ec, rfl⟩ := hm.val
  exact ⟨g, ta, tc, ea, ec, e, hl, hm, fun w' k j u hj => k.cell0 (hc j u hj)⟩
set_option maxHeartbeats 2000000 in
theorem layF (T : Ty w0 ux us uf S) {g : Nat} (hg : w0.heap.size ≤ g) : ∀ (n : Nat) (l : List Int) (la : Option Addr) (lc : Nat) (inn lp : Int) (w : World) (rs : List (Pl × Value)), Kp No w0 w → LI w0 (.slice la l.length lc) l → (∀ x ∈ l, 0 ≤ x ∧ x < n ∧ x < S.st.length) →
    w.heap[g]? = some (.cells (rs.flatMap plC).toArray tAt (0, 0)) → rs.length = S.st.length → Pm w0 rs →
    Ret Try.prog 36 [.agg #[ux.v, us.v, uf.v], .slice (some ⟨g, 0, none⟩) S.st.length S.st.length, .slice la l.length lc, .int .i64 inn, .int .i64 lp] w (LayR S w0 w g S.st.length n l inn lp rs) := by
  have huf := T.usn
  have hsb := T.sb
  intro n
  induction n using Nat.strongRecOn with
  | ind n ih =>
  intro l la lc inn lp w rs hk hl hx hb hN hp
  obtain ⟨a', c', e, hlat⟩ := li_at hl
  cases e
  have hll : l.length ≤ 9223372036854775807 := by have := own_mx hl; unfold maxLen at this; omega
  refine ret_enter Try.func36 rfl Try.ntmps36 rfl ?_
  (repeat refine Zlr ?_)
  refine s_box (cs := [ux.v, us.v, uf.v]) rfl rfl (fun b5 w1 n5 => ?_)
  have G := (Lw.one hb).new n5
  have h0 := G.blk 0 rfl; try have h1 := G.blk 1 rfl; try have h2 := G.blk 2 rfl; try have h3 := G.blk 3 rfl; try have h4 := G.blk 4 rfl; try have h5 := G.blk 5 rfl
  (repeat refine Zlr ?_)
  refine k_loop (σ := Nat × List (Pl × Value)) (fun t => [(1, .slice (some ⟨g, 0, none⟩) S.st.length S.st.length), (2, .slice la l.length lc), (3, .int .i64 inn), (4, .int .i64 lp), (5, .pointer (some ⟨b5, 0, none⟩)), (15, .int .i64 (l.length : Int)), (16, .int .i64 (t.1 : Int))])
    (fun t w' => t.1 ≤ l.length ∧ t.2.length = S.st.length ∧ Pm w0 t.2 ∧ Ly S.st n l inn lp t.1 (l.drop t.1) (t.2.map Prod.fst) = lay S.st n (rs.map Prod.fst) l inn lp ∧ Lw w (fun i => i = g) w' [(b5, [ux.v, us.v, uf.v], tTree), (g, t.2.flatMap plC, tAt)])
    (fun t => l.length - t.1) (0, rs) ⟨rfl, rfl, rfl, rfl, rfl, rfl, rfl, trivial⟩ ⟨Nat.zero_le _, hN, hp, by rw [List.drop_zero]; exact Ly_0, G⟩ ?_
  clear G h0 h1 n5 hb hN hp
  rintro ⟨i, rs2⟩ l' w2 ⟨hi, hN, hp, hly, G⟩
  simp only at hi hN hp hly G
  try dsimp only
  have h0 := G.blk 0 rfl; try have h1 := G.blk 1 rfl; try have h2 := G.blk 2 rfl; try have h3 := G.blk 3 rfl; try have h4 := G.blk 4 rfl; try have h5 := G.blk 5 rfl
  (repeat refine Zlr ?_)
  refine c_dec rfl (fun hlt => ?_) (fun hge => ?_)
  · have hlt : i < l.length := by omega
    obtain ⟨x, hxi⟩ : ∃ x, l[i]? = some x := ⟨_, List.getElem?_eq_getElem hlt⟩
    obtain ⟨x0, xn, xN⟩ := hx x (List.mem_of_getElem? hxi)
    obtain ⟨lg, hla, hlc⟩ := hlat i x hxi
    have hls : Value.slice la l.length lc = .slice (some ⟨lg, 0, none⟩) l.length lc := by rw [hla]
    obtain ⟨s, hs⟩ : ∃ s, S.st[x.toNat]? = some s := ⟨_, List.getElem?_eq_getElem (by omega)⟩
    obtain ⟨sg, ta, tc, ea, ec, hsa, hth, hel, hsc⟩ := T.st hs
    have hus : Value.slice us.a us.n us.c = .slice (some ⟨sg, 0, none⟩) us.n us.c := by rw [hsa]
    have ex : ((x.toNat : Nat) : Int) = x := by omega
    rw [ex] at hsc
    have hM : ∀ i, (fun i => i = g) i → w0.heap.size ≤ i := fun i e => by subst e; exact hg
    (repeat refine Zlr ?_)
    have K2 := G.base hk hM
    refine k_h (fun w' => Kp No w2 w') [(0, false), (1, false), (2, false), (3, false), (4, false), (5, false), (6, false), (7, false), (8, true), (9, true)] 9 (by kernel_rfl) (waits_of_last (by kernel_rfl)) (by kernel_rfl) (by kernel_rfl) (by kernel_rfl) rfl (fun w3 k3 _ => ?_)
    have g0 := h0
    have hd1 : ∀ w', Kp No w2 w' → w'.heap[b5]? = some (.cells [ux.v, us.v, uf.v].toArray tTree (0, 0)) := fun w' hw => hw.get0 g0
    have hd2 : ∀ w', Kp No w2 w' → w'.cell? ⟨lg, 0 + (i : Int).toNat * 1, none⟩ = some (.int .i64 x) := fun w' hw => hlc w' (K2.no hw)
    (repeat (first | refine Zhq ?_ | refine Zhgn ?_ | refine Zhgu ?_ | refine Zhgv ?_))
    refine h_v k3 (fun w' hw => r_ia (size := 1) rfl rfl hls rfl (by omega) (by omega)) ?_
    (repeat (first | refine Zhq ?_ | refine Zhgn ?_ | refine Zhgu ?_ | refine Zhgv ?_))
    refine h_v k3 (fun w' hw => r_ia (size := 9) rfl rfl hus rfl (by omega) (by omega)) ?_
    refine h_v k3 (fun w' hw => r_lda (n := 9) (vs := stC (s, .slice ta s.th.length tc, .slice ea s.el.length ec)) rfl rfl rfl rfl (cells_ofc rfl fun j u hj => hsc _ (K2.no hw) j u hj)) ?_
    have G := G.no k3
    refine h_nb (r := fun a => .pointer (some a)) (r_al rfl) (fun b12 w4 n4 => ⟨fun _ => k3.no n4.kp, ?_⟩)
    have G := G.new n4
    have h0 := G.blk 0 rfl; try have h1 := G.blk 1 rfl; try have h2 := G.blk 2 rfl; try have h3 := G.blk 3 rfl; try have h4 := G.blk 4 rfl; try have h5 := G.blk 5 rfl
    refine h_st (vs := stC (s, .slice ta s.th.length tc, .slice ea s.el.length ec)) rfl rfl rfl rfl rfl h0 (Nat.le_of_ble_eq_true rfl) (fun w5 s5 => ⟨fun h => (h rfl).elim, ?_⟩)
    have s5 : Sb w4 b12 (stC (s, .slice ta s.th.length tc, .slice ea s.el.length ec)) tStmt w5 := s5
    have G := G.put 0 rfl s5
    refine h_nil ?_
    clear hd1 hd2 g0 s5 n4
    have h0 := G.blk 0 rfl; try have h1 := G.blk 1 rfl; try have h2 := G.blk 2 rfl; try have h3 := G.blk 3 rfl; try have h4 := G.blk 4 rfl; try have h5 := G.blk 5 rfl
    have K5 := G.base hk hM
    (repeat refine Zlr ?_)
    refine s_v (r_ia (size := 1) rfl rfl hls rfl (by omega) (by omega)) ?_
    refine s_v (r_ld rfl rfl (hlc _ K5)) ?_
    (repeat refine Zlr ?_)
    refine s_v (r_ia (size := 4) rfl rfl rfl rfl (by omega) (by omega)) ?_
    refine s_st (vs := plC (⟨l, i, inn, lp⟩, .slice la l.length lc)) rfl rfl rfl rfl rfl h2 (by
      rw [flat_length plC_len, plC_len]
      have : (x.toNat + 1) * 4 ≤ S.st.length * 4 := Nat.mul_le_mul_right _ (by omega)
      omega) (fun w6 s6 => ?_)
    have s6 : Sb w5 g ((rs2.set x.toNat (⟨l, i, inn, lp⟩, .slice la l.length lc)).flatMap plC) tAt w6 := by
      rw [← setAt_flat plC_len _ _ _ (by omega)]
      rw [show x.toNat * 4 = 0 + x.toNat * 4 + 0 by omega]
      exact s6
    have G := G.put 2 rfl s6
    obtain ⟨rs3, hr3⟩ : ∃ rs3, rs2.set x.toNat (⟨l, i, inn, lp⟩, .slice la l.length lc) = rs3 := ⟨_, rfl⟩
    rw [hr3] at G
    have G : Lw w (fun i => i = g) w6 [(b12, stC (s, .slice ta s.th.length tc, .slice ea s.el.length ec), tStmt), (b5, [ux.v, us.v, uf.v], tTree), (g, rs3.flatMap plC, tAt)] := G
    have hN3 : rs3.length = S.st.length := by rw [← hr3, List.length_set]; exact hN
    have hp3 : Pm w0 rs3 := fun r hr => by
      rw [← hr3] at hr
      rcases List.mem_or_eq_of_mem_set hr with h | h
      · exact hp r h
      · rw [h]; exact hl
    have hm3 : rs3.map Prod.fst = (rs2.map Prod.fst).set x.toNat ⟨l, i, inn, lp⟩ := by rw [← hr3, List.map_set]
    clear s6 h0 h1 h2 hr3
    have h0 := G.blk 0 rfl; try have h1 := G.blk 1 rfl; try have h2 := G.blk 2 rfl; try have h3 := G.blk 3 rfl; try have h4 := G.blk 4 rfl; try have h5 := G.blk 5 rfl
    have K6 := G.base hk hM
    have egs : gs S.st x = s := by unfold gs; rw [List.getD_eq_getElem?_getD, hs]; rfl
    (repeat refine Zlr ?_)
    refine k_cutc (σ := Unit) (fun _ => [(1, .slice (some ⟨g, 0, none⟩) S.st.length S.st.length), (2, .slice la l.length lc), (3, .int .i64 inn), (4, .int .i64 lp), (5, .pointer (some ⟨b5, 0, none⟩)), (11, .int .i64 (i : Int)), (12, .pointer (some ⟨b12, 0, none⟩)), (13, .int .i64 (inner S.st x lp)), (15, .int .i64 (l.length : Int)), (16, .int .i64 (i : Int))]) (fun _ w' => w' = w6) ?_ ?_
    · refine c_b rfl (fun hk6 => ?_) (fun hk6 => ?_)
      · have hk6 : s.k = 6 := beq_iff_eq.1 hk6
        have ei : inner S.st x lp = x := by unfold inner; rw [egs, if_pos hk6]
        (repeat refine Zlr ?_)
        refine s_v (r_ia (size := 1) rfl rfl hls rfl (by omega) (by omega)) ?_
        refine s_v (r_ld rfl rfl (hlc _ K6)) ?_
        (repeat refine Zlr ?_)
        exact l_cut () ⟨rfl, rfl, rfl, rfl, rfl, rfl, rfl, by rw [ei]; rfl, rfl, rfl, trivial⟩ rfl
      · have hk6 : s.k ≠ 6 := beq_eq_false_iff_ne.1 hk6
        have ei : inner S.st x lp = lp := by unfold inner; rw [egs, if_neg hk6]
        (repeat refine Zlr ?_)
        exact l_cut () ⟨rfl, rfl, rfl, rfl, rfl, rfl, rfl, by rw [ei]; rfl, rfl, rfl, trivial⟩ rfl
    rintro _ l2 w7 rfl
    have n5g : b5 ≠ g := fun e => by
      have := G.nd 1 2 b5 _ _ _ _ rfl (by rw [e]; rfl)
      omega
    have n12g : b12 ≠ g := fun e => by
      have := G.nd 0 2 b12 _ _ _ _ rfl (by rw [e]; rfl)
      omega
    have K7 := K6
    clear K6
    obtain ⟨m, rfl⟩ : ∃ m, n = m + 1 := ⟨n - 1, by omega⟩
    (repeat refine Zlr ?_)
    have k7 : Kp (fun i => i = g) w7 w7 := Kp.refl _ _
    have g0 := h0
    have g1 := h1
    have hd1 : ∀ w', Kp (fun i => i = g) w7 w' → w'.heap[b5]? = some (.cells [ux.v, us.v, uf.v].toArray tTree (0, 0)) := fun w' hw => hw.get g1 n5g
    have hd2 : ∀ w', Kp (fun i => i = g) w7 w' → w'.heap[b12]? = some (.cells (stC (s, .slice ta s.th.length tc, .slice ea s.el.length ec)).toArray tStmt (0, 0)) := fun w' hw => hw.get g0 n12g
    have hd3 : ∀ w', Kp (fun i => i = g) w7 w' → w'.cell? ⟨lg, 0 + (i : Int).toNat * 1, none⟩ = some (.int .i64 x) := fun w' hw => hlc w' (K7.from0' hw fun i hi e => by omega)
    refine k_h (fun w' => Kp (fun i => i = g) w7 w') [(0, false), (1, false), (2, false), (3, false), (4, false), (5, false), (6, false), (7, false), (8, false), (9, true), (10, false)] 10 (by kernel_rfl) (waits_of_last (by kernel_rfl)) (by kernel_rfl) (by kernel_rfl) (by kernel_rfl) rfl (fun w8 k8 _ => ?_)
    have k8' : Kp (fun i => i = g) w7 w8 := k8.mono fun _ _ h => h.elim
    refine h_v k8' (fun w' hw => r_ldw rfl (hd1 w' hw) rfl rfl) ?_
    (repeat (first | refine Zhq ?_ | refine Zhgn ?_ | refine Zhgu ?_ | refine Zhgv ?_))
    refine h_v k8' (fun w' hw => r_ia (size := 1) rfl rfl hls rfl (by omega) (by omega)) ?_
    (repeat (first | refine Zhq ?_ | refine Zhgn ?_ | refine Zhgu ?_ | refine Zhgv ?_))
    have G := G.no k8
    have h2 := G.blk 2 rfl
    refine h_call (us := []) (zs := []) (by kernel_rfl) rfl rfl (ih m (by omega) s.th ta tc x (inner S.st x lp) w8 rs3 (K7.no k8) hth (fun y hy => by
      obtain ⟨y1, y2⟩ := T.ch _ _ hs y (List.mem_append.2 (.inl hy))
      exact ⟨y1, by omega, by omega⟩) h2 hN3 hp3) ?_
    rintro _ w9 ⟨rfl, rs4, hN4, hp4, hm4, hb9, k9⟩
    have G := G.mod 2 rfl k9 hb9
    refine ⟨fun _ => k8'.trans k9 fun _ _ h => h, ?_⟩
    have k10 : Kp (fun i => i = g) w7 w9 := k8'.trans k9 fun _ _ h => h
    refine h_v k10 (fun w' hw => r_as rfl) ?_
    refine h_nil ?_
    have G : Lw w (fun i => i = g) w9 [(b12, stC (s, .slice ta s.th.length tc, .slice ea s.el.length ec), tStmt), (b5, [ux.v, us.v, uf.v], tTree), (g, rs4.flatMap plC, tAt)] := G
    clear hd1 hd2 hd3 g0 g1 h0 h1 h2 k7 k8 k8' k9 k10 hb9
    have h0 := G.blk 0 rfl; try have h1 := G.blk 1 rfl; try have h2 := G.blk 2 rfl; try have h3 := G.blk 3 rfl; try have h4 := G.blk 4 rfl; try have h5 := G.blk 5 rfl
    have K7 := G.base hk hM
    (repeat refine Zlr ?_)
    have k7 : Kp (fun i => i = g) w9 w9 := Kp.refl _ _
    have g0 := h0
    have g1 := h1
    have hd1 : ∀ w', Kp (fun i => i = g) w9 w' → w'.heap[b5]? = some (.cells [ux.v, us.v, uf.v].toArray tTree (0, 0)) := fun w' hw => hw.get g1 n5g
    have hd2 : ∀ w', Kp (fun i => i = g) w9 w' → w'.heap[b12]? = some (.cells (stC (s, .slice ta s.th.length tc, .slice ea s.el.length ec)).toArray tStmt (0, 0)) := fun w' hw => hw.get g0 n12g
    have hd3 : ∀ w', Kp (fun i => i = g) w9 w' → w'.cell? ⟨lg, 0 + (i : Int).toNat * 1, none⟩ = some (.int .i64 x) := fun w' hw => hlc w' (K7.from0' hw fun i hi e => by omega)
    refine k_h (fun w' => Kp (fun i => i = g) w9 w') [(0, false), (1, false), (2, false), (3, false), (4, false), (5, false), (6, false), (7, false), (8, false), (9, true), (10, false)] 10 (by kernel_rfl) (waits_of_last (by kernel_rfl)) (by kernel_rfl) (by kernel_rfl) (by kernel_rfl) rfl (fun wA k8 _ => ?_)
    have k8' : Kp (fun i => i = g) w9 wA := k8.mono fun _ _ h => h.elim
    refine h_v k8' (fun w' hw => r_ldw rfl (hd1 w' hw) rfl rfl) ?_
    (repeat (first | refine Zhq ?_ | refine Zhgn ?_ | refine Zhgu ?_ | refine Zhgv ?_))
    refine h_v k8' (fun w' hw => r_ia (size := 1) rfl rfl hls rfl (by omega) (by omega)) ?_
    (repeat (first | refine Zhq ?_ | refine Zhgn ?_ | refine Zhgu ?_ | refine Zhgv ?_))
    have G := G.no k8
    have h2 := G.blk 2 rfl
    refine h_call (us := []) (zs := []) (by kernel_rfl) rfl rfl (ih m (by omega) s.el ea ec x (inner S.st x lp) wA rs4 (K7.no k8) hel (fun y hy => by
      obtain ⟨y1, y2⟩ := T.ch _ _ hs y (List.mem_append.2 (.inr hy))
      exact ⟨y1, by omega, by omega⟩) h2 hN4 hp4) ?_
    rintro _ wB ⟨rfl, rs5, hN5, hp5, hm5, hb9, k9⟩
    have G := G.mod 2 rfl k9 hb9
    refine ⟨fun _ => k8'.trans k9 fun _ _ h => h, ?_⟩
    have k10 : Kp (fun i => i = g) w9 wB := k8'.trans k9 fun _ _ h => h
    refine h_v k10 (fun w' hw => r_as rfl) ?_
    refine h_nil ?_
    have G : Lw w (fun i => i = g) wB [(b12, stC (s, .slice ta s.th.length tc, .slice ea s.el.length ec), tStmt), (b5, [ux.v, us.v, uf.v], tTree), (g, rs5.flatMap plC, tAt)] := G
    clear hd1 hd2 hd3 g0 g1 h0 h1 h2 k7 k8 k8' k9 k10 hb9
    have h0 := G.blk 0 rfl; try have h1 := G.blk 1 rfl; try have h2 := G.blk 2 rfl; try have h3 := G.blk 3 rfl; try have h4 := G.blk 4 rfl; try have h5 := G.blk 5 rfl
    have K7 := G.base hk hM
    (repeat refine Zlr ?_)
    refine l_next (i + 1, rs5) ⟨rfl, rfl, rfl, rfl, rfl, rfl, rfl, trivial⟩ ⟨hlt, hN5, hp5, ?_, G.drop 1⟩ (by show l.length - (i + 1) < l.length - i; omega)
    rw [← hly, List.drop_eq_getElem_cons hlt]
    have ej : l[i] = x := by rw [List.getElem?_eq_getElem hlt] at hxi; exact Option.some.inj hxi
    rw [ej]
    show layR S.st (lay S.st m) l inn lp (i + 1) (l.drop (i + 1)) (rs5.map Prod.fst) = layR S.st (lay S.st m) l inn lp i (x :: l.drop (i + 1)) (rs2.map Prod.fst)
    rw [layR, hm5, hm4, hm3, egs]
  · have hi : i = l.length := by omega
    subst hi
    rw [List.drop_length, Ly_nil] at hly
    (repeat refine Zlr ?_)
    exact ret_c1 rfl (rv_t rfl) ⟨rfl, rs2, hN, hp, hly, h1, G.kE⟩
end
end Go.Proofs.Ytkllhfajldnpoaa.Ck
namespace Go.Proofs.Ytkllhfajldnpoaa.Fw
open Go Go.RowKit
theorem madeF {α : Type} {f : α → List Value} {sz : Nat} (hs : 0 < sz) (hf : ∀ x, (f x).length = sz) (x : α) {z : Value} (hz : cellsL z = f x) (n : Nat) : (madeCells z.cells (n * sz)).toList = (List.replicate n x).flatMap f := by
  apply List.ext_getElem?
  intro i
  by_cases hi : i < n * sz
  · have h1 : i / sz < n := (Nat.div_lt_iff_lt_mul hs).2 hi
    have h2 : i % sz < sz := Nat.mod_lt _ hs
    have e : i = (i / sz) * sz + i % sz := by rw [Nat.mul_comm]; exact (Nat.div_add_mod i sz).symm
    rw [show (List.flatMap f (List.replicate n x))[i]? = (List.flatMap f (List.replicate n x))[(i / sz) * sz + i % sz]? by rw [← e], flat_get hf _ _ _ x (by rw [List.getElem?_replicate, if_pos h1]) h2]
    have h3 : (f x).length = sz := hf x
    simp [madeCells, cells_toArray, hz, h3, hi, h2]
  · rw [List.getElem?_eq_none (by simp [madeCells]; omega), List.getElem?_eq_none (by rw [flat_length hf, List.length_replicate]; omega)]
section
variable {P : Program} {ops : Array Oper} {rest : List Oper} {q : Pst P} {w : World} {n : Nat} {l : Slots} {ds : List Deferred} {d : Nat}
theorem s_msF {α : Type} {f : α → List Value} {sz : Nat} (x0 : α) {t e ty : TypeId} {pos : String} {af : Array Edge} {x y : Operand} {i : TypeInfo} {z : Value} {kl kc : IntKind} {m : Nat} (ht : P.underlying t = some (.slice e)) (hi : P.info? e = some i) (hz : i.zero = some z)
    (hx : ev n l x = .int kl m) (hy : ev n l y = .int kc m) (hsz : i.size = sz) (h0 : Nat.blt 0 sz = true) (hf : ∀ x, (f x).length = sz) (hzc : cellsL z = f x0) (hbytes : i.bytes * m ≤ 140737488355328) (h63 : (m : Int) ≤ 9223372036854775807)
    (h : ∀ b w1, Nb w b ((List.replicate m x0).flatMap f) e w1 → Wl P ops q rest n ((d, .slice (some ⟨b, 0, none⟩) m m) :: l) ds w1) :
    Wl P ops q (⟨some d, .makeSlice t x y, ty, pos, af, none⟩ :: rest) n l ds w := by
  refine s_nb (r := fun a => .slice (some a) m m) ?_ h
  have hb : (i.bytes : Int) * (m : Int) ≤ 140737488355328 := by
    have : ((i.bytes * m : Nat) : Int) ≤ 140737488355328 := by omega
    simpa using this
  have := r_ms (dst := some d) (ty := ty) (pos := pos) (af := af) (g := none) (w := w) ht hi hz hx hy (by omega) (by omega) hb h63
  rw [Int.toNat_natCast, hsz, madeF (by simpa [Nat.blt_eq] using h0) hf x0 hzc] at this
  exact this
end
end Go.Proofs.Ytkllhfajldnpoaa.Fw
namespace Go.Proofs.Ytkllhfajldnpoaa.Ck
open Go Go.RowKit Fw Sy Rf Fn
set_option linter.unusedVariables false
set_option maxRecDepth 20000
section
variable {ux us uf : Sl} {S : PS} {w0 : World}
theorem Ty.fn' (T : Ty w0 ux us uf S) {i : Nat} {x : Sy.Fn} (hx : S.fn[i]? = some x) : ∃ g lv ba bc, uf.a = some ⟨g, 0, none⟩ ∧ LI w0 (.slice ba x.bd.length bc) x.bd ∧ ∀ w', Kp No w0 w' → ∀ (j : Nat) (u : Value), (fnC (x, lv, .slice ba x.bd.length bc))[j]? = some u → w'.cell? ⟨g, 0 + (i : Int).toNat * 6 + j, none⟩ = some u := by
  obtain ⟨g, lv, mv, e, _, hm, hc⟩ := Tr.fn (a := uf.a) (n := uf.n) (c := uf.c) T.tr hx
  obtain ⟨ba, bc, rfl⟩ := hm.val
  exact ⟨g, lv, ba, bc, e, hm, fun w' k j u hj => k.cell0 (hc j u hj)⟩
/-- Places in memory. -/
def PlM (S : PS) (w0 : World) (g : Nat) (pl : List Pl) (w : World) : Prop := ∃ rs : List (Pl × Value), rs.length = S.st.length ∧ Pm w0 rs ∧ rs.map Prod.fst = pl ∧ w.heap[g]? = some (.cells (rs.flatMap plC).toArray tAt (0, 0))
theorem PlM.no {g : Nat} {pl : List Pl} {w w' : World} (h : PlM S w0 g pl w) (k : Kp No w w') : PlM S w0 g pl w' := by
  obtain ⟨rs, h1, h2, h3, h4⟩ := h
  exact ⟨rs, h1, h2, h3, k.get0 h4⟩
theorem placesF (T : Ty w0 ux us uf S) {w : World} (hk : Kp No w0 w) : Ret Try.prog 23 [.agg #[ux.v, us.v, uf.v]] w (fun v w1 => ∃ g, v = .slice (some ⟨g, 0, none⟩) S.st.length S.st.length ∧ PlM S w0 g (plS S) w1 ∧ w.heap.size ≤ g ∧ Kp No w w1) := by
  have husn := T.usn
  have hufn := T.ufn
  have hsb := T.sb
  have hfb := T.fb
  refine ret_enter Try.func23 rfl Try.ntmps23 rfl ?_
  (repeat refine Zlr ?_)
  refine s_box (cs := [ux.v, us.v, uf.v]) rfl rfl (fun b1 w1 n1 => ?_)
  have G := (Lw.start w).new n1
  have h0 := G.blk 0 rfl; try have h1 := G.blk 1 rfl; try have h2 := G.blk 2 rfl; try have h3 := G.blk 3 rfl; try have h4 := G.blk 4 rfl; try have h5 := G.blk 5 rfl
  (repeat refine Zlr ?_)
  refine s_msF (m := S.st.length) (sz := 4) (f := plC) ((⟨[], 0, 0, 0⟩, .slice none 0 0) : Pl × Value) rfl rfl rfl (by rw [← husn]; rfl) (by rw [← husn]; rfl) rfl rfl plC_len rfl (by show 48 * _ ≤ _; omega) (by omega) (fun g w2 n2 => ?_)
  have G := G.new n2
  have h0 := G.blk 0 rfl; try have h1 := G.blk 1 rfl; try have h2 := G.blk 2 rfl; try have h3 := G.blk 3 rfl; try have h4 := G.blk 4 rfl; try have h5 := G.blk 5 rfl
  (repeat refine Zlr ?_)
  have hg : w0.heap.size ≤ g := by have := hk.size; have := n1.kp.size; have := n2.ge; omega
  refine k_loop (σ := Nat × List (Pl × Value)) (fun t => [(1, .pointer (some ⟨b1, 0, none⟩)), (3, .slice (some ⟨g, 0, none⟩) S.st.length S.st.length), (11, .int .i64 (uf.n : Int)), (12, .int .i64 (t.1 : Int))])
    (fun t w' => t.1 ≤ S.fn.length ∧ t.2.length = S.st.length ∧ Pm w0 t.2 ∧ ((S.fn.map Sy.Fn.bd).drop t.1).foldl (fun out l => lay S.st S.st.length out l (-1) (-1)) (t.2.map Prod.fst) = plS S ∧ Lw w No w' [(g, t.2.flatMap plC, tAt), (b1, [ux.v, us.v, uf.v], tTree)])
    (fun t => S.fn.length - t.1) (0, List.replicate S.st.length (⟨[], 0, 0, 0⟩, .slice none 0 0)) ⟨rfl, rfl, rfl, rfl, trivial⟩ ⟨Nat.zero_le _, List.length_replicate, fun r hr => by rw [(List.mem_replicate.1 hr).2]; exact LI.nil, by rw [List.drop_zero, List.map_replicate]; rfl, G⟩ ?_
  clear G h0 h1
  rintro ⟨i, rs2⟩ l' w3 ⟨hi, hN, hp, hly, G⟩
  simp only at hi hN hp hly G
  try dsimp only
  have h0 := G.blk 0 rfl; try have h1 := G.blk 1 rfl; try have h2 := G.blk 2 rfl; try have h3 := G.blk 3 rfl; try have h4 := G.blk 4 rfl; try have h5 := G.blk 5 rfl
  (repeat refine Zlr ?_)
  refine c_dec rfl (fun hlt => ?_) (fun hge => ?_)
  · have hlt : i < S.fn.length := by omega
    obtain ⟨f, hf⟩ : ∃ f, S.fn[i]? = some f := ⟨_, List.getElem?_eq_getElem hlt⟩
    obtain ⟨fg, flv, ba, bc, hfa, hbd, hfc⟩ := T.fn' hf
    have hfs : Value.slice uf.a uf.n uf.c = .slice (some ⟨fg, 0, none⟩) uf.n uf.c := by rw [hfa]
    have K3 := hk.no G.kE
    have n1g : b1 ≠ g := fun e => by
      have := G.nd 0 1 b1 _ _ _ _ (by rw [e]; rfl) rfl
      omega
    (repeat refine Zlr ?_)
    have k3 : Kp (fun i => i = g) w3 w3 := Kp.refl _ _
    have g1 := h1
    have hd1 : ∀ w', Kp (fun i => i = g) w3 w' → w'.heap[b1]? = some (.cells [ux.v, us.v, uf.v].toArray tTree (0, 0)) := fun w' hw => hw.get g1 n1g
    have hd2 : ∀ w', Kp (fun i => i = g) w3 w' → ∀ (j : Nat) (u : Value), (fnC (f, flv, .slice ba f.bd.length bc))[j]? = some u → w'.cell? ⟨fg, 0 + (i : Int).toNat * 6 + j, none⟩ = some u := fun w' hw => hfc w' (K3.from0' hw fun i hi e => by omega)
    refine k_h (fun w' => Kp (fun i => i = g) w3 w') [(0, false), (1, false), (2, false), (3, false), (4, false), (5, false), (6, false), (7, false), (8, true), (9, false)] 9 (by kernel_rfl) (waits_of_last (by kernel_rfl)) (by kernel_rfl) (by kernel_rfl) (by kernel_rfl) rfl (fun w8 k8 _ => ?_)
    have k8' : Kp (fun i => i = g) w3 w8 := k8.mono fun _ _ h => h.elim
    refine h_v k8' (fun w' hw => r_ldw rfl (hd1 w' hw) rfl rfl) ?_
    (repeat (first | refine Zhq ?_ | refine Zhgn ?_ | refine Zhgu ?_ | refine Zhgv ?_))
    refine h_v k8' (fun w' hw => r_ia (size := 6) rfl rfl hfs rfl (by omega) (by omega)) ?_
    (repeat (first | refine Zhq ?_ | refine Zhgn ?_ | refine Zhgu ?_ | refine Zhgv ?_))
    have G := G.no k8
    have h2 := G.blk 0 rfl
    refine h_call (us := []) (zs := []) (by kernel_rfl) rfl rfl (layF T hg S.st.length f.bd ba bc (-1) (-1) w8 rs2 (K3.no k8) hbd (fun x hx => by
      obtain ⟨y1, y2⟩ := T.fn f (List.mem_of_getElem? hf) x hx
      exact ⟨y1, by omega, by omega⟩) h2 hN hp) ?_
    rintro _ w9 ⟨rfl, rs3, hN3, hp3, hm3, hb9, k9⟩
    have G := G.mod 0 rfl k9 hb9
    refine ⟨fun _ => k8'.trans k9 fun _ _ h => h, ?_⟩
    have k10 : Kp (fun i => i = g) w3 w9 := k8'.trans k9 fun _ _ h => h
    refine h_v k10 (fun w' hw => r_as rfl) ?_
    refine h_nil ?_
    (repeat refine Zlr ?_)
    refine l_next (i + 1, rs3) ⟨rfl, rfl, rfl, rfl, trivial⟩ ⟨hlt, hN3, hp3, ?_, G⟩ (by show S.fn.length - (i + 1) < S.fn.length - i; omega)
    have hlt' : i < (S.fn.map Sy.Fn.bd).length := by rw [List.length_map]; exact hlt
    rw [← hly, List.drop_eq_getElem_cons hlt', List.foldl_cons, hm3]
    have ej : (S.fn.map Sy.Fn.bd)[i] = f.bd := by
      have := List.getElem?_eq_getElem hlt
      rw [hf] at this
      simp [Option.some.inj this]
    rw [ej]
  · have hi : i = (S.fn.map Sy.Fn.bd).length := by rw [List.length_map]; omega
    subst hi
    rw [List.drop_length] at hly
    (repeat refine Zlr ?_)
    exact ret_c1 rfl (rv_t rfl) ⟨g, rfl, ⟨rs2, hN, hp, hly, h0⟩, by have := n1.kp.size; have := n2.ge; omega, G.kE⟩
end
end Go.Proofs.Ytkllhfajldnpoaa.Ck
namespace Go.Proofs.Ytkllhfajldnpoaa.Ck
open Go Go.RowKit Fw Sy Rf Fn
set_option linter.unusedVariables false
set_option maxRecDepth 20000
section
variable {ux us uf : Sl} {S : PS} {w0 : World}
theorem ty_st {x : Int} (hx : Nd S.st.length x) : S.st[x.toNat]? = some (gs S.st x) := gs_mem hx
/-- A place in memory. -/
theorem PlM.at_ {g : Nat} {pl : List Pl} {w : World} (h : PlM S w0 g pl w) {x : Int} (hx : Nd S.st.length x) : ∃ la lc, LI w0 (.slice la (gp pl x).l.length lc) (gp pl x).l ∧ ∀ w', Kp No w w' → ∀ (j : Nat) (u : Value), (plC (gp pl x, .slice la (gp pl x).l.length lc))[j]? = some u → w'.cell? ⟨g, 0 + x.toNat * 4 + j, none⟩ = some u := by
  obtain ⟨rs, h1, h2, h3, h4⟩ := h
  have hlt : x.toNat < rs.length := by have := hx.1; have := hx.2; omega
  obtain ⟨r, hr⟩ : ∃ r, rs[x.toNat]? = some r := ⟨_, List.getElem?_eq_getElem hlt⟩
  have e : gp pl x = r.1 := by unfold gp; rw [← h3, List.getD_eq_getElem?_getD, List.getElem?_map, hr]; rfl
  have hl := h2 r (List.mem_of_getElem? hr)
  obtain ⟨la, lc, e2⟩ := hl.val
  have er : (r.1, Value.slice la r.1.l.length lc) = r := by rw [← e2]
  rw [e]
  refine ⟨la, lc, by rw [← e2]; exact hl, fun w' k j u hj => k.cell0 ?_⟩
  have hj4 : j < 4 := by
    have := (List.getElem?_eq_some_iff.1 hj).1
    rwa [plC_len] at this
  have hj' : (rs.flatMap plC)[x.toNat * 4 + j]? = some u := by
    rw [flat_get plC_len rs x.toNat j r hr hj4]
    rw [er] at hj
    exact hj
  rw [show 0 + x.toNat * 4 + j = 0 + (x.toNat * 4 + j) by omega]
  exact blk_cells h4 _ _ hj'
set_option maxHeartbeats 2000000 in
theorem behF (T : Ty w0 ux us uf S) {bo : List (List Int)} (Tt : Tre S.st bo) {g : Nat} {pl : List Pl} (hp : ∀ z, Nd S.st.length z → Pos S.st bo z (gp pl z)) : ∀ (n : Nat) (x : Int) {w : World}, Nd S.st.length x → S.st.length - x.toNat ≤ n → Kp No w0 w → PlM S w0 g pl w →
    Ret Try.prog 24 [.agg #[ux.v, us.v, uf.v], .slice (some ⟨g, 0, none⟩) S.st.length S.st.length, .int .i64 x] w (fun v w1 => v = .int .i64 (behL S.st pl x) ∧ Kp No w w1) := by
  have husn := T.usn
  have hsb := T.sb
  intro n
  induction n with
  | zero => intro x w hx hn; have := hx.1; have := hx.2; omega
  | succ n ih =>
  intro x w hx hn hk hP
  obtain ⟨la, lc, hl, hc⟩ := hP.at_ hx
  have hps := (hp x hx).s Tt
  rw [behL_step Tt hp hx]
  obtain ⟨q, hq⟩ : ∃ q, gp pl x = q := ⟨_, rfl⟩
  rw [hq] at hl hc hps ⊢
  obtain ⟨a', c', e, hlat⟩ := li_at hl
  cases e
  have hll : q.l.length ≤ 9223372036854775807 := by have := own_mx hl; unfold maxLen at this; omega
  have hp0 := hps.at_.1
  have hpl : q.p < q.l.length := by
    have := (List.getElem?_eq_some_iff.1 hps.at_.2).1
    omega
  have hx0 := hx.1
  have hx1 := hx.2
  refine ret_enter Try.func24 rfl Try.ntmps24 rfl ?_
  (repeat refine Zlr ?_)
  refine s_box (cs := [ux.v, us.v, uf.v]) rfl rfl (fun b3 w1 n3 => ?_)
  have G := (Lw.start w).new n3
  have h0 := G.blk 0 rfl; try have h1 := G.blk 1 rfl; try have h2 := G.blk 2 rfl; try have h3 := G.blk 3 rfl; try have h4 := G.blk 4 rfl; try have h5 := G.blk 5 rfl
  (repeat refine Zlr ?_)
  refine s_v (r_ia (size := 4) rfl rfl rfl rfl (by omega) (by omega)) ?_
  refine s_v (r_lda (n := 4) (vs := [.slice la q.l.length lc, .int .i64 q.p, .int .i64 q.inn, .int .i64 q.lp]) rfl rfl rfl rfl (cells_ofc rfl fun j u hj => hc _ G.kE j u hj)) ?_
  (repeat refine Zlr ?_)
  refine s_al rfl (fun b7 w2 n7 => ?_)
  have G := G.new n7
  have h0 := G.blk 0 rfl; try have h1 := G.blk 1 rfl; try have h2 := G.blk 2 rfl; try have h3 := G.blk 3 rfl; try have h4 := G.blk 4 rfl; try have h5 := G.blk 5 rfl
  refine s_st (vs := [.slice la q.l.length lc, .int .i64 q.p, .int .i64 q.inn, .int .i64 q.lp]) rfl rfl rfl rfl rfl h0 (Nat.le_of_ble_eq_true rfl) (fun w3 s3 => ?_)
  have s3 : Sb w2 b7 [.slice la q.l.length lc, .int .i64 q.p, .int .i64 q.inn, .int .i64 q.lp] tAt w3 := s3
  have G := G.put 0 rfl s3
  clear h0 h1 n3 n7 s3
  have G : Lw w No w3 [(b7, [.slice la q.l.length lc, .int .i64 q.p, .int .i64 q.inn, .int .i64 q.lp], tAt), (b3, [ux.v, us.v, uf.v], tTree)] := G
  have h0 := G.blk 0 rfl; try have h1 := G.blk 1 rfl; try have h2 := G.blk 2 rfl; try have h3 := G.blk 3 rfl; try have h4 := G.blk 4 rfl; try have h5 := G.blk 5 rfl
  have K3 := hk.no G.kE
  (repeat refine Zlr ?_)
  refine c_dec rfl (fun hlt => ?_) (fun hge => ?_)
  · have hi : q.p.toNat + 1 < q.l.length := by omega
    obtain ⟨z, hz⟩ : ∃ z, q.l[q.p.toNat + 1]? = some z := ⟨_, List.getElem?_eq_getElem hi⟩
    obtain ⟨lg, hla, hlc⟩ := hlat _ z hz
    have hls : Value.slice la q.l.length lc = .slice (some ⟨lg, 0, none⟩) q.l.length lc := by rw [hla]
    (repeat refine Zlr ?_)
    refine s_v (r_ia (size := 1) rfl rfl hls rfl (by omega) (by omega)) ?_
    refine s_v (r_ld rfl rfl (v := .int .i64 z) (by
      have := hlc _ K3
      rw [show (((q.p.toNat + 1 : Nat) : Int)).toNat = (q.p + 1).toNat by omega] at this
      exact this)) ?_
    (repeat refine Zlr ?_)
    refine ret_c1 rfl (rv_t rfl) ⟨?_, G.kE⟩
    rw [if_pos hlt, List.getD_eq_getElem?_getD, show (q.p + 1).toNat = q.p.toNat + 1 by omega, hz]
    rfl
  rw [if_neg hge]
  (repeat refine Zlr ?_)
  refine c_dec rfl (fun hlt => ?_) (fun hge => ?_)
  · rw [if_pos hlt]
    (repeat refine Zlr ?_)
    exact ret_c1 rfl (rv_t rfl) ⟨rfl, G.kE⟩
  rw [if_neg hge]
  obtain ⟨hi, hxi⟩ : Nd S.st.length q.inn ∧ x < q.inn := (hps.up Tt).resolve_left hge
  have hi0 := hi.1
  have hi1 := hi.2
  obtain ⟨sg, ta, tc, ea, ec, hsa, hth, hel, hsc⟩ := T.st (ty_st hi)
  have hus : Value.slice us.a us.n us.c = .slice (some ⟨sg, 0, none⟩) us.n us.c := by rw [hsa]
  rw [show ((q.inn.toNat : Nat) : Int) = q.inn by omega] at hsc
  (repeat refine Zlr ?_)
  refine s_v (r_ia (size := 9) rfl rfl hus rfl (by omega) (by omega)) ?_
  (repeat refine Zlr ?_)
  refine s_v (r_ld rfl rfl (hsc _ K3 0 _ rfl)) ?_
  (repeat refine Zlr ?_)
  refine c_b rfl (fun hk6 => ?_) (fun hk6 => ?_)
  · have hk6 : (gs S.st q.inn).k = 6 := beq_iff_eq.1 hk6
    rw [if_pos hk6]
    (repeat refine Zlr ?_)
    exact ret_c1 rfl (rv_t rfl) ⟨rfl, G.kE⟩
  · have hk6 : (gs S.st q.inn).k ≠ 6 := beq_eq_false_iff_ne.1 hk6
    rw [if_neg hk6]
    (repeat refine Zlr ?_)
    refine s_call (us := []) (zs := []) (by kernel_rfl) rfl rfl (ih q.inn hi (by omega) K3 (hP.no G.kE)) ?_
    rintro _ w4 ⟨rfl, k4⟩
    (repeat refine Zlr ?_)
    exact ret_c1 rfl (rv_t rfl) ⟨rfl, G.kE.no k4⟩
abbrev Wys (S : PS) : Prop := Wy S.st (S.fn.map Sy.Fn.bd) (plS S) (nxS S)
/-- A fresh list of numbers. -/
theorem li_new {w w1 : World} {b : Nat} {l : List Int} (h : Nb w b (l.map (Value.int .i64)) tInt w1) (hl : l.length ≤ maxLen) : LI w1 (.slice (some ⟨b, 0, none⟩) l.length l.length) l := by
  have := own_new h (by rw [List.length_map]; exact hl)
  rw [List.length_map] at this
  exact this
set_option maxHeartbeats 2000000 in
theorem nextF (T : Ty w0 ux us uf S) (W : Wys S) {g : Nat} (x : Int) {w : World} (hx : Nd S.st.length x) (hk : Kp No w0 w) (hP : PlM S w0 g (plS S) w) :
    Ret Try.prog 37 [.agg #[ux.v, us.v, uf.v], .slice (some ⟨g, 0, none⟩) S.st.length S.st.length, .int .i64 x] w (fun v w1 => LI w1 v (wayL S.st (plS S) x) ∧ Kp No w w1) := by
  have husn := T.usn
  have hsb := T.sb
  have hx0 := hx.1
  have hx1 := hx.2
  obtain ⟨s, hs⟩ : ∃ s, gs S.st x = s := ⟨_, rfl⟩
  have hst := ty_st hx
  rw [hs] at hst
  obtain ⟨sg, ta, tc, ea, ec, hsa, hth, hel, hsc⟩ := T.st hst
  have hus : Value.slice us.a us.n us.c = .slice (some ⟨sg, 0, none⟩) us.n us.c := by rw [hsa]
  rw [show ((x.toNat : Nat) : Int) = x by omega] at hsc
  obtain ⟨_, _, e, htat⟩ := li_at hth
  cases e
  obtain ⟨_, _, e, heat⟩ := li_at hel
  cases e
  have htl : s.th.length ≤ 9223372036854775807 := by have := own_mx hth; unfold maxLen at this; omega
  have hel2 : s.el.length ≤ 9223372036854775807 := by have := own_mx hel; unfold maxLen at this; omega
  obtain ⟨B, hB⟩ : ∃ B, behL S.st (plS S) x = B := ⟨_, rfl⟩
  have hw : wayL S.st (plS S) x = if s.k = 5 then [hd s.th B, hd s.el B] else if s.k = 6 then [hd s.th x, B] else if s.k = 7 then [behL S.st (plS S) (gp (plS S) x).lp] else if s.k = 8 then [(gp (plS S) x).lp] else if s.k = 9 then [-1] else [B] := by unfold wayL; rw [hs, hB]
  rw [hw]
  refine ret_enter Try.func37 rfl Try.ntmps37 rfl ?_
  (repeat refine Zlr ?_)
  refine s_box (cs := [ux.v, us.v, uf.v]) rfl rfl (fun b3 w1 n3 => ?_)
  have G := (Lw.start w).new n3
  have h0 := G.blk 0 rfl; try have h1 := G.blk 1 rfl; try have h2 := G.blk 2 rfl; try have h3 := G.blk 3 rfl; try have h4 := G.blk 4 rfl; try have h5 := G.blk 5 rfl
  (repeat refine Zlr ?_)
  have K1 := hk.no G.kE
  refine s_v (r_ia (size := 9) rfl rfl hus rfl (by omega) (by omega)) ?_
  refine s_v (r_lda (n := 9) (vs := stC (s, .slice ta s.th.length tc, .slice ea s.el.length ec)) rfl rfl rfl rfl (cells_ofc rfl fun j u hj => hsc _ K1 j u hj)) ?_
  (repeat refine Zlr ?_)
  refine s_al rfl (fun b7 w2 n7 => ?_)
  have G := G.new n7
  have h0 := G.blk 0 rfl; try have h1 := G.blk 1 rfl; try have h2 := G.blk 2 rfl; try have h3 := G.blk 3 rfl; try have h4 := G.blk 4 rfl; try have h5 := G.blk 5 rfl
  (repeat refine Zlr ?_)
  refine s_st (vs := stC (s, .slice ta s.th.length tc, .slice ea s.el.length ec)) rfl rfl rfl rfl rfl h0 (Nat.le_of_ble_eq_true rfl) (fun w3 s3 => ?_)
  have s3 : Sb w2 b7 (stC (s, .slice ta s.th.length tc, .slice ea s.el.length ec)) tStmt w3 := s3
  have G := G.put 0 rfl s3
  clear h0 h1 n3 n7 s3
  have h0 := G.blk 0 rfl; try have h1 := G.blk 1 rfl; try have h2 := G.blk 2 rfl; try have h3 := G.blk 3 rfl; try have h4 := G.blk 4 rfl; try have h5 := G.blk 5 rfl
  have K3 := hk.no G.kE
  (repeat refine Zlr ?_)
  refine s_call (us := []) (zs := []) (by kernel_rfl) rfl rfl (behF T W.T W.pos _ x hx (Nat.le_refl _) K3 (hP.no G.kE)) ?_
  rintro _ w4 ⟨rfl, k4⟩
  rw [hB]
  have G := G.no k4
  have G : Lw w No w4 [(b7, stC (s, .slice ta s.th.length tc, .slice ea s.el.length ec), tStmt), (b3, [ux.v, us.v, uf.v], tTree)] := G
  have h0 := G.blk 0 rfl; try have h1 := G.blk 1 rfl; try have h2 := G.blk 2 rfl; try have h3 := G.blk 3 rfl; try have h4 := G.blk 4 rfl; try have h5 := G.blk 5 rfl
  have K4 := hk.no G.kE
  have hP4 := hP.no G.kE
  have h0th : ∀ z r, s.th = z :: r → ∃ lg, ta = some ⟨lg, 0, none⟩ ∧ ∀ w', Kp No w0 w' → w'.cell? ⟨lg, 0 + (0 : Int).toNat * 1, none⟩ = some (.int .i64 z) := fun z r e => htat 0 z (by rw [e]; rfl)
  have h0el : ∀ z r, s.el = z :: r → ∃ lg, ea = some ⟨lg, 0, none⟩ ∧ ∀ w', Kp No w0 w' → w'.cell? ⟨lg, 0 + (0 : Int).toNat * 1, none⟩ = some (.int .i64 z) := fun z r e => heat 0 z (by rw [e]; rfl)
  (repeat refine Zlr ?_)
  refine c_b rfl (fun hk5 => ?_) (fun hk5 => ?_)
  · have hk5 : s.k = 5 := beq_iff_eq.1 hk5
    rw [if_pos hk5]
    (repeat refine Zlr ?_)
    refine k_cutc (σ := Unit) (fun _ => [(6, .slice none 0 0), (7, .pointer (some ⟨b7, 0, none⟩)), (8, .int .i64 B), (9, .int .i64 (hd s.th B)), (10, .int .i64 B)]) (fun _ w' => w' = w4) ?_ ?_
    · refine c_dec rfl (fun hlt => ?_) (fun hge => ?_)
      · obtain ⟨z, r, e⟩ : ∃ z r, s.th = z :: r := by
          cases e : s.th with
          | nil => rw [e] at hlt; exact absurd hlt (by decide)
          | cons z r => exact ⟨z, r, rfl⟩
        obtain ⟨lg, hla, hlc⟩ := h0th z r e
        have hls : Value.slice ta s.th.length tc = .slice (some ⟨lg, 0, none⟩) s.th.length tc := by rw [hla]
        (repeat refine Zlr ?_)
        refine s_v (r_ia (size := 1) rfl rfl hls rfl (by omega) (by omega)) ?_
        refine s_v (r_ld rfl rfl (hlc _ K4)) ?_
        (repeat refine Zlr ?_)
        exact l_cut () ⟨rfl, rfl, rfl, by rw [e]; rfl, rfl, trivial⟩ rfl
      · have e : s.th = [] := List.eq_nil_of_length_eq_zero (by omega)
        (repeat refine Zlr ?_)
        exact l_cut () ⟨rfl, rfl, rfl, by rw [e]; rfl, rfl, trivial⟩ rfl
    rintro _ l2 w5 rfl
    (repeat refine Zlr ?_)
    refine k_cutc (σ := Unit) (fun _ => [(6, .slice none 0 0), (7, .pointer (some ⟨b7, 0, none⟩)), (8, .int .i64 B), (9, .int .i64 (hd s.th B)), (10, .int .i64 (hd s.el B))]) (fun _ w' => w' = w5) ?_ ?_
    · refine c_dec rfl (fun hlt => ?_) (fun hge => ?_)
      · obtain ⟨z, r, e⟩ : ∃ z r, s.el = z :: r := by
          cases e : s.el with
          | nil => rw [e] at hlt; exact absurd hlt (by decide)
          | cons z r => exact ⟨z, r, rfl⟩
        obtain ⟨lg, hla, hlc⟩ := h0el z r e
        have hls : Value.slice ea s.el.length ec = .slice (some ⟨lg, 0, none⟩) s.el.length ec := by rw [hla]
        (repeat refine Zlr ?_)
        refine s_v (r_ia (size := 1) rfl rfl hls rfl (by omega) (by omega)) ?_
        refine s_v (r_ld rfl rfl (hlc _ K4)) ?_
        (repeat refine Zlr ?_)
        exact l_cut () ⟨rfl, rfl, rfl, rfl, by rw [e]; rfl, trivial⟩ rfl
      · have e : s.el = [] := List.eq_nil_of_length_eq_zero (by omega)
        (repeat refine Zlr ?_)
        exact l_cut () ⟨rfl, rfl, rfl, rfl, by rw [e]; rfl, trivial⟩ rfl
    rintro _ l2 w6 rfl
    (repeat refine Zlr ?_)
    refine s_bs (cs := [.int .i64 (hd s.th B), .int .i64 (hd s.el B)]) (e := 3) rfl (fun b9 w7 n9 => ?_)
    (repeat refine Zlr ?_)
    exact ret_c1 rfl (rv_t rfl) ⟨li_new (l := [hd s.th B, hd s.el B]) n9 (Nat.le_of_ble_eq_true rfl), G.kE.no n9.kp⟩
  have hk5 : s.k ≠ 5 := beq_eq_false_iff_ne.1 hk5
  rw [if_neg hk5]
  (repeat refine Zlr ?_)
  refine c_b rfl (fun hk6 => ?_) (fun hk6 => ?_)
  · have hk6 : s.k = 6 := beq_iff_eq.1 hk6
    rw [if_pos hk6]
    (repeat refine Zlr ?_)
    refine c_dec rfl (fun hlt => ?_) (fun hge => ?_)
    · obtain ⟨z, r, e⟩ : ∃ z r, s.th = z :: r := by
        cases e : s.th with
        | nil => rw [e] at hlt; exact absurd hlt (by decide)
        | cons z r => exact ⟨z, r, rfl⟩
      obtain ⟨lg, hla, hlc⟩ := h0th z r e
      have hls : Value.slice ta s.th.length tc = .slice (some ⟨lg, 0, none⟩) s.th.length tc := by rw [hla]
      (repeat refine Zlr ?_)
      refine s_v (r_ia (size := 1) rfl rfl hls rfl (by omega) (by omega)) ?_
      refine s_v (r_ld rfl rfl (hlc _ K4)) ?_
      (repeat refine Zlr ?_)
      refine s_bs (cs := [.int .i64 z, .int .i64 B]) (e := 3) rfl (fun b9 w7 n9 => ?_)
      (repeat refine Zlr ?_)
      exact ret_c1 rfl (rv_t rfl) ⟨by rw [e]; exact li_new (l := [z, B]) n9 (Nat.le_of_ble_eq_true rfl), G.kE.no n9.kp⟩
    · have e : s.th = [] := List.eq_nil_of_length_eq_zero (by omega)
      (repeat refine Zlr ?_)
      refine s_bs (cs := [.int .i64 x, .int .i64 B]) (e := 3) rfl (fun b9 w7 n9 => ?_)
      (repeat refine Zlr ?_)
      exact ret_c1 rfl (rv_t rfl) ⟨by rw [e]; exact li_new (l := [x, B]) n9 (Nat.le_of_ble_eq_true rfl), G.kE.no n9.kp⟩
  have hk6 : s.k ≠ 6 := beq_eq_false_iff_ne.1 hk6
  rw [if_neg hk6]
  obtain ⟨la, lc, hl, hc⟩ := hP4.at_ hx
  obtain ⟨q, hq⟩ : ∃ q, gp (plS S) x = q := ⟨_, rfl⟩
  have hql : (gs S.st x).k = 7 ∨ (gs S.st x).k = 8 → Nd S.st.length q.lp := fun hk => by
    rcases ((W.pos x hx).s W.T).lp with e | e
    · exact absurd e (W.jk x _ hx (W.pos x hx) hk)
    · rw [← hq]; exact e.1
  rw [hs] at hql
  rw [hq] at hc ⊢
  have hc3 : ∀ w', Kp No w4 w' → w'.cell? ⟨g, 0 + x.toNat * 4 + 3, none⟩ = some (.int .i64 q.lp) := fun w' k => hc w' k 3 _ rfl
  (repeat refine Zlr ?_)
  refine c_b rfl (fun hk7 => ?_) (fun hk7 => ?_)
  · have hk7 : s.k = 7 := beq_iff_eq.1 hk7
    rw [if_pos hk7]
    (repeat refine Zlr ?_)
    have g1 := h1
    have hd1 : ∀ w', Kp No w4 w' → w'.heap[b3]? = some (.cells [ux.v, us.v, uf.v].toArray tTree (0, 0)) := fun w' hw => hw.get0 g1
    refine k_h (fun w' => Kp No w4 w') [(0, false), (1, false), (2, false), (3, false), (4, false), (5, false), (6, false), (7, true), (8, true), (9, false)] 9 (by kernel_rfl) (waits_of_last (by kernel_rfl)) (by kernel_rfl) (by kernel_rfl) (by kernel_rfl) rfl (fun w8 k8 _ => ?_)
    refine h_v k8 (fun w' hw => r_ldw rfl (hd1 w' hw) rfl rfl) ?_
    (repeat (first | refine Zhq ?_ | refine Zhgn ?_ | refine Zhgu ?_ | refine Zhgv ?_))
    refine h_call (us := []) (zs := []) (by kernel_rfl) rfl rfl (behF T W.T W.pos _ q.lp (hql (.inl hk7)) (Nat.le_refl _) (K4.no k8) (hP4.no k8)) ?_
    rintro _ w9 ⟨rfl, k9⟩
    have k9' := k8.no k9
    refine ⟨fun _ => k9', ?_⟩
    refine h_bs (cs := [.int .i64 (behL S.st (plS S) q.lp)]) (e := 3) rfl (fun b9 w7 n9 => ⟨fun _ => k9'.no n9.kp, ?_⟩)
    refine h_v (k9'.no n9.kp) (fun w' hw => r_as rfl) ?_
    refine h_nil ?_
    (repeat refine Zlr ?_)
    exact ret_c1 rfl (rv_t rfl) ⟨li_new (l := [behL S.st (plS S) q.lp]) n9 (Nat.le_of_ble_eq_true rfl), G.kE.no (k9'.no n9.kp)⟩
  have hk7 : s.k ≠ 7 := beq_eq_false_iff_ne.1 hk7
  rw [if_neg hk7]
  (repeat refine Zlr ?_)
  refine c_b rfl (fun hk8 => ?_) (fun hk8 => ?_)
  · have hk8 : s.k = 8 := beq_iff_eq.1 hk8
    rw [if_pos hk8]
    (repeat refine Zlr ?_)
    refine s_v (r_ia (size := 4) rfl rfl rfl rfl (by omega) (by omega)) ?_
    (repeat refine Zlr ?_)
    refine s_v (r_ld rfl rfl (hc3 _ (Kp.refl _ _))) ?_
    (repeat refine Zlr ?_)
    refine s_bs (cs := [.int .i64 q.lp]) (e := 3) rfl (fun b9 w7 n9 => ?_)
    (repeat refine Zlr ?_)
    exact ret_c1 rfl (rv_t rfl) ⟨li_new (l := [q.lp]) n9 (Nat.le_of_ble_eq_true rfl), G.kE.no n9.kp⟩
  have hk8 : s.k ≠ 8 := beq_eq_false_iff_ne.1 hk8
  rw [if_neg hk8]
  (repeat refine Zlr ?_)
  refine c_b rfl (fun hk9 => ?_) (fun hk9 => ?_)
  · have hk9 : s.k = 9 := beq_iff_eq.1 hk9
    rw [if_pos hk9]
    (repeat refine Zlr ?_)
    refine s_bs (cs := [.int .i64 (-1)]) (e := 3) rfl (fun b9 w7 n9 => ?_)
    (repeat refine Zlr ?_)
    exact ret_c1 rfl (rv_t rfl) ⟨li_new (l := [-1]) n9 (Nat.le_of_ble_eq_true rfl), G.kE.no n9.kp⟩
  · have hk9 : s.k ≠ 9 := beq_eq_false_iff_ne.1 hk9
    rw [if_neg hk9]
    (repeat refine Zlr ?_)
    refine s_bs (cs := [.int .i64 B]) (e := 3) rfl (fun b9 w7 n9 => ?_)
    (repeat refine Zlr ?_)
    exact ret_c1 rfl (rv_t rfl) ⟨li_new (l := [B]) n9 (Nat.le_of_ble_eq_true rfl), G.kE.no n9.kp⟩
end
end Go.Proofs.Ytkllhfajldnpoaa.Ck
namespace Go.Proofs.Ytkllhfajldnpoaa.Fw
open Go Go.RowKit
section
variable {w w1 wE : World} {base k size n : Nat} {e : TypeId} {v0 v : Value} {xs cs : List Value} {M : Nat → Prop} {l : List (Nat × List Value × TypeId)}
theorem own_lo {base' : Nat} (h : w.ownsRow base e size v n cs) (hb : base' ≤ base) : w.ownsRow base' e size v n cs := by
  obtain ⟨h1, h2⟩ := h
  refine ⟨h1, h2.imp (fun h => h) ?_⟩
  rintro ⟨g, cap, cur, a1, a2, a3⟩
  exact ⟨g, cap, cur, a1, Nat.le_trans hb a2, a3⟩
/-- What an append leaves as it is: what is of another type. -/
theorem Ap.get (a : Ap w base e size v0 k xs v w1) (o : w.ownsRow base e size v0 n cs) {b : Nat} {cur : Array Value} {T : TypeId} (hb : w.heap[b]? = some (.cells cur T (0, 0))) (hT : Nat.beq e T = false) : w1.heap[b]? = some (.cells cur T (0, 0)) :=
  a.kp.get hb fun e' => by
    obtain ⟨c, hc⟩ := Sy.own_ty o e'.symm
    exact Sy.ty_ne hc hb hT rfl
theorem Ap.row' (a : Ap w base e size v0 k xs v w1) (o : w.ownsRow base e size v0 n cs) {base' size' n' : Nat} {T : TypeId} {u : Value} {cs' : List Value} (h : w.ownsRow base' T size' u n' cs') (hT : Nat.beq e T = false) : w1.ownsRow base' T size' u n' cs' :=
  own_kp h a.kp fun g hg e' => by
    obtain ⟨c, hc⟩ := Sy.own_ty o e'.symm
    obtain ⟨c', hc'⟩ := Sy.own_ty h hg
    exact Sy.ty_ne hc hc' hT rfl
theorem Lw.app (h : Lw wE M w l) (o : w.ownsRow wE.heap.size e size v0 n cs) (a : Ap w wE.heap.size e size v0 k xs v w1) (hT : ∀ (i b : Nat) (cs : List Value) (T : TypeId), l[i]? = some (b, cs, T) → Nat.beq e T = false) : Lw wE M w1 l :=
  ⟨h.kE.trans a.kp fun i hi e' => (by have := own_lt o e'.symm; omega), fun i b cs T hi => ⟨(h.bx i b cs T hi).1, a.get o (h.bx i b cs T hi).2 (hT i b cs T hi)⟩, h.nd⟩
end
end Go.Proofs.Ytkllhfajldnpoaa.Fw
namespace Go.Proofs.Ytkllhfajldnpoaa.Ck
open Go Go.RowKit Fw Sy Rf Fn
set_option linter.unusedVariables false
set_option maxRecDepth 20000
/-- A list of lists of numbers. -/
def NX (w : World) (v : Value) (nx : List (List Int)) : Prop := ∃ lvs : List Value, lvs.length = nx.length ∧ w.ownsRow 0 tInts 1 v nx.length lvs ∧ ∀ (i : Nat) lv l, lvs[i]? = some lv → nx[i]? = some l → LI w lv l
theorem NX.kp {w w' : World} {v : Value} {nx : List (List Int)} (h : NX w v nx) (k : Kp No w w') : NX w' v nx := by
  obtain ⟨lvs, h1, h2, h3⟩ := h
  exact ⟨lvs, h1, own_kp h2 k fun _ _ h => h, fun i lv l a b => LI.kp (h3 i lv l a b) k⟩
section
variable {ux us uf : Sl} {S : PS} {w0 : World}
set_option maxHeartbeats 1000000 in
theorem allF (T : Ty w0 ux us uf S) (W : Wys S) {w : World} (hk : Kp No w0 w) :
    Ret Try.prog 26 [.agg #[ux.v, us.v, uf.v]] w (fun v w1 => NX w1 v (nxS S) ∧ Kp No w w1) := by
  have husn := T.usn
  have hsb := T.sb
  have hnl : (nxS S).length = S.st.length := W.len
  refine ret_enter Try.func26 rfl Try.ntmps26 rfl ?_
  (repeat refine Zlr ?_)
  refine s_box (cs := [ux.v, us.v, uf.v]) rfl rfl (fun b1 w1 n1 => ?_)
  have G := (Lw.start w).new n1
  have h0 := G.blk 0 rfl; try have h1 := G.blk 1 rfl; try have h2 := G.blk 2 rfl; try have h3 := G.blk 3 rfl; try have h4 := G.blk 4 rfl; try have h5 := G.blk 5 rfl
  (repeat refine Zlr ?_)
  refine s_call (us := []) (zs := []) (by kernel_rfl) rfl rfl (placesF T (hk.no G.kE)) ?_
  rintro _ w2 ⟨g, rfl, hP, hg, k2⟩
  have G := G.no k2
  have h0 := G.blk 0 rfl; try have h1 := G.blk 1 rfl; try have h2 := G.blk 2 rfl; try have h3 := G.blk 3 rfl; try have h4 := G.blk 4 rfl; try have h5 := G.blk 5 rfl
  (repeat refine Zlr ?_)
  refine k_loop (σ := Sl × Nat) (fun t => [(1, .pointer (some ⟨b1, 0, none⟩)), (3, .slice (some ⟨g, 0, none⟩) S.st.length S.st.length), (4, t.1.v), (10, .int .i64 (us.n : Int)), (11, .int .i64 (t.2 : Int))])
    (fun t w' => t.2 ≤ S.st.length ∧ PlM S w0 g (plS S) w' ∧ (∃ lvs : List Value, lvs.length = t.2 ∧ w'.ownsRow w.heap.size tInts 1 t.1.v t.2 lvs ∧ ∀ (i : Nat) lv l, lvs[i]? = some lv → (nxS S)[i]? = some l → LI w' lv l) ∧ Lw w No w' [(b1, [ux.v, us.v, uf.v], tTree)])
    (fun t => S.st.length - t.2) (nS, 0) ⟨rfl, rfl, rfl, rfl, rfl, trivial⟩ ⟨Nat.zero_le _, hP, ⟨[], rfl, World.ownsRow_nil _ _ _ _, fun i lv l h => by simp at h⟩, G⟩ ?_
  clear G h0 hP
  rintro ⟨v, i⟩ l' w3 ⟨hi, hP, ⟨lvs, hl1, hl2, hl3⟩, G⟩
  simp only at hi hP hl1 hl2 hl3 G
  try dsimp only
  have h0 := G.blk 0 rfl; try have h1 := G.blk 1 rfl; try have h2 := G.blk 2 rfl; try have h3 := G.blk 3 rfl; try have h4 := G.blk 4 rfl; try have h5 := G.blk 5 rfl
  (repeat refine Zlr ?_)
  refine c_dec rfl (fun hlt => ?_) (fun hge => ?_)
  · have hlt : i < S.st.length := by omega
    have hx : Nd S.st.length (i : Int) := ⟨by omega, by omega⟩
    (repeat refine Zlr ?_)
    refine s_call (us := []) (zs := []) (by kernel_rfl) rfl rfl (nextF T W (i : Int) hx (hk.no G.kE) hP) ?_
    rintro lv w4 ⟨hlv, k4⟩
    obtain ⟨ba, bc, rfl⟩ := hlv.val
    have G := G.no k4
    have hP := hP.no k4
    have hl2 := own_kp hl2 k4 fun _ _ h => h
    refine s_bs (cs := [.slice ba (wayL S.st (plS S) (i : Int)).length bc]) (e := tInts) rfl (fun b9 w5 n9 => ?_)
    have G := G.no n9.kp
    have hP := hP.no n9.kp
    have hl2 := own_kp hl2 n9.kp fun _ _ h => h
    have hlv := LI.kp hlv n9.kp
    have hl3 : ∀ (i : Nat) lv l, lvs[i]? = some lv → (nxS S)[i]? = some l → LI w5 lv l := fun i lv l a b => LI.kp (LI.kp (hl3 i lv l a b) k4) n9.kp
    have h9 := n9.blk
    subst hl1
    (repeat refine Zlr ?_)
    refine s_app (v0 := v.v) (k := lvs.length) (m := 1) (size := 1) (bytes := 24) (base := w.heap.size) (xs := lvs) (news := [.slice ba (wayL S.st (plS S) (lvs.length : Int)).length bc]) rfl rfl rfl rfl rfl rfl rfl rfl hl2 rfl (blk_cells h9) rfl rfl (by omega) (by omega) G.kE.size ?_
    intro v' w6 ap
    obtain ⟨a9, c9, e9, _⟩ := own_read ap.own
    subst e9
    have G := G.app hl2 ap (fun j b cs T' hj => by
      match j, hj with
      | 0, hj => cases hj; rfl
      | j + 1, hj => simp at hj)
    have hP : PlM S w0 g (plS S) w6 := by
      obtain ⟨rs, p1, p2, p3, p4⟩ := hP
      exact ⟨rs, p1, p2, p3, ap.get hl2 p4 rfl⟩
    (repeat refine Zlr ?_)
    refine l_next (⟨a9, lvs.length + 1, c9⟩, lvs.length + 1) ⟨rfl, rfl, rfl, rfl, rfl, trivial⟩ ⟨hlt, hP, ⟨lvs ++ [.slice ba (wayL S.st (plS S) (lvs.length : Int)).length bc], by simp, ap.own, fun j lv l h1 h2 => ?_⟩, G⟩ (by show S.st.length - (lvs.length + 1) < S.st.length - lvs.length; omega)
    rcases Nat.lt_or_ge j lvs.length with h | h
    · rw [List.getElem?_append_left h] at h1
      exact ap.row' hl2 (hl3 j lv l h1 h2) rfl
    · rw [List.getElem?_append_right h] at h1
      have hj : j = lvs.length := by
        have := (List.getElem?_eq_some_iff.1 h1).1
        simp at this
        omega
      subst hj
      simp at h1
      have e2 : l = wayL S.st (plS S) (lvs.length : Int) := by
        unfold nxS at h2
        rw [List.getElem?_map, List.getElem?_range hlt] at h2
        exact (Option.some.inj h2).symm
      rw [← h1, e2]
      exact ap.row' hl2 hlv rfl
  · have hi : i = (nxS S).length := by omega
    subst hi
    (repeat refine Zlr ?_)
    exact ret_c1 rfl (rv_t rfl) ⟨⟨lvs, hl1, own_lo hl2 (Nat.zero_le _), hl3⟩, G.kE⟩
end
end Go.Proofs.Ytkllhfajldnpoaa.Ck
