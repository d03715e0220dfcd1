/- What the proofs of this seat lean on, part 8. -/
import Derived.Test.YtkllhfajldnpoaaPk7
namespace Go.Proofs.Ytkllhfajldnpoaa.Ck
open Go Go.RowKit Fw Sy Rf
set_option linter.unusedVariables false
set_option maxRecDepth 20000
/-- Where one function alone is, without parameters, of statements that are right. -/
def kchk0 (S : PS) : Prop := ∃ f k' n, S.fn = [f] ∧ f.nm = wMain ∧ f.ps = [] ∧ f.ty = 4 ∧ kbody (kst0 S 0 n) f.bd ⟨[], 0, 0, [[]]⟩ = some k'
/-- What a check answers. -/
def ChR (S : PS) (w : World) (v : Value) (w1 : World) : Prop := ∃ (i1 i2 i3 i4 i5 : Sl) (p c : Int), v = .tuple #[.agg #[i1.v, i2.v, i3.v, i4.v, i5.v], .int .i64 p, .int .i64 c] ∧ Kp No w w1 ∧ (c = 0 → ∀ f ∈ S.fn, ∀ j ∈ f.bd, Jk S False j) ∧ (kchk0 S → c = 0)
/-- A state that begins. -/
def qI (n : Nat) (c p : Int) : Kq := ⟨nS, ⟨[], 0, 0, List.replicate n []⟩, 0, c, p, List.replicate n nS⟩
section
variable {ux us uf : Sl} {S : PS} {w0 : World}
theorem ls_at {w : World} {lv : Value} {l : List (List Int)} (h : LS w lv l) : ∃ a c, lv = .slice a l.length c ∧ ∀ (k : Nat) (j : List Int), l[k]? = some j → ∃ g, a = some ⟨g, 0, none⟩ ∧ ∀ w', Kp No w w' → w'.cell? ⟨g, 0 + (k : Int).toNat * 1, none⟩ = some (sv j) := by
  obtain ⟨a, c, rfl, _, h0, hc⟩ := own_read h
  refine ⟨a, c, rfl, fun k j hj => ?_⟩
  have hk := (List.getElem?_eq_some_iff.1 hj).1
  cases a with
  | none => have := h0 rfl; omega
  | some ad =>
    obtain ⟨b, rfl, _, _, hc⟩ := hc _ rfl
    refine ⟨b, rfl, fun w' hw => hw.cell0 ?_⟩
    rw [show 0 + (k : Int).toNat * 1 = 0 + k by omega]
    exact hc k _ (by rw [List.getElem?_map, hj]; rfl)
theorem qI_need (n : Nat) (ok : Bool) (p c p0 c0 : Int) : ∃ c' p', needQ ok p c (qI n c0 p0) = qI n c' p' ∧ (ok = true → c' = c0) := by
  unfold needQ
  split
  · rename_i h
    exact ⟨c, p, rfl, fun e => by rw [e] at h; cases h.2⟩
  · exact ⟨c0, p0, rfl, fun _ => rfl⟩
set_option maxHeartbeats 4000000 in
theorem checkF (hT : Tr w0 ux.v us.v uf.v S) (hP : Pg S) : Ret Try.prog 32 [.agg #[ux.v, us.v, uf.v]] w0 (ChR S w0) := by
  have hux : ux.n = S.ex.length := by obtain ⟨_, _, _, _, _, _, h1, h2, h3⟩ := Tr.val hT; simp only [Sl.v, Value.slice.injEq] at h1; exact h1.2.1
  have hus : us.n = S.st.length := by obtain ⟨_, _, _, _, _, _, h1, h2, h3⟩ := Tr.val hT; simp only [Sl.v, Value.slice.injEq] at h2; exact h2.2.1
  have huf : uf.n = S.fn.length := by obtain ⟨_, _, _, _, _, _, h1, h2, h3⟩ := Tr.val hT; simp only [Sl.v, Value.slice.injEq] at h3; exact h3.2.1
  have hxb := hP.xb
  have hsb := hP.sb
  have hfb := hP.fb
  refine ret_enter Try.func32 rfl Try.ntmps32 rfl ?_
  (repeat refine Zlr ?_)
  refine s_box (cs := [ux.v, us.v, uf.v]) rfl rfl (fun b1 w1 n => ?_)
  have G := (Pw.start (L := [(tInt, nS, []), (tInt, nS, []), (tInt, nS, []), (tInt, nS, []), (tInts, nS, [])]) (w0 := w0) ⟨Kp.refl _ _, fun i e v cs h => by
    match i, h with
    | 0, h => cases h; exact ⟨.inl rfl, World.ownsRow_nil _ _ _ _⟩
    | 1, h => cases h; exact ⟨.inl rfl, World.ownsRow_nil _ _ _ _⟩
    | 2, h => cases h; exact ⟨.inl rfl, World.ownsRow_nil _ _ _ _⟩
    | 3, h => cases h; exact ⟨.inl rfl, World.ownsRow_nil _ _ _ _⟩
    | 4, h => cases h; exact ⟨.inr rfl, World.ownsRow_nil _ _ _ _⟩
    | i + 5, h => simp at h, fun i j e v cs e' v' cs' b h1 h2 h3 => by
    have hn : ∀ {i : Nat} {e v cs}, [(tInt, nS, ([] : List Value)), (tInt, nS, []), (tInt, nS, []), (tInt, nS, []), (tInts, nS, [])][i]? = some (e, v, cs) → v = nS := fun {i e v cs} h => by
      match i, h with
      | 0, h => cases h; rfl
      | 1, h => cases h; rfl
      | 2, h => cases h; rfl
      | 3, h => cases h; rfl
      | 4, h => cases h; rfl
      | i + 5, h => simp at h
    rw [hn h1] at h3
    cases h3⟩).new n rfl
  (repeat refine Zlr ?_)
  refine s_al rfl (fun b2 w2 n2 => ?_)
  have G := G.new n2 rfl
  have h0 := G.blk 0 rfl; try have h1 := G.blk 1 rfl; try have h2 := G.blk 2 rfl; try have h3 := G.blk 3 rfl; try have h4 := G.blk 4 rfl; try have h5 := G.blk 5 rfl
  (repeat refine Zlr ?_)
  refine s_al rfl (fun b5 w3 n5 => ?_)
  have G := G.new n5 rfl
  have h0 := G.blk 0 rfl; try have h1 := G.blk 1 rfl; try have h2 := G.blk 2 rfl; try have h3 := G.blk 3 rfl; try have h4 := G.blk 4 rfl; try have h5 := G.blk 5 rfl
  (repeat refine Zlr ?_)
  refine s_stw (vs := kc ⟨w0, S, ux, us, uf, nS, nS, nS, nS, nS⟩ (qI S.fn.length 0 0)) rfl rfl rfl rfl rfl h0 rfl (fun w4 s => ?_)
  have G := G.put 0 rfl s
  obtain ⟨ic, hic, hG⟩ : ∃ ic : List Value, ic.length = 5 ∧ Pw w0 w4 _ [(b5, kc ⟨w0, S, ux, us, uf, nS, nS, nS, nS, nS⟩ (qI S.fn.length 0 0), tC), (b2, ic, tInfo), (b1, [ux.v, us.v, uf.v], tTree)] := ⟨_, rfl, G⟩
  clear G n n2 n5 s h0 h1 h2
  have G := hG
  clear hG
  have h0 := G.blk 0 rfl; try have h1 := G.blk 1 rfl; try have h2 := G.blk 2 rfl; try have h3 := G.blk 3 rfl; try have h4 := G.blk 4 rfl; try have h5 := G.blk 5 rfl
  (repeat refine Zlr ?_)
  refine k_loop (σ := Sl × Sl × Nat) (fun t => [(1, .pointer (some ⟨b1, 0, none⟩)), (2, .pointer (some ⟨b2, 0, none⟩)), (5, .pointer (some ⟨b5, 0, none⟩)), (15, .int .i64 (ux.n : Int)), (16, .int .i64 (t.2.2 : Int))])
    (fun t w' => t.2.2 ≤ S.ex.length ∧ ∃ c1 c2, c1.length = t.2.2 ∧ c2.length = t.2.2 ∧ Pw w0 w' [(tInt, t.1, c1), (tInt, t.2.1, c2), (tInt, nS, []), (tInt, nS, []), (tInts, nS, [])] [(b5, kc ⟨w0, S, ux, us, uf, t.1, t.2.1, nS, nS, nS⟩ (qI S.fn.length 0 0), tC), (b2, ic, tInfo), (b1, [ux.v, us.v, uf.v], tTree)])
    (fun t => S.ex.length - t.2.2) (nS, nS, 0) ⟨rfl, rfl, rfl, rfl, rfl, trivial⟩ ⟨Nat.zero_le _, [], [], rfl, rfl, G⟩ ?_
  clear G h0 h1 h2
  rintro ⟨v1, v2, i⟩ l w5 ⟨hi, c1, c2, hc1, hc2, G⟩
  simp only at hi hc1 hc2 G
  try dsimp only
  have h0 := G.blk 0 rfl; try have h1 := G.blk 1 rfl; try have h2 := G.blk 2 rfl; try have h3 := G.blk 3 rfl; try have h4 := G.blk 4 rfl; try have h5 := G.blk 5 rfl
  (repeat refine Zlr ?_)
  refine c_dec rfl (fun hlt => ?_) (fun hge => ?_)
  · have hlt : i < S.ex.length := by omega
    (repeat refine Zlr ?_)
    refine s_bs (cs := [.int .i64 0]) (e := 3) rfl (fun b9 w6 n9 => ?_)
    have G := G.no n9.kp
    have h0 := G.blk 0 rfl; try have h1 := G.blk 1 rfl; try have h2 := G.blk 2 rfl; try have h3 := G.blk 3 rfl; try have h4 := G.blk 4 rfl; try have h5 := G.blk 5 rfl
    have h9 := n9.blk
    (repeat refine Zlr ?_)
    refine s_app (v0 := v1.v) (k := c1.length) (m := 1) (size := 1) (bytes := 8) (base := w0.heap.size) (xs := c1) (news := [.int .i64 0]) rfl rfl rfl rfl rfl rfl rfl rfl (G.tb.own 0 _ _ _ rfl).2 rfl (blk_cells h9) rfl rfl (by omega) (by omega) G.tb.k0.size ?_
    intro v w7 ap
    obtain ⟨a9, k9, e9, _⟩ := own_read ap.own
    subst e9
    have G := G.app 0 rfl (v' := ⟨a9, c1.length + 1, k9⟩) (xs := c1 ++ [.int .i64 0]) (by rw [List.length_append]; exact ap)
    have h0 := G.blk 0 rfl; try have h1 := G.blk 1 rfl; try have h2 := G.blk 2 rfl; try have h3 := G.blk 3 rfl; try have h4 := G.blk 4 rfl; try have h5 := G.blk 5 rfl
    (repeat refine Zlr ?_)
    refine s_st (vs := [.slice a9 (c1.length + 1) k9]) rfl rfl rfl rfl rfl h0 (Nat.le_of_ble_eq_true rfl) (fun w8 s => ?_)
    have G := G.put 0 rfl s
    clear ap n9 h9
    have h0 := G.blk 0 rfl; try have h1 := G.blk 1 rfl; try have h2 := G.blk 2 rfl; try have h3 := G.blk 3 rfl; try have h4 := G.blk 4 rfl; try have h5 := G.blk 5 rfl
    (repeat refine Zlr ?_)
    refine s_bs (cs := [.int .i64 (-1)]) (e := 3) rfl (fun b9 w6 n9 => ?_)
    have G := G.no n9.kp
    have h0 := G.blk 0 rfl; try have h1 := G.blk 1 rfl; try have h2 := G.blk 2 rfl; try have h3 := G.blk 3 rfl; try have h4 := G.blk 4 rfl; try have h5 := G.blk 5 rfl
    have h9 := n9.blk
    (repeat refine Zlr ?_)
    refine s_app (v0 := v2.v) (k := c2.length) (m := 1) (size := 1) (bytes := 8) (base := w0.heap.size) (xs := c2) (news := [.int .i64 (-1)]) rfl rfl rfl rfl rfl rfl rfl rfl (G.tb.own 1 _ _ _ rfl).2 rfl (blk_cells h9) rfl rfl (by omega) (by omega) G.tb.k0.size ?_
    intro v w7 ap
    obtain ⟨a8, k8, e9, _⟩ := own_read ap.own
    subst e9
    have G := G.app 1 rfl (v' := ⟨a8, c2.length + 1, k8⟩) (xs := c2 ++ [.int .i64 (-1)]) (by rw [List.length_append]; exact ap)
    have h0 := G.blk 0 rfl; try have h1 := G.blk 1 rfl; try have h2 := G.blk 2 rfl; try have h3 := G.blk 3 rfl; try have h4 := G.blk 4 rfl; try have h5 := G.blk 5 rfl
    (repeat refine Zlr ?_)
    refine s_st (vs := [.slice a8 (c2.length + 1) k8]) rfl rfl rfl rfl rfl h0 (Nat.le_of_ble_eq_true rfl) (fun w8 s => ?_)
    have G := G.put 0 rfl s
    clear ap n9 h9
    have h0 := G.blk 0 rfl; try have h1 := G.blk 1 rfl; try have h2 := G.blk 2 rfl; try have h3 := G.blk 3 rfl; try have h4 := G.blk 4 rfl; try have h5 := G.blk 5 rfl
    (repeat refine Zlr ?_)
    exact l_next (⟨a9, c1.length + 1, k9⟩, ⟨a8, c2.length + 1, k8⟩, i + 1) ⟨rfl, rfl, rfl, rfl, rfl, trivial⟩ ⟨hlt, c1 ++ [Value.int .i64 0], c2 ++ [Value.int .i64 (-1)], by simp [hc1], by simp [hc2], G⟩ (by show S.ex.length - (i + 1) < S.ex.length - i; omega)
  have hi : i = S.ex.length := by omega
  subst hi
  clear hge
  (repeat refine Zlr ?_)
  refine k_loop (σ := Sl × Sl × Nat) (fun t => [(1, .pointer (some ⟨b1, 0, none⟩)), (2, .pointer (some ⟨b2, 0, none⟩)), (5, .pointer (some ⟨b5, 0, none⟩)), (35, .int .i64 (us.n : Int)), (36, .int .i64 (t.2.2 : Int))])
    (fun t w' => t.2.2 ≤ S.st.length ∧ ∃ c3 c4, c3.length = t.2.2 ∧ c4.length = t.2.2 ∧ Pw w0 w' [(tInt, v1, c1), (tInt, v2, c2), (tInt, t.1, c3), (tInt, t.2.1, c4), (tInts, nS, [])] [(b5, kc ⟨w0, S, ux, us, uf, v1, v2, t.1, t.2.1, nS⟩ (qI S.fn.length 0 0), tC), (b2, ic, tInfo), (b1, [ux.v, us.v, uf.v], tTree)])
    (fun t => S.st.length - t.2.2) (nS, nS, 0) ⟨rfl, rfl, rfl, rfl, rfl, trivial⟩ ⟨Nat.zero_le _, [], [], rfl, rfl, G⟩ ?_
  clear G h0 h1 h2
  rintro ⟨v3, v4, i⟩ l w5 ⟨hi, c3, c4, hc3, hc4, G⟩
  simp only at hi hc3 hc4 G
  try dsimp only
  have h0 := G.blk 0 rfl; try have h1 := G.blk 1 rfl; try have h2 := G.blk 2 rfl; try have h3 := G.blk 3 rfl; try have h4 := G.blk 4 rfl; try have h5 := G.blk 5 rfl
  (repeat refine Zlr ?_)
  refine c_dec rfl (fun hlt => ?_) (fun hge => ?_)
  · have hlt : i < S.st.length := by omega
    (repeat refine Zlr ?_)
    refine s_bs (cs := [.int .i64 (-1)]) (e := 3) rfl (fun b9 w6 n9 => ?_)
    have G := G.no n9.kp
    have h0 := G.blk 0 rfl; try have h1 := G.blk 1 rfl; try have h2 := G.blk 2 rfl; try have h3 := G.blk 3 rfl; try have h4 := G.blk 4 rfl; try have h5 := G.blk 5 rfl
    have h9 := n9.blk
    (repeat refine Zlr ?_)
    refine s_app (v0 := v3.v) (k := c3.length) (m := 1) (size := 1) (bytes := 8) (base := w0.heap.size) (xs := c3) (news := [.int .i64 (-1)]) rfl rfl rfl rfl rfl rfl rfl rfl (G.tb.own 2 _ _ _ rfl).2 rfl (blk_cells h9) rfl rfl (by omega) (by omega) G.tb.k0.size ?_
    intro v w7 ap
    obtain ⟨a9, k9, e9, _⟩ := own_read ap.own
    subst e9
    have G := G.app 2 rfl (v' := ⟨a9, c3.length + 1, k9⟩) (xs := c3 ++ [.int .i64 (-1)]) (by rw [List.length_append]; exact ap)
    have h0 := G.blk 0 rfl; try have h1 := G.blk 1 rfl; try have h2 := G.blk 2 rfl; try have h3 := G.blk 3 rfl; try have h4 := G.blk 4 rfl; try have h5 := G.blk 5 rfl
    (repeat refine Zlr ?_)
    refine s_st (vs := [.slice a9 (c3.length + 1) k9]) rfl rfl rfl rfl rfl h0 (Nat.le_of_ble_eq_true rfl) (fun w8 s => ?_)
    have G := G.put 0 rfl s
    clear ap n9 h9
    have h0 := G.blk 0 rfl; try have h1 := G.blk 1 rfl; try have h2 := G.blk 2 rfl; try have h3 := G.blk 3 rfl; try have h4 := G.blk 4 rfl; try have h5 := G.blk 5 rfl
    (repeat refine Zlr ?_)
    refine s_bs (cs := [.int .i64 0]) (e := 3) rfl (fun b9 w6 n9 => ?_)
    have G := G.no n9.kp
    have h0 := G.blk 0 rfl; try have h1 := G.blk 1 rfl; try have h2 := G.blk 2 rfl; try have h3 := G.blk 3 rfl; try have h4 := G.blk 4 rfl; try have h5 := G.blk 5 rfl
    have h9 := n9.blk
    (repeat refine Zlr ?_)
    refine s_app (v0 := v4.v) (k := c4.length) (m := 1) (size := 1) (bytes := 8) (base := w0.heap.size) (xs := c4) (news := [.int .i64 0]) rfl rfl rfl rfl rfl rfl rfl rfl (G.tb.own 3 _ _ _ rfl).2 rfl (blk_cells h9) rfl rfl (by omega) (by omega) G.tb.k0.size ?_
    intro v w7 ap
    obtain ⟨a8, k8, e9, _⟩ := own_read ap.own
    subst e9
    have G := G.app 3 rfl (v' := ⟨a8, c4.length + 1, k8⟩) (xs := c4 ++ [.int .i64 0]) (by rw [List.length_append]; exact ap)
    have h0 := G.blk 0 rfl; try have h1 := G.blk 1 rfl; try have h2 := G.blk 2 rfl; try have h3 := G.blk 3 rfl; try have h4 := G.blk 4 rfl; try have h5 := G.blk 5 rfl
    (repeat refine Zlr ?_)
    refine s_st (vs := [.slice a8 (c4.length + 1) k8]) rfl rfl rfl rfl rfl h0 (Nat.le_of_ble_eq_true rfl) (fun w8 s => ?_)
    have G := G.put 0 rfl s
    clear ap n9 h9
    have h0 := G.blk 0 rfl; try have h1 := G.blk 1 rfl; try have h2 := G.blk 2 rfl; try have h3 := G.blk 3 rfl; try have h4 := G.blk 4 rfl; try have h5 := G.blk 5 rfl
    (repeat refine Zlr ?_)
    exact l_next (⟨a9, c3.length + 1, k9⟩, ⟨a8, c4.length + 1, k8⟩, i + 1) ⟨rfl, rfl, rfl, rfl, rfl, trivial⟩ ⟨hlt, c3 ++ [Value.int .i64 (-1)], c4 ++ [Value.int .i64 0], by simp [hc3], by simp [hc4], G⟩ (by show S.st.length - (i + 1) < S.st.length - i; omega)
  have hi : i = S.st.length := by omega
  subst hi
  clear hge
  (repeat refine Zlr ?_)
  refine k_loop (σ := Sl × (Int × Int) × Nat) (fun t => [(1, .pointer (some ⟨b1, 0, none⟩)), (2, .pointer (some ⟨b2, 0, none⟩)), (5, .pointer (some ⟨b5, 0, none⟩)), (55, .int .i64 (uf.n : Int)), (56, .int .i64 (t.2.2 : Int))])
    (fun t w' => t.2.2 ≤ S.fn.length ∧ (S.fn.length = 1 → t.2.1.1 = 0) ∧ Pw w0 w' [(tInt, v1, c1), (tInt, v2, c2), (tInt, v3, c3), (tInt, v4, c4), (tInts, t.1, List.replicate t.2.2 nS.v)] [(b5, kc ⟨w0, S, ux, us, uf, v1, v2, v3, v4, t.1⟩ (qI S.fn.length t.2.1.1 t.2.1.2), tC), (b2, ic, tInfo), (b1, [ux.v, us.v, uf.v], tTree)])
    (fun t => S.fn.length - t.2.2) (nS, (0, 0), 0) ⟨rfl, rfl, rfl, rfl, rfl, trivial⟩ ⟨Nat.zero_le _, fun _ => rfl, G⟩ ?_
  clear G h0 h1 h2
  rintro ⟨v5, ⟨c, p⟩, i⟩ l w5 ⟨hi, hc0, G⟩
  simp only at hi hc0 G
  try dsimp only
  have h0 := G.blk 0 rfl; try have h1 := G.blk 1 rfl; try have h2 := G.blk 2 rfl; try have h3 := G.blk 3 rfl; try have h4 := G.blk 4 rfl; try have h5 := G.blk 5 rfl
  (repeat refine Zlr ?_)
  refine c_dec rfl (fun hlt => ?_) (fun hge => ?_)
  · have hlt : i < S.fn.length := by omega
    have hci : (List.replicate i nS.v).length = i := List.length_replicate
    generalize hc5 : List.replicate i nS.v = c5 at *
    (repeat refine Zlr ?_)
    refine s_bs (cs := [.slice none 0 0]) (e := 23) rfl (fun b9 w6 n9 => ?_)
    have G := G.no n9.kp
    have h0 := G.blk 0 rfl; try have h1 := G.blk 1 rfl; try have h2 := G.blk 2 rfl; try have h3 := G.blk 3 rfl; try have h4 := G.blk 4 rfl; try have h5 := G.blk 5 rfl
    have h9 := n9.blk
    (repeat refine Zlr ?_)
    refine s_app (v0 := v5.v) (k := c5.length) (m := 1) (size := 1) (bytes := 24) (base := w0.heap.size) (xs := c5) (news := [.slice none 0 0]) rfl rfl rfl rfl rfl rfl rfl rfl (G.tb.own 4 _ _ _ rfl).2 rfl (blk_cells h9) rfl rfl (by omega) (by omega) G.tb.k0.size ?_
    intro v w7 ap
    obtain ⟨a9, k9, e9, _⟩ := own_read ap.own
    subst e9
    have G := G.app 4 rfl (v' := ⟨a9, c5.length + 1, k9⟩) (xs := c5 ++ [.slice none 0 0]) (by rw [List.length_append]; exact ap)
    have h0 := G.blk 0 rfl; try have h1 := G.blk 1 rfl; try have h2 := G.blk 2 rfl; try have h3 := G.blk 3 rfl; try have h4 := G.blk 4 rfl; try have h5 := G.blk 5 rfl
    (repeat refine Zlr ?_)
    refine s_st (vs := [.slice a9 (c5.length + 1) k9]) rfl rfl rfl rfl rfl h0 (Nat.le_of_ble_eq_true rfl) (fun w8 s => ?_)
    have G := G.put 0 rfl s
    clear ap n9 h9
    have h0 := G.blk 0 rfl; try have h1 := G.blk 1 rfl; try have h2 := G.blk 2 rfl; try have h3 := G.blk 3 rfl; try have h4 := G.blk 4 rfl; try have h5 := G.blk 5 rfl
    (repeat refine Zlr ?_)
    have e5 : c5 ++ [.slice none 0 0] = List.replicate (i + 1) nS.v := by rw [← hc5, List.replicate_succ']
    rw [e5] at G
    have G : Pw w0 w8 [(tInt, v1, c1), (tInt, v2, c2), (tInt, v3, c3), (tInt, v4, c4), (tInts, ⟨a9, c5.length + 1, k9⟩, List.replicate (i + 1) nS.v)] [(b5, kc ⟨w0, S, ux, us, uf, v1, v2, v3, v4, ⟨a9, c5.length + 1, k9⟩⟩ (qI S.fn.length c p), tC), (b2, ic, tInfo), (b1, [ux.v, us.v, uf.v], tTree)] := G
    obtain ⟨v6, hv6⟩ : ∃ v6 : Sl, v6 = ⟨a9, c5.length + 1, k9⟩ := ⟨_, rfl⟩
    rw [← hv6] at G
    clear hv6 h0 h1 h2
    have h0 := G.blk 0 rfl; try have h1 := G.blk 1 rfl; try have h2 := G.blk 2 rfl; try have h3 := G.blk 3 rfl; try have h4 := G.blk 4 rfl; try have h5 := G.blk 5 rfl
    refine k_loop (σ := (Int × Int) × Nat) (fun t => [(1, .pointer (some ⟨b1, 0, none⟩)), (2, .pointer (some ⟨b2, 0, none⟩)), (5, .pointer (some ⟨b5, 0, none⟩)), (6, .int .i64 (i : Int)), (7, .int .i64 (t.2 : Int)), (55, .int .i64 (uf.n : Int)), (56, .int .i64 (i : Int))])
      (fun t w' => t.2 ≤ i ∧ (S.fn.length = 1 → t.1.1 = 0) ∧ Pw w0 w' [(tInt, v1, c1), (tInt, v2, c2), (tInt, v3, c3), (tInt, v4, c4), (tInts, v6, List.replicate (i + 1) nS.v)] [(b5, kc ⟨w0, S, ux, us, uf, v1, v2, v3, v4, v6⟩ (qI S.fn.length t.1.1 t.1.2), tC), (b2, ic, tInfo), (b1, [ux.v, us.v, uf.v], tTree)])
      (fun t => i - t.2) ((c, p), 0) ⟨rfl, rfl, rfl, rfl, rfl, rfl, rfl, trivial⟩ ⟨Nat.zero_le _, hc0, G⟩ ?_
    clear G h0 h1 h2 hc0
    rintro ⟨⟨c, p⟩, k⟩ l w5 ⟨hk, hc0, G⟩
    simp only at hk hc0 G
    try dsimp only
    have h0 := G.blk 0 rfl; try have h1 := G.blk 1 rfl; try have h2 := G.blk 2 rfl; try have h3 := G.blk 3 rfl; try have h4 := G.blk 4 rfl; try have h5 := G.blk 5 rfl
    (repeat refine Zlr ?_)
    refine c_dec rfl (fun hlk => ?_) (fun hgk => ?_)
    · have hlk : k < i := by omega
      obtain ⟨fy, hfy⟩ : ∃ fy, S.fn[k]? = some fy := ⟨_, List.getElem?_eq_getElem (by omega)⟩
      obtain ⟨fz, hfz⟩ : ∃ fz, S.fn[i]? = some fz := ⟨_, List.getElem?_eq_getElem hlt⟩
      obtain ⟨fg, flv, fmv, hfa, _, _, hfc⟩ := Tr.fn (a := uf.a) (n := uf.n) (c := uf.c) hT hfy
      obtain ⟨fg', flv', fmv', hfa', _, _, hfc'⟩ := Tr.fn (a := uf.a) (n := uf.n) (c := uf.c) hT hfz
      have efg : fg' = fg := by rw [hfa] at hfa'; cases hfa'; rfl
      subst efg
      have hfs : Value.slice uf.a uf.n uf.c = .slice (some ⟨fg', 0, none⟩) uf.n uf.c := by rw [hfa]
      (repeat refine Zlr ?_)
      refine k_h (fun w' => Kp No w5 w') [(0, false), (1, false), (2, false), (3, false), (4, false), (5, false), (6, false), (7, false), (8, false), (9, false), (10, false), (11, false), (12, false), (13, false), (14, false), (15, false), (16, false), (17, false), (18, false), (19, false), (20, false), (21, true), (22, true)] 22 (by kernel_rfl) (waits_of_last (by kernel_rfl)) (by kernel_rfl) (by kernel_rfl) (by kernel_rfl) rfl (fun w6 k6 _ => ?_)
      have g0 := h0
      have g2 := h2
      have hd1 : ∀ w', Kp No w5 w' → w'.heap[b5]? = some (.cells (kc ⟨w0, S, ux, us, uf, v1, v2, v3, v4, v6⟩ (qI S.fn.length c p)).toArray tC (0, 0)) := fun w' hw => hw.get0 g0
      have hd2 : ∀ w', Kp No w5 w' → w'.heap[b1]? = some (.cells [ux.v, us.v, uf.v].toArray tTree (0, 0)) := fun w' hw => hw.get0 g2
      have G5 := G.tb.k0
      have hf1 : ∀ w', Kp No w5 w' → ∀ (j : Nat) (u : Value), (fnC (fy, flv, fmv))[j]? = some u → w'.cell? ⟨fg', 0 + (k : Int).toNat * 6 + j, none⟩ = some u := fun w' hw j u hj => (G5.no hw).cell0 (hfc j u hj)
      have hf2 : ∀ w', Kp No w5 w' → ∀ (j : Nat) (u : Value), (fnC (fz, flv', fmv'))[j]? = some u → w'.cell? ⟨fg', 0 + (i : Int).toNat * 6 + j, none⟩ = some u := fun w' hw j u hj => (G5.no hw).cell0 (hfc' j u hj)
      refine h_v k6 (fun w' hw => r_ldw rfl (hd1 w' hw) rfl rfl) ?_
      (repeat (first | refine Zhq ?_ | refine Zhgn ?_ | refine Zhgu ?_ | refine Zhgv ?_))
      refine h_v k6 (fun w' hw => r_ia (size := 6) rfl rfl hfs rfl (by omega) (by omega)) ?_
      (repeat (first | refine Zhq ?_ | refine Zhgn ?_ | refine Zhgu ?_ | refine Zhgv ?_))
      refine h_v k6 (fun w' hw => r_ia (size := 6) rfl rfl hfs rfl (by omega) (by omega)) ?_
      (repeat (first | refine Zhq ?_ | refine Zhgn ?_ | refine Zhgu ?_ | refine Zhgv ?_))
      refine h_v k6 (fun w' hw => r_ia (size := 6) rfl rfl hfs rfl (by omega) (by omega)) ?_
      (repeat (first | refine Zhq ?_ | refine Zhgn ?_ | refine Zhgu ?_ | refine Zhgv ?_))
      refine h_call (us := []) (zs := []) (by kernel_rfl) rfl rfl (needF0 ⟨w0, S, ux, us, uf, v1, v2, v3, v4, v6⟩ (qI S.fn.length c p) _ _ _ _) ?_
      rintro _ w7 ⟨rfl, k7⟩
      obtain ⟨c', p', eq, _⟩ := qI_need S.fn.length _ _ _ p c
      rw [eq]
      have G := (G.no k6).no k7
      have h0 := G.blk 0 rfl; try have h1 := G.blk 1 rfl; try have h2 := G.blk 2 rfl; try have h3 := G.blk 3 rfl; try have h4 := G.blk 4 rfl; try have h5 := G.blk 5 rfl
      refine ⟨fun _ => k6.no k7, ?_⟩
      refine h_st (vs := kc ⟨w0, S, ux, us, uf, v1, v2, v3, v4, v6⟩ (qI S.fn.length c' p')) rfl rfl rfl rfl rfl h0 (Nat.le_of_ble_eq_true rfl) (fun w8 s => ⟨fun h => (h rfl).elim, ?_⟩)
      have G := G.put 0 rfl s
      refine h_nil ?_
      (repeat refine Zlr ?_)
      exact l_next ((c', p'), k + 1) ⟨rfl, rfl, rfl, rfl, rfl, rfl, rfl, trivial⟩ ⟨hlk, fun h1 => by omega, G⟩ (by show i - (k + 1) < i - k; omega)
    · (repeat refine Zlr ?_)
      exact l_next (v6, (c, p), i + 1) ⟨rfl, rfl, rfl, rfl, rfl, trivial⟩ ⟨hlt, hc0, G⟩ (by show S.fn.length - (i + 1) < S.fn.length - i; omega)
  have hi : i = S.fn.length := by omega
  subst hi
  clear hge hi
  obtain ⟨f0, hf0⟩ : ∃ f0, S.fn[0]? = some f0 := by
    cases e : S.fn with
    | nil => exact (hP.n0 e).elim
    | cons a r => exact ⟨a, rfl⟩
  have hfl : 0 < S.fn.length := (List.getElem?_eq_some_iff.1 hf0).1
  have hA : Ak ⟨w0, S, ux, us, uf, v1, v2, v3, v4, v5⟩ w5 (qI S.fn.length c p) := by
    have o := G.tb.own
    have nn : ∀ {i : Nat} {v : Sl}, (List.replicate S.fn.length nS)[i]? = some v → v = nS := fun h => by
      obtain ⟨_, e⟩ := List.getElem?_eq_some_iff.1 h
      rw [← e, List.getElem_replicate]
    refine ⟨G.tb.k0, hT, hP, ⟨c1, by have := (o 0 _ _ _ rfl).2; rw [hc1] at this; exact this⟩, ⟨c2, by have := (o 1 _ _ _ rfl).2; rw [hc2] at this; exact this⟩, ⟨c3, by have := (o 2 _ _ _ rfl).2; rw [hc3] at this; exact this⟩, ⟨c4, by have := (o 3 _ _ _ rfl).2; rw [hc4] at this; exact this⟩, ?_, List.length_replicate, List.length_replicate, fun i v l hv hl => ?_, fun i j v u b hv hu h1 _ => ?_, fun v hv b h1 => ?_, World.ownsRow_nil _ _ _ _, fun e he => (by cases he), Nat.zero_le _, hfl, fun l hl => ?_⟩
    · have := (o 4 _ _ _ rfl).2
      rw [List.length_replicate] at this
      show w5.ownsRow _ _ _ _ _ ((List.replicate S.fn.length nS).map Sl.v)
      rw [List.map_replicate]
      exact this
    · rw [nn hv]
      have e : l = [] := by
        obtain ⟨_, e⟩ := List.getElem?_eq_some_iff.1 hl
        rw [← e]
        exact List.getElem_replicate _
      rw [e]
      exact World.ownsRow_nil _ _ _ _
    · rw [nn hv] at h1; cases h1
    · rw [(List.mem_replicate.1 hv).2] at h1; cases h1
    · rw [(List.mem_replicate.1 hl).2]; exact Nat.zero_le _
  have hW : Wk ⟨w0, S, ux, us, uf, v1, v2, v3, v4, v5⟩ w0 (qI S.fn.length c p) w5 (qI S.fn.length c p) [(b5, kc ⟨w0, S, ux, us, uf, v1, v2, v3, v4, v5⟩ (qI S.fn.length c p), tC), (b2, ic, tInfo), (b1, [ux.v, us.v, uf.v], tTree)] :=
    ⟨⟨hA, G.tb.k0.mono fun _ _ h => h.elim, fun _ _ h => h⟩, Nat.le_refl _, fun i b cs T hi => ⟨(G.bx i b cs T hi).1, (G.bx i b cs T hi).2.1, hA.nsx (G.bx i b cs T hi).2.1 (G.bx i b cs T hi).2.2⟩, G.nd⟩
  clear G h0 h1 h2 hA
  obtain ⟨X, hX⟩ : ∃ X : Kc, (⟨w0, S, ux, us, uf, v1, v2, v3, v4, v5⟩ : Kc) = X := ⟨_, rfl⟩
  have G := hW
  clear hW
  have x1 : X.w = w0 := by rw [← hX]
  have x2 : X.S = S := by rw [← hX]
  have x3 : X.ux = ux := by rw [← hX]
  have x4 : X.us = us := by rw [← hX]
  have x5 : X.uf = uf := by rw [← hX]
  rw [hX] at G
  subst x1 x2 x3 x4 x5
  clear hX
  obtain ⟨fg, flv, fmv, hfa, hlp, hlb, hfc⟩ := Tr.fn (a := X.uf.a) (n := X.uf.n) (c := X.uf.c) hT hf0
  obtain ⟨pa, pc, rfl, _⟩ := own_read hlp
  have hfs : Value.slice X.uf.a X.uf.n X.uf.c = .slice (some ⟨fg, 0, none⟩) X.uf.n X.uf.c := by rw [hfa]
  have h0 := G.blk 0 rfl; try have h1 := G.blk 1 rfl; try have h2 := G.blk 2 rfl; try have h3 := G.blk 3 rfl; try have h4 := G.blk 4 rfl; try have h5 := G.blk 5 rfl
  (repeat refine Zlr ?_)
  refine k_h (fun w' => Kp No w5 w') [(0, false), (1, false), (2, false), (3, false), (4, false), (5, false), (6, false), (7, true), (8, true)] 8 (by kernel_rfl) (waits_of_last (by kernel_rfl)) (by kernel_rfl) (by kernel_rfl) (by kernel_rfl) rfl (fun w6 k6 _ => ?_)
  have g0 := h0
  have g2 := h2
  have X5 := G.at_.k0
  have hd1 : ∀ w', Kp No w5 w' → w'.heap[b5]? = some (.cells (kc X (qI X.S.fn.length c p)).toArray tC (0, 0)) := fun w' hw => hw.get0 g0
  have hd2 : ∀ w', Kp No w5 w' → w'.heap[b1]? = some (.cells [X.ux.v, X.us.v, X.uf.v].toArray tTree (0, 0)) := fun w' hw => hw.get0 g2
  have hf1 : ∀ w', Kp No w5 w' → ∀ (j : Nat) (u : Value), (fnC (f0, .slice pa f0.ps.length pc, fmv))[j]? = some u → w'.cell? ⟨fg, 0 + (0 : Int).toNat * 6 + j, none⟩ = some u := fun w' hw j u hj => (X5.no hw).cell0 (hfc j u hj)
  refine h_v k6 (fun w' hw => r_ldw rfl (hd1 w' hw) rfl rfl) ?_
  (repeat (first | refine Zhq ?_ | refine Zhgn ?_ | refine Zhgu ?_ | refine Zhgv ?_))
  refine h_v k6 (fun w' hw => r_ia (size := 6) rfl rfl hfs rfl (by omega) (by omega)) ?_
  (repeat (first | refine Zhq ?_ | refine Zhgn ?_ | refine Zhgu ?_ | refine Zhgv ?_))
  refine h_call (us := []) (zs := []) (by kernel_rfl) rfl rfl (needK (G.no k6).at_ _ _ _ (by decide)) ?_
  rintro _ w7 ⟨q2, rfl, k7, g, en, ok1⟩
  have G := (G.no k6).call g
  obtain ⟨c2, p2, e2⟩ := en.eq
  have e2 : q2 = qI X.S.fn.length c2 p2 := e2
  subst e2
  have h0 := G.blk 0 rfl; try have h1 := G.blk 1 rfl; try have h2 := G.blk 2 rfl; try have h3 := G.blk 3 rfl; try have h4 := G.blk 4 rfl; try have h5 := G.blk 5 rfl
  refine ⟨fun _ => k6.no k7, ?_⟩
  refine h_st (vs := kc X (qI X.S.fn.length c2 p2)) rfl rfl rfl rfl rfl h0 (Nat.le_of_ble_eq_true rfl) (fun w8 s => ⟨fun h => (h rfl).elim, ?_⟩)
  have s : Sb w7 b5 (kc X (qI X.S.fn.length c2 p2)) tC w8 := s
  have G := G.put 0 rfl s rfl
  refine h_nil ?_
  have hc2 : kchk0 X.S → c2 = 0 := fun hk => by
    obtain ⟨f, k', n, e1, e2, e3, e4, e5⟩ := hk
    have e : f0 = f := by rw [e1] at hf0; simpa using hf0.symm
    refine (ok1 ?_).trans (hc0 (by rw [e1]; rfl))
    rw [e, e2]
    show ((strOfNums wMain).toList == _) = true
    rw [str_eq, B_nums (by decide)]
    decide
  clear ok1 en hc0 h0 h1 h2 g0 g2 hd1 hd2 hf1 X5
  have h0 := G.blk 0 rfl; try have h1 := G.blk 1 rfl; try have h2 := G.blk 2 rfl; try have h3 := G.blk 3 rfl; try have h4 := G.blk 4 rfl; try have h5 := G.blk 5 rfl
  (repeat (first | refine k_nil ?_ | refine k_n ?_ | refine k_r ?_ | refine k_x ?_ | refine b_n ?_ | refine b_r ?_ | refine b_y rfl ?_ | refine b_z rfl ?_ | refine l_r ?_ | refine l_x ?_ | refine k_seq ?_ | refine k_blk ?_ | refine k_ret ?_ | refine k_exit ?_ | refine k_skip ?_ | refine Zs ?_ | refine Zl ?_))
  refine k_cutc (σ := Int × Int) (fun t => [(1, .pointer (some ⟨b1, 0, none⟩)), (2, .pointer (some ⟨b2, 0, none⟩)), (5, .pointer (some ⟨b5, 0, none⟩))])
    (fun t w' => (kchk0 X.S → t.1 = 0) ∧ Wk X X.w (qI X.S.fn.length c p) w' (qI X.S.fn.length t.1 t.2) [(b5, kc X (qI X.S.fn.length t.1 t.2), tC), (b2, ic, tInfo), (b1, [X.ux.v, X.us.v, X.uf.v], tTree)]) ?_ ?_
  · refine k_h (fun w' => Kp No w8 w') [(0, false), (1, false), (2, false), (3, false), (4, false), (5, false), (6, false), (7, false), (8, false), (9, false), (10, false), (11, false), (12, false), (13, false), (14, false), (15, false), (16, false), (17, false), (18, false), (19, false), (20, false), (21, false), (22, true), (23, true)] 23 (by kernel_rfl) (waits_of_last (by kernel_rfl)) (by kernel_rfl) (by kernel_rfl) (by kernel_rfl) rfl (fun w6 k6 _ => ?_)
    have g0 := h0
    have g2 := h2
    have X5 := G.at_.k0
    have hd1 : ∀ w', Kp No w8 w' → w'.heap[b5]? = some (.cells (kc X (qI X.S.fn.length c2 p2)).toArray tC (0, 0)) := fun w' hw => hw.get0 g0
    have hd2 : ∀ w', Kp No w8 w' → w'.heap[b1]? = some (.cells [X.ux.v, X.us.v, X.uf.v].toArray tTree (0, 0)) := fun w' hw => hw.get0 g2
    have hf1 : ∀ w', Kp No w8 w' → ∀ (j : Nat) (u : Value), (fnC (f0, .slice pa f0.ps.length pc, fmv))[j]? = some u → w'.cell? ⟨fg, 0 + (0 : Int).toNat * 6 + j, none⟩ = some u := fun w' hw j u hj => (X5.no hw).cell0 (hfc j u hj)
    refine h_v k6 (fun w' hw => r_ldw rfl (hd1 w' hw) rfl rfl) ?_
    (repeat (first | refine Zhq ?_ | refine Zhgn ?_ | refine Zhgu ?_ | refine Zhgv ?_))
    refine h_v k6 (fun w' hw => r_ia (size := 6) rfl rfl hfs rfl (by omega) (by omega)) ?_
    (repeat (first | refine Zhq ?_ | refine Zhgn ?_ | refine Zhgu ?_ | refine Zhgv ?_))
    by_cases hps : f0.ps = []
    · refine h_re 110 (v' := .bool true) rfl (congrArg Value.bool (by rw [hps]; rfl)) ?_
      (repeat (first | refine Zhq ?_ | refine Zhgn ?_ | refine Zhgu ?_ | refine Zhgv ?_))
      refine h_gv rfl k6 (fun w' hw => r_ia (size := 6) rfl rfl hfs rfl (by omega) (by omega)) ?_
      (repeat (first | refine Zhq ?_ | refine Zhgn ?_ | refine Zhgu ?_ | refine Zhgv ?_))
      refine h_v k6 (fun w' hw => r_ia (size := 6) rfl rfl hfs rfl (by omega) (by omega)) ?_
      (repeat (first | refine Zhq ?_ | refine Zhgn ?_ | refine Zhgu ?_ | refine Zhgv ?_))
      refine h_call (us := []) (zs := []) (by kernel_rfl) rfl rfl (needK (G.no k6).at_ _ _ _ (by decide)) ?_
      rintro _ w7 ⟨q2, rfl, k7, g, en, ok2⟩
      have G := (G.no k6).call g
      obtain ⟨c3, p3, e2⟩ := en.eq
      have e2 : q2 = qI X.S.fn.length c3 p3 := e2
      subst e2
      have h0 := G.blk 0 rfl; try have h1 := G.blk 1 rfl; try have h2 := G.blk 2 rfl; try have h3 := G.blk 3 rfl; try have h4 := G.blk 4 rfl; try have h5 := G.blk 5 rfl
      refine ⟨fun _ => k6.no k7, ?_⟩
      refine h_st (vs := kc X (qI X.S.fn.length c3 p3)) rfl rfl rfl rfl rfl h0 (Nat.le_of_ble_eq_true rfl) (fun w9 s => ⟨fun h => (h rfl).elim, ?_⟩)
      have s : Sb w7 b5 (kc X (qI X.S.fn.length c3 p3)) tC w9 := s
      have G := G.put 0 rfl s rfl
      refine h_nil ?_
      have ok2 : (f0.ty == 4) = true → c3 = c2 := ok2
      exact l_cut (c3, p3) ⟨rfl, rfl, rfl, trivial⟩ ⟨fun hk => (ok2 (by
        obtain ⟨f, k', n, e1, e2, e3, e4, e5⟩ := hk
        have e : f0 = f := by rw [e1] at hf0; simpa using hf0.symm
        exact beq_iff_eq.2 (by rw [e]; exact e4))).trans (hc2 hk), G⟩
    · refine h_re 110 (v' := .bool false) rfl (congrArg Value.bool (by
        have : f0.ps.length ≠ 0 := fun e => hps (List.eq_nil_of_length_eq_zero e)
        exact beq_eq_false_iff_ne.2 (by omega))) ?_
      (repeat (first | refine Zhq ?_ | refine Zhgn ?_ | refine Zhgu ?_ | refine Zhgv ?_))
      refine h_v k6 (fun w' hw => r_ia (size := 6) rfl rfl hfs rfl (by omega) (by omega)) ?_
      (repeat (first | refine Zhq ?_ | refine Zhgn ?_ | refine Zhgu ?_ | refine Zhgv ?_))
      refine h_call (us := []) (zs := []) (by kernel_rfl) rfl rfl (needK (G.no k6).at_ _ _ _ (by decide)) ?_
      rintro _ w7 ⟨q2, rfl, k7, g, en, ok2⟩
      have G := (G.no k6).call g
      obtain ⟨c3, p3, e2⟩ := en.eq
      have e2 : q2 = qI X.S.fn.length c3 p3 := e2
      subst e2
      have h0 := G.blk 0 rfl; try have h1 := G.blk 1 rfl; try have h2 := G.blk 2 rfl; try have h3 := G.blk 3 rfl; try have h4 := G.blk 4 rfl; try have h5 := G.blk 5 rfl
      refine ⟨fun _ => k6.no k7, ?_⟩
      refine h_st (vs := kc X (qI X.S.fn.length c3 p3)) rfl rfl rfl rfl rfl h0 (Nat.le_of_ble_eq_true rfl) (fun w9 s => ⟨fun h => (h rfl).elim, ?_⟩)
      have s : Sb w7 b5 (kc X (qI X.S.fn.length c3 p3)) tC w9 := s
      have G := G.put 0 rfl s rfl
      refine h_nil ?_
      exact l_cut (c3, p3) ⟨rfl, rfl, rfl, trivial⟩ ⟨fun hk => (by
        obtain ⟨f, k', n, e1, e2, e3, e4, e5⟩ := hk
        have e : f0 = f := by rw [e1] at hf0; simpa using hf0.symm
        rw [e] at hps
        exact (hps e3).elim), G⟩
  clear G h0 h1 h2 hc2
  rintro ⟨c3, p3⟩ l w9 ⟨hc3, G⟩
  simp only at hc3 G
  try dsimp only
  have h0 := G.blk 0 rfl; try have h1 := G.blk 1 rfl; try have h2 := G.blk 2 rfl; try have h3 := G.blk 3 rfl; try have h4 := G.blk 4 rfl; try have h5 := G.blk 5 rfl
  (repeat refine Zlr ?_)
  refine k_loop (σ := Kq × Nat) (fun t => [(1, .pointer (some ⟨b1, 0, none⟩)), (2, .pointer (some ⟨b2, 0, none⟩)), (5, .pointer (some ⟨b5, 0, none⟩)), (127, .int .i64 (X.uf.n : Int)), (128, .int .i64 (t.2 : Int))])
    (fun t w' => t.2 ≤ X.S.fn.length ∧ t.1.k.lo = 0 ∧ (t.1.c = 0 → ∀ f ∈ X.S.fn.take t.2, ∀ j ∈ f.bd, Jk X.S False j) ∧ (kchk0 X.S → t.1.c = 0 ∧ (t.2 = 0 → t.1.k = ⟨[], 0, 0, [[]]⟩)) ∧ Wk X X.w (qI X.S.fn.length c p) w' t.1 [(b5, kc X t.1, tC), (b2, ic, tInfo), (b1, [X.ux.v, X.us.v, X.uf.v], tTree)])
    (fun t => X.S.fn.length - t.2) (qI X.S.fn.length c3 p3, 0) ⟨rfl, rfl, rfl, rfl, rfl, trivial⟩ ⟨Nat.zero_le _, rfl, fun _ f hf => (by simp at hf), fun hk => ⟨hc3 hk, fun _ => by
      obtain ⟨f, k', n, e1, _⟩ := hk
      show (⟨[], 0, 0, List.replicate X.S.fn.length []⟩ : KS) = _
      rw [e1]; rfl⟩, G⟩ ?_
  clear G h0 h1 h2 hc3
  rintro ⟨q, i⟩ l w5 ⟨hi, hlo, hjk, hx0, G⟩
  simp only at hi hlo hjk hx0 G
  try dsimp only
  have h0 := G.blk 0 rfl; try have h1 := G.blk 1 rfl; try have h2 := G.blk 2 rfl; try have h3 := G.blk 3 rfl; try have h4 := G.blk 4 rfl; try have h5 := G.blk 5 rfl
  (repeat refine Zlr ?_)
  refine c_dec rfl (fun hlt => ?_) (fun hge => ?_)
  · have hlt : i < X.S.fn.length := by omega
    obtain ⟨fy, hfy⟩ : ∃ fy, X.S.fn[i]? = some fy := ⟨_, List.getElem?_eq_getElem hlt⟩
    obtain ⟨fg2, flv2, fmv2, hfa2, hlp2, hlb2, hfc2⟩ := Tr.fn (a := X.uf.a) (n := X.uf.n) (c := X.uf.c) hT hfy
    have efg : fg2 = fg := by rw [hfa] at hfa2; cases hfa2; rfl
    subst efg
    obtain ⟨pa2, pc2, e2, hps⟩ := ls_at hlp2
    subst e2
    obtain ⟨ba2, bc2, e2, hbd⟩ := li_at hlb2
    subst e2
    obtain ⟨fn1, fn2, fn3⟩ := hP.fn i fy hfy
    have hf1 : ∀ w', Kp No X.w w' → ∀ (j : Nat) (u : Value), (fnC (fy, .slice pa2 fy.ps.length pc2, .slice ba2 fy.bd.length bc2))[j]? = some u → w'.cell? ⟨fg2, 0 + (i : Int).toNat * 6 + j, none⟩ = some u := fun w' hw j u hj => hw.cell0 (hfc2 j u hj)
    (repeat refine Zlr ?_)
    refine s_st (vs := [.int .i64 (i : Int)]) rfl rfl rfl rfl rfl h0 (Nat.le_of_ble_eq_true rfl) (fun w6 s => ?_)
    have s : Sb w5 b5 (kc X { q with f := i }) tC w6 := s
    have A1 : Ak X w5 { q with nm := nS, f := i, k := { q.k with nm := [], bl := 0 } } := ⟨G.at_.k0, G.at_.tr, G.at_.pg, G.at_.ty, G.at_.sl, G.at_.pu, G.at_.fu, G.at_.so, G.at_.vl, G.at_.kl, G.at_.inn, G.at_.dj, G.at_.di, World.ownsRow_nil _ _ _ _, fun e he => (by cases he), Nat.zero_le _, hlt, G.at_.sb⟩
    obtain ⟨q1, hq1⟩ : ∃ q1 : Kq, { q with nm := nS, f := i, k := { q.k with nm := [], bl := 0 } } = q1 := ⟨_, rfl⟩
    have G := G.mv (q' := q1) ⟨by rw [← hq1]; exact A1, Kp.refl _ _, fun _ _ h => by rw [← hq1] at h; exact h⟩
    have G := G.put 0 rfl s rfl
    have h0 : w6.heap[b5]? = some (.cells (kc X { q with f := i }).toArray tC (0, 0)) := G.blk 0 rfl
    (repeat refine Zlr ?_)
    refine s_st (vs := [.slice none 0 0]) rfl rfl rfl rfl rfl h0 (Nat.le_of_ble_eq_true rfl) (fun w7 s => ?_)
    have s : Sb w6 b5 (kc X { q with nm := nS, f := i }) tC w7 := s
    have G := G.put 0 rfl s rfl
    have h0 : w7.heap[b5]? = some (.cells (kc X { q with nm := nS, f := i }).toArray tC (0, 0)) := G.blk 0 rfl
    (repeat refine Zlr ?_)
    refine s_st (vs := [.int .i64 0]) rfl rfl rfl rfl rfl h0 (Nat.le_of_ble_eq_true rfl) (fun w8 s => ?_)
    have s : Sb w7 b5 (kc X q1) tC w8 := by rw [← hq1]; exact s
    have G := G.put 0 rfl s rfl
    have G : Wk X X.w (qI X.S.fn.length c p) w8 q1 [(b5, kc X q1, tC), (b2, ic, tInfo), (b1, [X.ux.v, X.us.v, X.uf.v], tTree)] := G
    clear s h0 h1 h2
    have qf : q1.f = i := by rw [← hq1]
    have qb : q1.k.bl = 0 := by rw [← hq1]
    have ql : q1.k.lo = 0 := by rw [← hq1]; exact hlo
    have qc : q1.c = q.c := by rw [← hq1]
    have qk : q1.k = { q.k with nm := [], bl := 0 } := by rw [← hq1]
    have h0 := G.blk 0 rfl; try have h1 := G.blk 1 rfl; try have h2 := G.blk 2 rfl; try have h3 := G.blk 3 rfl; try have h4 := G.blk 4 rfl; try have h5 := G.blk 5 rfl
    (repeat refine Zlr ?_)
    refine s_v (r_ia (size := 6) rfl rfl hfs rfl (by omega) (by omega)) ?_
    (repeat refine Zlr ?_)
    refine s_v (r_ld rfl rfl (hf1 _ G.at_.k0 3 _ rfl)) ?_
    (repeat refine Zlr ?_)
    have hpl : fy.ps.length ≤ 9223372036854775807 := by have := own_mx hlp2; unfold maxLen at this; omega
    have hbl : fy.bd.length ≤ 9223372036854775807 := by have := own_mx hlb2; unfold maxLen at this; omega
    refine k_loop (σ := Kq × Nat) (fun t => [(1, .pointer (some ⟨b1, 0, none⟩)), (2, .pointer (some ⟨b2, 0, none⟩)), (5, .pointer (some ⟨b5, 0, none⟩)), (8, .int .i64 (i : Int)), (127, .int .i64 (X.uf.n : Int)), (128, .int .i64 (i : Int)), (141, .int .i64 (fy.ps.length : Int)), (142, .int .i64 (t.2 : Int))])
      (fun t w' => t.2 ≤ fy.ps.length ∧ (t.1.f = i ∧ t.1.k.lo = 0 ∧ t.1.k.bl = 0) ∧ (q1.c ≠ 0 → t.1.c ≠ 0) ∧ (t.2 = 0 → t.1 = q1) ∧ Wk X X.w (qI X.S.fn.length c p) w' t.1 [(b5, kc X t.1, tC), (b2, ic, tInfo), (b1, [X.ux.v, X.us.v, X.uf.v], tTree)])
      (fun t => fy.ps.length - t.2) (q1, 0) ⟨rfl, rfl, rfl, rfl, rfl, rfl, rfl, rfl, trivial⟩ ⟨Nat.zero_le _, ⟨qf, ql, qb⟩, fun h => h, fun _ => rfl, G⟩ ?_
    clear G h0 h1 h2
    rintro ⟨q2, m⟩ l w9 ⟨hm, ⟨f2, l2, bl2⟩, c2n, m0, G⟩
    simp only at hm f2 l2 bl2 c2n m0 G
    try dsimp only
    have h0 := G.blk 0 rfl; try have h1 := G.blk 1 rfl; try have h2 := G.blk 2 rfl; try have h3 := G.blk 3 rfl; try have h4 := G.blk 4 rfl; try have h5 := G.blk 5 rfl
    (repeat refine Zlr ?_)
    refine c_dec rfl (fun hlm => ?_) (fun hgm => ?_)
    · have hlm : m < fy.ps.length := by omega
      (repeat refine Zlr ?_)
      refine c_b rfl (fun hc => ?_) (fun hc => ?_)
      · obtain ⟨pm, hpm⟩ : ∃ pm, fy.ps[m]? = some pm := ⟨_, List.getElem?_eq_getElem hlm⟩
        obtain ⟨pg, hpa, hpc⟩ := hps m pm hpm
        have hpv : Value.slice pa2 fy.ps.length pc2 = .slice (some ⟨pg, 0, none⟩) fy.ps.length pc2 := by rw [hpa]
        (repeat refine Zlr ?_)
        refine k_ht (fun w' => Kp No X.w w' ∧ w'.heap[b1]? = some (.cells [X.ux.v, X.us.v, X.uf.v].toArray tTree (0, 0))) 99 (by kernel_rfl) (fun w6 k6 _ => ?_)
        have G := G.no k6
        have h0 := G.blk 0 rfl; try have h1 := G.blk 1 rfl; try have h2 := G.blk 2 rfl; try have h3 := G.blk 3 rfl; try have h4 := G.blk 4 rfl; try have h5 := G.blk 5 rfl
        have hS := And.intro G.at_.k0 h2
        refine t_q (i := 1) (by exact waits_of_out (by kernel_rfl)) (by kernel_rfl) rfl (by kernel_rfl) (by kernel_rfl) hS (fun w' hw => r_fa rfl rfl) ?_
        refine t_q (i := 2) (by exact waits_of_out (by kernel_rfl)) (by kernel_rfl) rfl (by kernel_rfl) (by kernel_rfl) hS (fun w' hw => r_ld rfl rfl (cell_of_blk hw.2 rfl)) ?_
        refine t_q (i := 3) (by exact waits_of_out (by kernel_rfl)) (by kernel_rfl) rfl (by kernel_rfl) (by kernel_rfl) hS (fun w' hw => r_mv rfl) ?_
        refine t_q (i := 4) (by exact waits_of_out (by kernel_rfl)) (by kernel_rfl) rfl (by kernel_rfl) (by kernel_rfl) hS (fun w' hw => r_ia (size := 6) rfl rfl hfs rfl (by omega) (by omega)) ?_
        refine t_q (i := 5) (by exact waits_of_out (by kernel_rfl)) (by kernel_rfl) rfl (by kernel_rfl) (by kernel_rfl) hS (fun w' hw => r_fa rfl rfl) ?_
        refine t_q (i := 6) (by exact waits_of_out (by kernel_rfl)) (by kernel_rfl) rfl (by kernel_rfl) (by kernel_rfl) hS (fun w' hw => r_ld rfl rfl (hf1 w' hw.1 3 _ rfl)) ?_
        refine t_q (i := 7) (by exact waits_of_out (by kernel_rfl)) (by kernel_rfl) rfl (by kernel_rfl) (by kernel_rfl) hS (fun w' hw => r_mv rfl) ?_
        refine t_q (i := 8) (by exact waits_of_out (by kernel_rfl)) (by kernel_rfl) rfl (by kernel_rfl) (by kernel_rfl) hS (fun w' hw => r_ia (size := 1) rfl rfl hpv rfl (by omega) (by omega)) ?_
        refine t_q (i := 9) (by exact waits_of_out (by kernel_rfl)) (by kernel_rfl) rfl (by kernel_rfl) (by kernel_rfl) hS (fun w' hw => r_ld rfl rfl (hpc w' hw.1)) ?_
        refine t_q (i := 10) (by exact waits_of_out (by kernel_rfl)) (by kernel_rfl) rfl (by kernel_rfl) (by kernel_rfl) hS (fun w' hw => r_fa rfl rfl) ?_
        refine t_q (i := 11) (by exact waits_of_out (by kernel_rfl)) (by kernel_rfl) rfl (by kernel_rfl) (by kernel_rfl) hS (fun w' hw => r_ld rfl rfl (cell_of_blk hw.2 rfl)) ?_
        refine t_q (i := 12) (by exact waits_of_out (by kernel_rfl)) (by kernel_rfl) rfl (by kernel_rfl) (by kernel_rfl) hS (fun w' hw => r_mv rfl) ?_
        refine t_q (i := 13) (by exact waits_of_out (by kernel_rfl)) (by kernel_rfl) rfl (by kernel_rfl) (by kernel_rfl) hS (fun w' hw => r_ia (size := 6) rfl rfl hfs rfl (by omega) (by omega)) ?_
        refine t_q (i := 14) (by exact waits_of_out (by kernel_rfl)) (by kernel_rfl) rfl (by kernel_rfl) (by kernel_rfl) hS (fun w' hw => r_fa rfl rfl) ?_
        refine t_q (i := 15) (by exact waits_of_out (by kernel_rfl)) (by kernel_rfl) rfl (by kernel_rfl) (by kernel_rfl) hS (fun w' hw => r_fa rfl rfl) ?_
        refine t_q (i := 16) (by exact waits_of_out (by kernel_rfl)) (by kernel_rfl) rfl (by kernel_rfl) (by kernel_rfl) hS (fun w' hw => r_ld rfl rfl (hf1 w' hw.1 1 _ rfl)) ?_
        refine t_1 (i := 0) (by kernel_rfl) ?_
        refine ts_o (ord := [(17, true), (18, false), (19, false), (20, false), (21, true)]) (by exact waits_of_out (by kernel_rfl)) (by kernel_rfl) rfl (by kernel_rfl) rfl rfl ?_
        refine h_w (r_ldw rfl h0 rfl rfl) (fun _ => hS) ?_
        refine h_call (us := []) (zs := []) (by kernel_rfl) rfl rfl (declareF G.at_ pm 1 _ (fn2 pm (List.mem_of_getElem? hpm))) ?_
        rintro _ w7 ⟨q4, n4, rfl, g, hd1', _, hd3', ⟨hd4', hd5'⟩, _⟩
        have G := G.call g
        have h0 := G.blk 0 rfl; try have h1 := G.blk 1 rfl; try have h2 := G.blk 2 rfl; try have h3 := G.blk 3 rfl; try have h4 := G.blk 4 rfl; try have h5 := G.blk 5 rfl
        have hS := And.intro G.at_.k0 h2
        refine ⟨fun _ => hS, ?_⟩
        (repeat (first | refine Zhq ?_ | refine Zhgn ?_ | refine Zhgu ?_ | refine Zhgv ?_))
        refine h_st (vs := kc X q4) rfl rfl rfl rfl rfl h0 (Nat.le_of_ble_eq_true rfl) (fun w8 s => ?_)
        have s : Sb w7 b5 (kc X q4) tC w8 := s
        have G := G.put 0 rfl s rfl
        have h0 := G.blk 0 rfl; try have h1 := G.blk 1 rfl; try have h2 := G.blk 2 rfl; try have h3 := G.blk 3 rfl; try have h4 := G.blk 4 rfl; try have h5 := G.blk 5 rfl
        refine ⟨fun _ => ⟨G.at_.k0, h2⟩, ?_⟩
        refine h_nil ?_
        (repeat refine Zlr ?_)
        exact l_next (q4, m + 1) ⟨rfl, rfl, rfl, rfl, rfl, rfl, rfl, rfl, trivial⟩ ⟨hlm, ⟨hd3'.trans f2, hd5'.trans l2, hd4'.trans bl2⟩, fun h => hd1' (c2n h), fun h => (by omega), G⟩ (by show fy.ps.length - (m + 1) < fy.ps.length - m; omega)
      · (repeat refine Zlr ?_)
        exact l_next (q2, m + 1) ⟨rfl, rfl, rfl, rfl, rfl, rfl, rfl, rfl, trivial⟩ ⟨hlm, ⟨f2, l2, bl2⟩, c2n, fun h => (by omega), G⟩ (by show fy.ps.length - (m + 1) < fy.ps.length - m; omega)
    have x2 : kchk0 X.S → q2 = q1 := fun hk => by
      obtain ⟨f, k', n, e1, e2, e3, _⟩ := hk
      have : fy.ps = [] := by
        have : fy ∈ [f] := by rw [← e1]; exact List.mem_of_getElem? hfy
        rw [List.mem_singleton.1 this]; exact e3
      exact m0 (by rw [this] at hm; simpa using hm)
    clear m0 hgm
    (repeat refine Zlr ?_)
    refine s_v (r_ia (size := 6) rfl rfl hfs rfl (by omega) (by omega)) ?_
    (repeat refine Zlr ?_)
    refine s_v (r_ld rfl rfl (hf1 _ G.at_.k0 5 _ rfl)) ?_
    (repeat refine Zlr ?_)
    refine k_loop (σ := Kq × Nat) (fun t => [(1, .pointer (some ⟨b1, 0, none⟩)), (2, .pointer (some ⟨b2, 0, none⟩)), (5, .pointer (some ⟨b5, 0, none⟩)), (8, .int .i64 (i : Int)), (127, .int .i64 (X.uf.n : Int)), (128, .int .i64 (i : Int)), (176, .int .i64 (fy.bd.length : Int)), (177, .int .i64 (t.2 : Int))])
      (fun t w' => t.2 ≤ fy.bd.length ∧ (t.1.f = i ∧ t.1.k.lo = 0 ∧ t.1.k.bl = 0) ∧ (q2.c ≠ 0 → t.1.c ≠ 0) ∧ (t.1.c = 0 → ∀ j ∈ fy.bd.take t.2, Jk X.S False j) ∧ (q2.c = 0 → ∀ n k', kbody (kst0 X.S i n) fy.bd q2.k = some k' → t.1.c = 0 ∧ kbody (kst0 X.S i n) (fy.bd.drop t.2) t.1.k = some k') ∧ Wk X X.w (qI X.S.fn.length c p) w' t.1 [(b5, kc X t.1, tC), (b2, ic, tInfo), (b1, [X.ux.v, X.us.v, X.uf.v], tTree)])
      (fun t => fy.bd.length - t.2) (q2, 0) ⟨rfl, rfl, rfl, rfl, rfl, rfl, rfl, rfl, trivial⟩ ⟨Nat.zero_le _, ⟨f2, l2, bl2⟩, fun h => h, fun _ j hj => (by simp at hj), fun h0 n k' hk => ⟨h0, by rw [List.drop_zero]; exact hk⟩, G⟩ ?_
    clear G h0 h1 h2
    rintro ⟨q3, m⟩ l w9 ⟨hm, ⟨f3, l3, bl3⟩, c3n, hj3, hx3, G⟩
    simp only at hm f3 l3 bl3 c3n hj3 hx3 G
    try dsimp only
    have h0 := G.blk 0 rfl; try have h1 := G.blk 1 rfl; try have h2 := G.blk 2 rfl; try have h3 := G.blk 3 rfl; try have h4 := G.blk 4 rfl; try have h5 := G.blk 5 rfl
    (repeat refine Zlr ?_)
    refine c_dec rfl (fun hlm => ?_) (fun hgm => ?_)
    · have hlm : m < fy.bd.length := by omega
      obtain ⟨bm, hbm⟩ : ∃ bm, fy.bd[m]? = some bm := ⟨_, List.getElem?_eq_getElem hlm⟩
      obtain ⟨bg, hba, hbc⟩ := hbd m bm hbm
      have hbv : Value.slice ba2 fy.bd.length bc2 = .slice (some ⟨bg, 0, none⟩) fy.bd.length bc2 := by rw [hba]
      obtain ⟨bm1, bm2⟩ := fn3 bm (List.mem_of_getElem? hbm)
      have ebm : bm = (bm.toNat : Int) := by omega
      (repeat refine Zlr ?_)
      refine k_h (fun w' => Kp No X.w w' ∧ w'.heap[b5]? = some (.cells (kc X q3).toArray tC (0, 0)) ∧ w'.heap[b1]? = some (.cells [X.ux.v, X.us.v, X.uf.v].toArray tTree (0, 0))) [(0, false), (1, false), (2, false), (3, false), (4, false), (5, false), (6, false), (7, false), (8, false), (9, false), (10, true), (11, true)] 11 (by kernel_rfl) (waits_of_last (by kernel_rfl)) (by kernel_rfl) (by kernel_rfl) (by kernel_rfl) rfl (fun w6 k6 _ => ?_)
      have G := G.no k6
      have h0 := G.blk 0 rfl; try have h1 := G.blk 1 rfl; try have h2 := G.blk 2 rfl; try have h3 := G.blk 3 rfl; try have h4 := G.blk 4 rfl; try have h5 := G.blk 5 rfl
      have hS := And.intro G.at_.k0 (And.intro h0 h2)
      refine h_v hS (fun w' hw => r_ldw rfl hw.2.1 rfl rfl) ?_
      refine h_v hS (fun w' hw => r_fa rfl rfl) ?_
      refine h_v hS (fun w' hw => r_ld rfl rfl (cell_of_blk hw.2.2 rfl)) ?_
      refine h_v hS (fun w' hw => r_mv rfl) ?_
      refine h_v hS (fun w' hw => r_ia (size := 6) rfl rfl hfs rfl (by omega) (by omega)) ?_
      refine h_v hS (fun w' hw => r_fa rfl rfl) ?_
      refine h_v hS (fun w' hw => r_ld rfl rfl (hf1 w' hw.1 5 _ rfl)) ?_
      refine h_v hS (fun w' hw => r_mv rfl) ?_
      refine h_v hS (fun w' hw => r_ia (size := 1) rfl rfl hbv rfl (by omega) (by omega)) ?_
      refine h_v hS (fun w' hw => r_ld rfl rfl (hbc w' hw.1)) ?_
      have hst := stmtF bm.toNat G.at_ (by omega) ⟨by omega, by omega, by omega, by omega⟩
      rw [← ebm] at hst
      refine h_call (us := []) (zs := []) (by kernel_rfl) rfl rfl hst ?_
      rintro _ w7 ⟨q4, rfl, g, gr4, hjk4, hx4⟩
      have G := G.call g
      have h0 := G.blk 0 rfl; try have h1 := G.blk 1 rfl; try have h2 := G.blk 2 rfl; try have h3 := G.blk 3 rfl; try have h4 := G.blk 4 rfl; try have h5 := G.blk 5 rfl
      refine ⟨fun _ => ⟨G.at_.k0, h0, h2⟩, ?_⟩
      refine h_st (vs := kc X q4) rfl rfl rfl rfl rfl h0 (Nat.le_of_ble_eq_true rfl) (fun w8 s => ⟨fun h => (h rfl).elim, ?_⟩)
      have s : Sb w7 b5 (kc X q4) tC w8 := s
      have G := G.put 0 rfl s rfl
      refine h_nil ?_
      (repeat refine Zlr ?_)
      refine l_next (q4, m + 1) ⟨rfl, rfl, rfl, rfl, rfl, rfl, rfl, rfl, trivial⟩ ⟨hlm, ⟨gr4.f.trans f3, gr4.lo.trans l3, gr4.bl.trans bl3⟩, fun h => gr4.er (c3n h), fun hc j hj => ?_, fun h0 n k' hk => ?_, G⟩ (by show fy.bd.length - (m + 1) < fy.bd.length - m; omega)
      · simp only at hj
        rw [List.take_add_one, hbm] at hj
        rcases List.mem_append.1 hj with hj | hj
        · exact hj3 (gr4.c0 hc) j hj
        · have e : j = bm := by simpa using hj
          subst e
          exact (hjk4 hc).mono fun h => by rw [l3] at h; omega
      · obtain ⟨y1, y2⟩ := hx3 h0 n k' hk
        rw [List.drop_eq_getElem_cons hlm] at y2
        have ej : fy.bd[m] = bm := by rw [List.getElem?_eq_getElem hlm] at hbm; exact Option.some.inj hbm
        rw [ej] at y2
        obtain ⟨k1, y3, y4⟩ := Option.bind_eq_some_iff.1 y2
        obtain ⟨y5, y6⟩ := hx4 y1 n k1 (by rw [f3]; exact y3)
        exact ⟨y5, by rw [y6]; exact y4⟩
    have em : m = fy.bd.length := by omega
    subst em
    rw [List.take_length] at hj3
    (repeat refine Zlr ?_)
    refine l_next (q3, i + 1) ⟨rfl, rfl, rfl, rfl, rfl, trivial⟩ ⟨hlt, l3, fun hc f hf => ?_, fun hk => ⟨?_, fun h => (by omega)⟩, G⟩ (by show X.S.fn.length - (i + 1) < X.S.fn.length - i; omega)
    · simp only at hf
      rw [List.take_add_one, hfy] at hf
      have hc1 : q1.c = 0 := Decidable.byContradiction fun h => c3n (c2n h) hc
      rcases List.mem_append.1 hf with hf | hf
      · exact hjk (qc ▸ hc1) f hf
      · have e : f = fy := by simpa using hf
        rw [e]
        exact hj3 hc
    · have hk' := hk
      obtain ⟨f, k', n, e1, e2, e3, e4, e5⟩ := hk
      have e : fy = f := by
        have : fy ∈ [f] := by rw [← e1]; exact List.mem_of_getElem? hfy
        exact List.mem_singleton.1 this
      have hi0 : i = 0 := by rw [e1] at hlt; simpa using hlt
      obtain ⟨z1, z2⟩ := hx0 hk'
      have z3 := z2 hi0
      refine (hx3 ?_ n k' ?_).1
      · rw [x2 hk', qc]; exact z1
      · rw [x2 hk', qk, z3, hi0, e]; exact e5
  have hi : i = X.S.fn.length := by omega
  subst hi
  rw [List.take_length] at hjk
  clear hge
  (repeat refine Zlr ?_)
  refine c_b rfl (fun hc => ?_) (fun hc => ?_)
  · have n52 : b5 ≠ b2 := fun e => by
      have := G.nd 0 1 b5 _ _ _ _ rfl (by rw [e]; rfl)
      omega
    (repeat refine Zlr ?_)
    refine k_h (fun w' => Kp (fun i => i = b2) w5 w') [(0, false), (1, false), (2, false), (3, false), (4, false), (5, true), (6, false), (7, false)] 8 (by kernel_rfl) (waits_none) (by kernel_rfl) (by kernel_rfl) (by kernel_rfl) rfl (fun w4 k4 q4' => ?_)
    have k4' : Kp (fun i => i = b2) w5 w4 := k4.mono fun _ _ h => h.elim
    have g0 := h0
    have hd := fun (w' : World) (hw : Kp (fun i => i = b2) w5 w') => hw.get g0 n52
    have G := G.no k4
    refine h_v k4' (fun w' hw => r_bd rfl) ?_
    refine h_v k4' (fun w' hw => r_fa rfl rfl) ?_
    refine h_v k4' (fun w' hw => r_ld rfl rfl (cell_of_blk (hd w' hw) rfl)) ?_
    refine h_v k4' (fun w' hw => r_fa rfl rfl) ?_
    refine h_v k4' (fun w' hw => r_ld rfl rfl (cell_of_blk (hd w' hw) rfl)) ?_
    have g1 := G.blk 1 rfl
    refine h_st (vs := [.slice none 0 0, .slice none 0 0, .slice none 0 0, .slice none 0 0, .slice none 0 0]) rfl rfl rfl rfl rfl g1 (by rw [hic]; exact Nat.le_refl _) (fun w7 s7 => ⟨fun _ => k4'.trans s7.kp fun _ _ h => h, ?_⟩)
    rw [setAt_all (by rw [hic]; rfl)] at s7
    have G := G.put 1 rfl s7 rfl
    have k7 : Kp (fun i => i = b2) _ w7 := k4'.trans s7.kp fun _ _ h => h
    refine h_v k7 (fun w' hw => r_as rfl) ?_
    refine h_v k7 (fun w' hw => r_as rfl) ?_
    refine h_nil ?_
    have g1 := G.blk 1 rfl
    (repeat refine Zlr ?_)
    have hc : q.c ≠ 0 := by simpa using hc
    exact ret_c3 rfl (rv_agw rfl g1 rfl rfl) (rv_t rfl) (rv_t rfl) ⟨nS, nS, nS, nS, nS, _, _, rfl, G.at_.k0, fun h => (hc h).elim, fun hk => (hx0 hk).1⟩
  · have hc : q.c = 0 := by simpa using hc
    (repeat refine Zlr ?_)
    refine s_v (r_ldb (vs := [X.ty.v, X.sl.v, X.pu.v, X.fu.v, X.so.v]) rfl rfl rfl h0 rfl rfl) ?_
    refine s_stw (vs := [X.ty.v, X.sl.v, X.pu.v, X.fu.v, X.so.v]) rfl rfl rfl rfl rfl h1 hic (fun w s' => ?_)
    have G := G.put 1 rfl s' rfl
    have g1 := G.blk 1 rfl
    (repeat refine Zlr ?_)
    exact ret_c3 rfl (rv_agw rfl g1 rfl rfl) (rv_t rfl) (rv_t rfl) ⟨X.ty, X.sl, X.pu, X.fu, X.so, _, _, rfl, G.at_.k0, fun _ => hjk hc, fun hk => rfl⟩
end
end Go.Proofs.Ytkllhfajldnpoaa.Ck
namespace Go.Proofs.Ytkllhfajldnpoaa.Fn
set_option linter.unusedVariables false
/-- A graph: statements below N, their ways on, an order. -/
structure Gr where
  N : Int
  S : Int → List Int
  o : Int → Int
  P : Int → Int
def Gr.nd (G : Gr) (x : Int) : Prop := 0 ≤ x ∧ x < G.N
structure Gr.Ok (G : Gr) : Prop where
  n0 : 0 ≤ G.N
  to : ∀ x, G.nd x → ∀ s ∈ G.S x, s = -1 ∨ G.nd s
  inj : ∀ x y, G.nd x → G.nd y → G.o x = G.o y → x = y
  o0 : ∀ x, G.nd x → 0 ≤ G.o x ∧ G.o x < G.N
  par : ∀ x, G.nd x → G.P x ∈ G.S x ∧ (G.P x = -1 ∨ (G.nd (G.P x) ∧ G.o (G.P x) < G.o x))
/-- Some way leads from a statement to the exit, around another one. -/
inductive Go (G : Gr) (a : Int) : Int → Prop
  | out {x} : -1 ∈ G.S x → Go G a x
  | on {x s} : s ∈ G.S x → s ≠ -1 → s ≠ a → Go G a s → Go G a x
/-- Fences. -/
def Fe (G : Gr) (a x : Int) : Prop := a = -1 ∨ a = x ∨ (x ≠ -1 ∧ ¬ Go G a x)
/-- Fences so far, from one up. -/
inductive An (G : Gr) (f : Int → Int) : Int → Int → Prop
  | rf (x) : An G f x x
  | up {x a} : G.nd x → An G f (f x) a → An G f x a
/-- The exit, or known. -/
def K (G : Gr) (f : Int → Int) (x : Int) : Prop := x = -1 ∨ (G.nd x ∧ f x ≠ -2)
section
variable {G : Gr} {f : Int → Int}
theorem Fe.exit {d : Int} (h : Fe G d (-1)) : d = -1 := by
  rcases h with h | h | h
  · exact h
  · exact h
  · exact (h.1 rfl).elim
theorem Fe.succ {d x s : Int} (h : Fe G d x) (hd : d ≠ x) (hs : s ∈ G.S x) : Fe G d s := by
  rcases h with h | h | ⟨hx, h⟩
  · exact .inl h
  · exact (hd h).elim
  · by_cases h1 : s = -1
    · subst h1; exact (h (.out hs)).elim
    · by_cases h2 : d = s
      · exact .inr (.inl h2)
      · exact .inr (.inr ⟨h1, fun hg => h (.on hs h1 (Ne.symm h2) hg)⟩)
theorem An.trans {x y z : Int} (h : An G f x y) (k : An G f y z) : An G f x z := by
  induction h with
  | rf => exact k
  | up hn _ ih => exact .up hn (ih k)
theorem An.exit {c : Int} (h : An G f (-1) c) : c = -1 := by
  cases h with
  | rf => rfl
  | up hn _ => exact absurd hn.1 (by omega)
theorem An.minus2 {c : Int} (h : An G f (-2) c) : c = -2 := by
  cases h with
  | rf => rfl
  | up hn _ => exact absurd hn.1 (by omega)
theorem An.lin {x y z : Int} (h : An G f x y) (k : An G f x z) : An G f y z ∨ An G f z y := by
  induction h with
  | rf => exact .inl k
  | up hn h1 ih =>
    cases k with
    | rf => exact .inr (.up hn h1)
    | up _ k1 => exact ih k1
/-- What is known leads to what is known, nearer to the exit. -/
def I1 (G : Gr) (f : Int → Int) : Prop := ∀ x, G.nd x → f x ≠ -2 → K G f (f x) ∧ (f x = -1 ∨ G.o (f x) < G.o x)
def I2 (G : Gr) (f : Int → Int) : Prop := ∀ x, G.nd x → f x ≠ -2 → ∀ d, Fe G d x → d ≠ x → Fe G d (f x)
theorem An.known (h1 : I1 G f) {x c : Int} (h : An G f x c) (hx : K G f x) : K G f c := by
  induction h with
  | rf => exact hx
  | @up x a hn _ ih =>
    rcases hx with rfl | hx
    · exact absurd hn.1 (by omega)
    · exact ih (h1 _ hx.1 hx.2).1
theorem An.ord (h1 : I1 G f) {x c : Int} (h : An G f x c) (hx : K G f x) (hc : c ≠ -1) : c = x ∨ (x ≠ -1 ∧ G.o c < G.o x) := by
  induction h with
  | rf => exact .inl rfl
  | @up x a hn h ih =>
    rcases hx with rfl | hx
    · exact absurd hn.1 (by omega)
    · have hk := h1 _ hx.1 hx.2
      have hx1 : x ≠ -1 := by have := hn.1; omega
      rcases hk.2 with e | e
      · rw [e] at h; exact (hc h.exit).elim
      · rcases ih hk.1 hc with e1 | ⟨_, e1⟩
        · subst e1; exact .inr ⟨hx1, e⟩
        · exact .inr ⟨hx1, by omega⟩
theorem Fe.an (h1 : I1 G f) (h2 : I2 G f) : ∀ (n : Nat) (x d : Int), K G f x → (x ≠ -1 → G.o x < n) → (x ≠ -1 → 0 ≤ G.o x) → (∀ y, G.nd y → 0 ≤ G.o y) → Fe G d x → An G f x d := by
  intro n
  induction n with
  | zero =>
    intro x d hx hn h0 hp hf
    by_cases e : x = -1
    · subst e; rw [hf.exit]; exact .rf _
    · have := hn e; have := h0 e; omega
  | succ n ih =>
    intro x d hx hn h0 hp hf
    rcases hx with rfl | ⟨hx, hk⟩
    · rw [hf.exit]; exact .rf _
    · by_cases e : d = x
      · subst e; exact .rf _
      · have hk1 := h1 x hx hk
        have hxe : x ≠ -1 := by have := hx.1; omega
        refine .up hx (ih _ _ hk1.1 (fun hne => ?_) (fun hne => ?_) hp (h2 x hx hk d hf e))
        · rcases hk1.2 with e1 | e1
          · exact (hne e1).elim
          · have := hn hxe; omega
        · rcases hk1.1 with e1 | e1
          · exact (hne e1).elim
          · exact hp _ e1.1
/-- The meeting of two. -/
def meet (o f : Int → Int) : Nat → Int → Int → Int
  | 0, a, _ => a
  | n + 1, a, b => if a = b then a else if a = -1 ∨ b = -1 then -1 else if o b < o a then meet o f n (f a) b else meet o f n a (f b)
def rk (G : Gr) (x : Int) : Nat := if x = -1 then 0 else (G.o x).toNat + 1
structure MeetS (G : Gr) (f : Int → Int) (a b m : Int) : Prop where
  k : K G f m
  l : An G f a m
  r : An G f b m
  g : ∀ c, An G f a c → An G f b c → An G f m c
  s : ∀ d, Fe G d a → Fe G d b → Fe G d m
theorem Fe.An (ok : G.Ok) (h1 : I1 G f) (h2 : I2 G f) {x d : Int} (hx : K G f x) (h : Fe G d x) : An G f x d :=
  Fe.an h1 h2 (rk G x) x d hx (fun e => by unfold rk; rw [if_neg e]; omega) (fun e => by
    rcases hx with e1 | e1
    · exact (e e1).elim
    · exact (ok.o0 x e1.1).1) (fun y hy => (ok.o0 y hy).1) h
theorem meetS (ok : G.Ok) (h1 : I1 G f) (h2 : I2 G f) : ∀ (n : Nat) (a b : Int), K G f a → K G f b → rk G a + rk G b < n → MeetS G f a b (meet G.o f n a b) := by
  intro n
  induction n with
  | zero => intro a b _ _ h; omega
  | succ n ih =>
    intro a b ha hb hn
    unfold meet
    split
    · rename_i e; subst e
      exact ⟨ha, .rf _, .rf _, fun c h _ => h, fun d h _ => h⟩
    · rename_i hab
      split
      · rename_i e
        have up : ∀ x, K G f x → An G f x (-1) := fun x hx => Fe.An ok h1 h2 hx (.inl rfl)
        refine ⟨.inl rfl, up a ha, up b hb, fun c hc hc' => ?_, fun d hd hd' => ?_⟩
        · rcases e with rfl | rfl
          · exact hc
          · exact hc'
        · rcases e with rfl | rfl
          · exact hd
          · exact hd'
      · rename_i e
        have ea : a ≠ -1 := fun h => e (.inl h)
        have eb : b ≠ -1 := fun h => e (.inr h)
        have ha' : G.nd a ∧ f a ≠ -2 := ha.resolve_left ea
        have hb' : G.nd b ∧ f b ≠ -2 := hb.resolve_left eb
        split
        · rename_i ho
          have hk := h1 a ha'.1 ha'.2
          have hr : rk G (f a) < rk G a := by
            unfold rk
            rw [if_neg ea]
            split
            · omega
            · rename_i e2
              have h3 := hk.2.resolve_left e2
              have h4 := (ok.o0 _ (hk.1.resolve_left e2).1).1
              omega
          have M := ih (f a) b hk.1 hb (by omega)
          have hne : ∀ c, An G f b c → c ≠ a := fun c hc e2 => by
            subst e2
            rcases hc.ord h1 hb ea with e3 | e3
            · exact hab e3
            · omega
          refine ⟨M.k, .up ha'.1 M.l, M.r, fun c hc hc' => M.g c ?_ hc', fun d hd hd' => M.s d (h2 a ha'.1 ha'.2 d hd ?_) hd'⟩
          · cases hc with
            | rf => exact (hne _ hc' rfl).elim
            | up _ h => exact h
          · exact hne d (Fe.An ok h1 h2 hb hd')
        · rename_i ho
          have hk := h1 b hb'.1 hb'.2
          have hr : rk G (f b) < rk G b := by
            unfold rk
            rw [if_neg eb]
            split
            · omega
            · rename_i e2
              have h3 := hk.2.resolve_left e2
              have h4 := (ok.o0 _ (hk.1.resolve_left e2).1).1
              omega
          have M := ih a (f b) ha hk.1 (by omega)
          have hne : ∀ c, An G f a c → c ≠ b := fun c hc e2 => by
            subst e2
            rcases hc.ord h1 ha eb with e3 | e3
            · exact hab e3.symm
            · omega
          refine ⟨M.k, M.l, .up hb'.1 M.r, fun c hc hc' => M.g c hc ?_, fun d hd hd' => M.s d hd (h2 b hb'.1 hb'.2 d hd' ?_)⟩
          · cases hc' with
            | rf => exact (hne _ hc rfl).elim
            | up _ h => exact h
          · exact hne d (Fe.An ok h1 h2 ha hd)
/-- What a statement's ways on meet at. -/
def now (o f : Int → Int) (m : Nat) : List Int → Int → Int
  | [], z => z
  | s :: l, z => if s ≠ -1 ∧ f s = -2 then now o f m l z else if z = -2 then now o f m l s else now o f m l (meet o f m z s)
/-- What was seen. -/
structure NowS (G : Gr) (f : Int → Int) (l : List Int) (z : Int) : Prop where
  no : z = -2 → ∀ s ∈ l, ¬ K G f s
  k : z ≠ -2 → K G f z
  a : z ≠ -2 → ∀ s ∈ l, K G f s → An G f s z
  g : z ≠ -2 → ∀ c, (∀ s ∈ l, K G f s → An G f s c) → An G f z c
  s : z ≠ -2 → ∀ d, (∀ s ∈ l, K G f s → Fe G d s) → Fe G d z
theorem K.ne {x : Int} (h : K G f x) : x ≠ -2 := by
  rcases h with rfl | h
  · omega
  · have := h.1.1; omega
theorem nowS (ok : G.Ok) (h1 : I1 G f) (h2 : I2 G f) (m : Nat) (hm : 2 * G.N.toNat + 2 < m) : ∀ (l p : List Int) (z : Int), (∀ s ∈ l, s = -1 ∨ G.nd s) → NowS G f p z → NowS G f (p ++ l) (now G.o f m l z) := by
  have rkb : ∀ x, K G f x → rk G x ≤ G.N.toNat + 1 := fun x hx => by
    unfold rk
    split
    · omega
    · rename_i e
      have := ok.o0 x (hx.resolve_left e).1
      omega
  intro l
  induction l with
  | nil => intro p z _ h; rw [List.append_nil]; exact h
  | cons s l ih =>
    intro p z hl h
    have hl' : ∀ s ∈ l, s = -1 ∨ G.nd s := fun x hx => hl x (List.mem_cons_of_mem _ hx)
    have hs := hl s List.mem_cons_self
    rw [show p ++ s :: l = (p ++ [s]) ++ l by simp]
    unfold now
    split
    · rename_i e
      have hnk : ¬ K G f s := fun hk => by
        rcases hk with e1 | e1
        · exact e.1 e1
        · exact e1.2 e.2
      refine ih _ _ hl' ⟨fun hz x hx => ?_, h.k, fun hz x hx hk => ?_, fun hz c hc => ?_, fun hz d hd => ?_⟩
      · rcases List.mem_append.1 hx with hx | hx
        · exact h.no hz x hx
        · rw [List.mem_singleton.1 hx]; exact hnk
      · rcases List.mem_append.1 hx with hx | hx
        · exact h.a hz x hx hk
        · rw [List.mem_singleton.1 hx] at hk; exact (hnk hk).elim
      · exact h.g hz c fun x hx => hc x (List.mem_append.2 (.inl hx))
      · exact h.s hz d fun x hx => hd x (List.mem_append.2 (.inl hx))
    · rename_i e
      have hk : K G f s := by
        rcases hs with e1 | e1
        · exact .inl e1
        · refine .inr ⟨e1, fun e2 => e ⟨?_, e2⟩⟩
          have := e1.1; omega
      split
      · rename_i ez
        refine ih _ _ hl' ⟨fun hz => (hk.ne hz).elim, fun _ => hk, fun _ x hx hkx => ?_, fun _ c hc => hc s (by simp) hk, fun _ d hd => hd s (by simp) hk⟩
        rcases List.mem_append.1 hx with hx | hx
        · exact (h.no ez x hx hkx).elim
        · rw [List.mem_singleton.1 hx]; exact .rf _
      · rename_i ez
        have M := meetS ok h1 h2 m z s (h.k ez) hk (by have := rkb z (h.k ez); have := rkb s hk; omega)
        refine ih _ _ hl' ⟨fun hz => (M.k.ne hz).elim, fun _ => M.k, fun _ x hx hkx => ?_, fun _ c hc => ?_, fun _ d hd => ?_⟩
        · rcases List.mem_append.1 hx with hx | hx
          · exact (h.a ez x hx hkx).trans M.l
          · rw [List.mem_singleton.1 hx]; exact M.r
        · exact M.g c (h.g ez c fun x hx => hc x (List.mem_append.2 (.inl hx))) (hc s (by simp) hk)
        · exact M.s d (h.s ez d fun x hx => hd x (List.mem_append.2 (.inl hx))) (hd s (by simp) hk)
theorem nowS0 (ok : G.Ok) (h1 : I1 G f) (h2 : I2 G f) (m : Nat) (hm : 2 * G.N.toNat + 2 < m) {x : Int} (hx : G.nd x) : NowS G f (G.S x) (now G.o f m (G.S x) (-2)) := by
  have := nowS ok h1 h2 m hm (G.S x) [] (-2) (ok.to x hx) ⟨fun _ s hs => (by cases hs), fun h => (h rfl).elim, fun h => (h rfl).elim, fun h => (h rfl).elim, fun h => (h rfl).elim⟩
  exact this
/-- One more is told. -/
def upd (f : Int → Int) (x z : Int) : Int → Int := fun y => if y = x then z else f y
theorem upd_x {x z : Int} : upd f x z x = z := if_pos rfl
theorem upd_ne {x z y : Int} (h : y ≠ x) : upd f x z y = f y := if_neg h
theorem an_off {x z y c : Int} (hy : ¬ An G f y x) (h : An G f y c) : An G (upd f x z) y c := by
  induction h with
  | rf => exact .rf _
  | @up y a hn h ih =>
    have : y ≠ x := fun e => hy (e ▸ .rf _)
    exact .up hn (by rw [upd_ne this]; exact ih fun h1 => hy (.up hn h1))
theorem an_off' {x z y c : Int} (hy : ¬ An G f y x) (h : An G (upd f x z) y c) : An G f y c := by
  generalize hg : upd f x z = g at h
  induction h with
  | rf => exact .rf _
  | @up y a hn h ih =>
    have e : y ≠ x := fun e => hy (e ▸ .rf _)
    have e2 : g y = f y := by rw [← hg]; exact upd_ne e
    refine .up hn ?_
    rw [e2] at ih
    exact ih fun h1 => hy (.up hn h1)
/-- Up to the one that is told anew nothing changes. -/
theorem an_to {x z y : Int} (h : An G f y x) : An G (upd f x z) y x := by
  induction h with
  | rf => exact .rf _
  | @up y a hn h ih =>
    by_cases e : y = a
    · subst e; exact .rf _
    · exact .up hn (by rw [upd_ne e]; exact ih)
theorem An.anti (h1 : I1 G f) {x c : Int} (h : An G f x c) (k : An G f c x) (hx : K G f x) : x = c := by
  by_cases e : c = -1
  · subst e; exact k.exit
  · rcases h.ord h1 hx e with h2 | ⟨h2, h3⟩
    · exact h2.symm
    · rcases k.ord h1 (h.known h1 hx) h2 with h4 | ⟨_, h4⟩
      · exact h4
      · omega
theorem an_mid (h1 : I1 G f) {x z y c : Int} (hy : K G f y) (h : An G f y c) (k : An G f c x) : An G (upd f x z) y c := by
  induction h with
  | rf => exact .rf _
  | @up y a hn h ih =>
    by_cases e : y = x
    · subst e
      rw [An.anti h1 (.up hn h) k hy]
      exact .rf _
    · rcases hy with e1 | hy
      · have := hn.1; omega
      · exact .up hn (by rw [upd_ne e]; exact ih (h1 y hn hy.2).1 k)
end
/-- Where a pass is. -/
structure Inv (G : Gr) (f : Int → Int) (k : Int) : Prop where
  i1 : I1 G f
  i2 : I2 G f
  i3 : ∀ x, G.nd x → G.o x < k → f x ≠ -2
  i4 : ∀ x, G.nd x → f x ≠ -2 → ∀ y, An G f (f x) y → ((y ≠ -1 ∧ k ≤ G.o y) ∨ G.o x < k) → An G f (G.P x) y
  i5 : ∀ x, G.nd x → f x ≠ -2 → ∀ c, (∀ s ∈ G.S x, K G f s → An G f s c) → An G f (f x) c
theorem inv_start {G : Gr} (ok : G.Ok) : Inv G (fun _ => -2) 0 :=
  ⟨fun _ _ h => (h rfl).elim, fun _ _ h => (h rfl).elim, fun x hx h => (by have := (ok.o0 x hx).1; omega), fun _ _ h => (h rfl).elim, fun _ _ h => (h rfl).elim⟩
theorem inv_step {G : Gr} (ok : G.Ok) {f : Int → Int} {k : Int} (hi : Inv G f k) {m : Nat} (hm : 2 * G.N.toNat + 2 < m) {x z : Int} (hx : G.nd x) (ho : G.o x = k) (hz : now G.o f m (G.S x) (-2) = z) :
    Inv G (upd f x z) (k + 1) ∧ K G f z ∧ (z ≠ f x → f x = -2 ∨ rk G z < rk G (f x)) ∧ (∀ s ∈ G.S x, K G f s → An G f s z) := by
  have M := nowS0 ok hi.i1 hi.i2 m hm hx
  rw [hz] at M
  have hp := ok.par x hx
  have hkp : K G f (G.P x) := by
    rcases hp.2 with e | e
    · exact .inl e
    · exact .inr ⟨e.1, hi.i3 _ e.1 (by omega)⟩
  have hz2 : z ≠ -2 := fun e => M.no e _ hp.1 hkp
  have hxe : x ≠ -1 := by have := hx.1; omega
  have kz := M.k hz2
  have pz := M.a hz2 _ hp.1 hkp
  -- the new one is nearer to the exit
  have zo : z = -1 ∨ G.o z < G.o x := by
    by_cases e : z = -1
    · exact .inl e
    · right
      rcases pz.ord hi.i1 hkp e with e1 | ⟨e1, e2⟩
      · rcases hp.2 with e3 | e3
        · exact (e (e1.trans e3)).elim
        · rw [e1]; exact e3.2
      · have := hp.2.resolve_left e1
        omega
  have low : ∀ y, K G f y → (y = -1 ∨ G.o y < G.o x) → ¬ An G f y x := fun y hy hyo h => by
    rcases h.ord hi.i1 hy hxe with e | ⟨e1, e2⟩
    · subst e
      rcases hyo with e | e
      · exact hxe e
      · omega
    · rcases hyo with e | e
      · exact e1 e
      · omega
  have zx : ¬ An G f z x := low z kz zo
  have px : ¬ An G f (G.P x) x := low _ hkp (hp.2.imp id fun h => h.2)
  -- what was known is known
  have kk : ∀ y, K G f y → K G (upd f x z) y := fun y hy => by
    rcases hy with e | e
    · exact .inl e
    · refine .inr ⟨e.1, ?_⟩
      unfold upd
      split
      · exact hz2
      · exact e.2
  have kb : ∀ y, y ≠ x → K G (upd f x z) y → K G f y := fun y hy h => by
    rcases h with e | e
    · exact .inl e
    · exact .inr ⟨e.1, by have := e.2; rw [upd_ne hy] at this; exact this⟩
  -- what is above one, after
  have U2 : ∀ y c, An G f y x → An G (upd f x z) z c → An G (upd f x z) y c := fun y c hy hc => (an_to hy).trans (.up hx (by rw [upd_x]; exact hc))
  have U2' : ∀ y c, An G f y x → An G (upd f x z) y c → (An G f y c ∧ An G f c x) ∨ An G (upd f x z) z c := fun y c hy hc => by
    generalize hg : upd f x z = g at hc
    induction hc with
    | rf => exact .inl ⟨.rf _, hy⟩
    | @up y a hn h ih =>
      by_cases e : y = x
      · right
        rw [e, ← hg, upd_x] at h
        rw [← hg]; exact h
      · have e2 : g y = f y := by rw [← hg]; exact upd_ne e
        rw [e2] at ih
        have h2 : An G f (f y) x := by
          cases hy with
          | rf => exact (e rfl).elim
          | up _ h => exact h
        exact (ih h2).imp (fun h => ⟨.up hn h.1, h.2⟩) id
  have xz : f x ≠ -2 → An G f x z := fun hk => .up hx (hi.i5 x hx hk z fun s hs hks => M.a hz2 s hs hks)
  have down : ∀ y c, K G f y → An G (upd f x z) y c → An G f y c := fun y c hy hc => by
    by_cases e : An G f y x
    · rcases U2' y c e hc with h | h
      · exact h.1
      · have kx := (e.known hi.i1 hy).resolve_left hxe
        exact (e.trans (xz kx.2)).trans (an_off' zx h)
    · exact an_off' e hc
  refine ⟨⟨fun y hy hk => ?_, fun y hy hk => ?_, fun y hy h => ?_, fun w hw hk y hy hc => ?_, fun w hw hk c hc => ?_⟩, kz, fun hne => ?_, M.a hz2⟩
  · by_cases e : y = x
    · subst e; rw [upd_x]; exact ⟨kk _ kz, zo⟩
    · rw [upd_ne e] at hk ⊢
      exact ⟨kk _ (hi.i1 y hy hk).1, (hi.i1 y hy hk).2⟩
  · by_cases e : y = x
    · subst e; rw [upd_x]
      exact fun d hd hdx => M.s hz2 d fun s hs _ => hd.succ hdx hs
    · rw [upd_ne e] at hk ⊢
      exact hi.i2 y hy hk
  · by_cases e : y = x
    · subst e; rw [upd_x]; exact hz2
    · rw [upd_ne e]
      refine hi.i3 y hy ?_
      have : G.o y ≠ G.o x := fun h => e (ok.inj _ _ hy hx h)
      omega
  · by_cases e : w = x
    · subst e
      rw [upd_x] at hy
      exact an_off px (pz.trans (an_off' zx hy))
    · rw [upd_ne e] at hk hy
      have kw := (hi.i1 w hw hk)
      have hwo : G.o w ≠ G.o x := fun h => e (ok.inj _ _ hw hx h)
      rcases Int.lt_or_gt_of_ne hwo with h | h
      · -- told in this pass
        have h1 : ¬ An G f (f w) x := low _ kw.1 (kw.2.imp id fun h1 => by omega)
        have hpw := ok.par w hw
        have h2 : ¬ An G f (G.P w) x := low _ (by
          rcases hpw.2 with e | e
          · exact .inl e
          · exact .inr ⟨e.1, hi.i3 _ e.1 (by omega)⟩) (hpw.2.imp id fun h1 => by omega)
        exact an_off h2 (hi.i4 w hw hk y (an_off' h1 hy) (.inr (by omega)))
      · by_cases h1 : An G f (f w) x
        · have h2 : An G f (G.P w) x := hi.i4 w hw hk x h1 (.inl ⟨hxe, by omega⟩)
          rcases U2' _ _ h1 hy with h3 | h3
          · by_cases e1 : y = -1
            · have h4 := h3.2
              rw [e1] at h4
              exact (hxe h4.exit).elim
            · have h4 : An G f (G.P w) y := by
                have ky := h3.1.known hi.i1 kw.1
                refine hi.i4 w hw hk y h3.1 (.inl ⟨e1, ?_⟩)
                rcases h3.2.ord hi.i1 ky hxe with e2 | e2
                · rw [← e2]; omega
                · omega
              have kP : K G f (G.P w) := by
                rcases hi.i4 w hw hk x h1 (.inl ⟨hxe, by omega⟩) with _ | ⟨hn, hh⟩
                · exact (h1.known hi.i1 kw.1)
                · refine .inr ⟨hn, fun e3 => ?_⟩
                  rw [e3] at hh
                  have := hh.minus2
                  have := hx.1
                  omega
              exact an_mid hi.i1 kP h4 h3.2
          · exact U2 _ _ h2 h3
        · have hy' := an_off' h1 hy
          have h2 : (y ≠ -1 ∧ k + 1 ≤ G.o y) := by
            rcases hc with h2 | h2
            · exact h2
            · omega
          have h3 : An G f (G.P w) y := hi.i4 w hw hk y hy' (.inl ⟨h2.1, by omega⟩)
          by_cases h4 : An G f (G.P w) x
          · have kP : K G f (G.P w) := by
              cases h4 with
              | rf =>
                rcases h3 with _ | ⟨hn, hh⟩
                · exact (hy'.known hi.i1 kw.1)
                · refine .inr ⟨hn, fun e3 => ?_⟩
                  rw [e3] at hh
                  have h9 := hh.minus2
                  have h8 := (hy'.known hi.i1 kw.1).ne
                  exact h8 h9
              | up hn hh =>
                refine .inr ⟨hn, fun e3 => ?_⟩
                rw [e3] at hh
                have := hh.minus2
                have := hx.1
                omega
            rcases h3.lin h4 with h5 | h5
            · exact an_mid hi.i1 kP h3 h5
            · have kx := h4.known hi.i1 kP
              rcases h5.ord hi.i1 kx h2.1 with e2 | e2
              · have := h2.2; rw [e2] at this; omega
              · omega
          · exact an_off h4 h3
  · by_cases e : w = x
    · subst e
      rw [upd_x]
      exact an_off zx (M.g hz2 c fun s hs hks => down s c hks (hc s hs (kk s hks)))
    · rw [upd_ne e] at hk ⊢
      have kw := (hi.i1 w hw hk)
      have h0 : An G f (f w) c := hi.i5 w hw hk c fun s hs hks => down s c hks (hc s hs (kk s hks))
      by_cases h1 : An G f (f w) x
      · have hwo : G.o w ≠ G.o x := fun h => e (ok.inj _ _ hw hx h)
        have hwl : G.o x < G.o w := by
          rcases h1.ord hi.i1 kw.1 hxe with e2 | e2
          · rcases kw.2 with e3 | e3
            · rw [← e2] at e3; exact (hxe e3).elim
            · rw [← e2] at e3; omega
          · rcases kw.2 with e3 | e3
            · exact (e2.1 e3).elim
            · omega
        have h2 : An G f (G.P w) x := hi.i4 w hw hk x h1 (.inl ⟨hxe, by omega⟩)
        have kx : K G f x := h1.known hi.i1 kw.1
        have kP : K G f (G.P w) := by
          cases h2 with
          | rf => exact kx
          | up hn hh =>
            refine .inr ⟨hn, fun e3 => ?_⟩
            rw [e3] at hh
            have := hh.minus2
            have := hx.1
            omega
        have h3 := hc _ (ok.par w hw).1 (kk _ kP)
        rcases U2' _ _ h2 h3 with h4 | h4
        · exact an_mid hi.i1 kw.1 h0 h4.2
        · exact U2 _ _ h1 h4
      · exact an_off h1 h0
  · by_cases e : f x = -2
    · exact .inl e
    · right
      have h1 : An G f (f x) z := hi.i5 x hx e z fun s hs hks => M.a hz2 s hs hks
      have kf := (hi.i1 x hx e).1
      unfold rk
      split
      · split
        · rename_i e1 e2; exact (hne (e1.trans e2.symm)).elim
        · omega
      · rename_i e1
        rcases h1.ord hi.i1 kf e1 with e2 | ⟨e2, e3⟩
        · exact (hne e2).elim
        · rw [if_neg e2]
          have := (ok.o0 z (kz.resolve_left e1).1).1
          omega
/-- The next pass. -/
theorem inv_next {G : Gr} (ok : G.Ok) {f : Int → Int} (hi : Inv G f G.N) : Inv G f 0 :=
  ⟨hi.i1, hi.i2, fun x hx h => (by have := (ok.o0 x hx).1; omega), fun x hx hk y hy _ => hi.i4 x hx hk y hy (.inr (ok.o0 x hx).2), hi.i5⟩
/-- Where nothing changes more, what was found are the fences. -/
theorem fixed {G : Gr} (ok : G.Ok) {f : Int → Int} (hi : Inv G f G.N) (h : ∀ x, G.nd x → ∀ s ∈ G.S x, K G f s → An G f s (f x)) {x a : Int} (hx : G.nd x) : An G f x a ↔ Fe G a x := by
  have all : ∀ y, (y = -1 ∨ G.nd y) → K G f y := fun y hy => hy.imp id fun hy => ⟨hy, hi.i3 y hy (ok.o0 y hy).2⟩
  constructor
  · intro ha
    by_cases e : a = -1
    · exact .inl e
    · by_cases e2 : a = x
      · exact .inr (.inl e2)
      · refine .inr (.inr ⟨by have := hx.1; omega, fun hg => ?_⟩)
        have key : ∀ y, Go G a y → G.nd y → An G f y a → a ≠ y → False := by
          intro y hg
          induction hg with
          | out hs =>
            intro hy ha hne
            cases ha with
            | rf => exact hne rfl
            | up _ ha =>
              have := h _ hy _ hs (.inl rfl)
              rw [this.exit] at ha
              exact e ha.exit
          | on hs h1 h2 _ ih =>
            intro hy ha hne
            cases ha with
            | rf => exact hne rfl
            | up _ ha =>
              have ks := all _ (ok.to _ hy _ hs)
              exact ih (ks.resolve_left h1).1 ((h _ hy _ hs ks).trans ha) (Ne.symm h2)
        exact key x hg hx ha e2
  · exact fun hf => Fe.An ok hi.i1 hi.i2 (all x (.inr hx)) hf
end Go.Proofs.Ytkllhfajldnpoaa.Fn
namespace Go.Proofs.Ytkllhfajldnpoaa.Fn
set_option linter.unusedVariables false
/-- A list's thing at a place. -/
def gi (l : List Int) (x : Int) : Int := l.getD x.toNat (-2)
def gl (l : List (List Int)) (x : Int) : List Int := l.getD x.toNat []
def gb (l : List Bool) (x : Int) : Bool := l.getD x.toNat false
def Nd (N : Nat) (x : Int) : Prop := 0 ≤ x ∧ x < N
theorem getD_set {α : Type} {l : List α} {x y : Int} {N : Nat} {v d : α} (hl : l.length = N) (hx : Nd N x) (hy : Nd N y) : (l.set x.toNat v).getD y.toNat d = if y = x then v else l.getD y.toNat d := by
  obtain ⟨h1, h2⟩ := hx
  obtain ⟨h3, h4⟩ := hy
  rw [List.getD_eq_getElem?_getD, List.getD_eq_getElem?_getD, List.getElem?_set]
  by_cases e : y = x
  · subst e; rw [if_pos rfl, if_pos rfl, if_pos (by omega)]; rfl
  · rw [if_neg e, if_neg (by omega)]
def bk1 (fr : Int) : List Int → List (List Int) → List (List Int)
  | [], out => out
  | t :: l, out => bk1 fr l (if t ≠ -1 ∧ fr ∉ gl out t then out.set t.toNat (gl out t ++ [fr]) else out)
def bkA : Nat → List (List Int) → List (List Int) → List (List Int)
  | _, [], out => out
  | i, l :: r, out => bkA (i + 1) r (bk1 i l out)
def bkL (next : List (List Int)) : List (List Int) := bkA 0 next (List.replicate next.length [])
theorem bk1_len {fr : Int} : ∀ l out, (bk1 fr l out).length = out.length := by
  intro l
  induction l with
  | nil => intro out; rfl
  | cons t l ih => intro out; unfold bk1; rw [ih]; split <;> simp
theorem bk1_mem {N : Nat} {fr : Int} : ∀ l out, out.length = N → (∀ t ∈ l, t = -1 ∨ Nd N t) → ∀ y, Nd N y → ∀ z, z ∈ gl (bk1 fr l out) y ↔ z ∈ gl out y ∨ (z = fr ∧ y ∈ l) := by
  intro l
  induction l with
  | nil => intro out _ _ y _ z; simp [bk1]
  | cons t l ih =>
    intro out ho hl y hy z
    have hl' : ∀ t ∈ l, t = -1 ∨ Nd N t := fun x hx => hl x (List.mem_cons_of_mem _ hx)
    unfold bk1
    split
    · rename_i e
      have ht : Nd N t := (hl t List.mem_cons_self).resolve_left e.1
      rw [ih _ (by simp [ho]) hl' y hy z]
      rw [show gl (out.set t.toNat (gl out t ++ [fr])) y = if y = t then gl out t ++ [fr] else gl out y from getD_set ho ht hy]
      by_cases e2 : y = t
      · subst e2; simp; grind
      · simp [e2]
    · rename_i e
      rw [ih _ ho hl' y hy z]
      by_cases e2 : y = t
      · subst e2
        have : fr ∈ gl out y := by
          apply Decidable.byContradiction
          intro h
          exact e ⟨by have := hy.1; omega, h⟩
        grind
      · simp [e2]
theorem bkA_len : ∀ r i out, (bkA i r out).length = out.length := by
  intro r
  induction r with
  | nil => intro i out; rfl
  | cons l r ih => intro i out; unfold bkA; rw [ih, bk1_len]
theorem bkA_mem {N : Nat} : ∀ r i out, out.length = N → (∀ l ∈ r, ∀ t ∈ l, t = -1 ∨ Nd N t) → ∀ y, Nd N y → ∀ z, z ∈ gl (bkA i r out) y ↔ z ∈ gl out y ∨ ∃ j l, r[j]? = some l ∧ z = ((i + j : Nat) : Int) ∧ y ∈ l := by
  intro r
  induction r with
  | nil => intro i out _ _ y _ z; simp [bkA]
  | cons l r ih =>
    intro i out ho hr y hy z
    unfold bkA
    rw [ih (i + 1) _ (by rw [bk1_len]; exact ho) (fun l hl => hr l (List.mem_cons_of_mem _ hl)) y hy z, bk1_mem l out ho (hr l List.mem_cons_self) y hy z]
    constructor
    · rintro ((h | ⟨h1, h2⟩) | ⟨j, l', h1, h2, h3⟩)
      · exact .inl h
      · exact .inr ⟨0, l, by simp, by simpa using h1, h2⟩
      · exact .inr ⟨j + 1, l', by simpa using h1, by rw [h2]; congr 1; omega, h3⟩
    · rintro (h | ⟨j, l', h1, h2, h3⟩)
      · exact .inl (.inl h)
      · cases j with
        | zero => simp at h1; subst h1; exact .inl (.inr ⟨by simpa using h2, h3⟩)
        | succ j => exact .inr ⟨j, l', by simpa using h1, by rw [h2]; congr 1; omega, h3⟩
theorem bkL_len (next : List (List Int)) : (bkL next).length = next.length := by rw [bkL, bkA_len]; simp
theorem bkL_mem {next : List (List Int)} {N : Nat} (hN : next.length = N) (hr : ∀ l ∈ next, ∀ t ∈ l, t = -1 ∨ Nd N t) {y z : Int} (hy : Nd N y) : z ∈ gl (bkL next) y ↔ Nd N z ∧ y ∈ gl next z := by
  have h0 : gl (List.replicate next.length []) y = [] := by
    unfold gl
    rw [List.getD_eq_getElem?_getD, List.getElem?_replicate]
    split <;> rfl
  rw [bkL, bkA_mem next 0 _ (by simp [hN]) hr y hy z, h0]
  constructor
  · rintro (h | ⟨j, l, h1, h2, h3⟩)
    · cases h
    · have : j < next.length := by
        rcases Nat.lt_or_ge j next.length with h | h
        · exact h
        · rw [List.getElem?_eq_none h] at h1; cases h1
      refine ⟨⟨by omega, by omega⟩, ?_⟩
      unfold gl
      rw [List.getD_eq_getElem?_getD, show z.toNat = j by omega, h1]
      exact h3
  · rintro ⟨⟨h1, h2⟩, h3⟩
    have hz : z.toNat < next.length := by omega
    refine .inr ⟨z.toNat, next[z.toNat], by simp [hz], by omega, ?_⟩
    unfold gl at h3
    rw [List.getD_eq_getElem?_getD, List.getElem?_eq_getElem hz] at h3
    exact h3
abbrev SO := List Bool × List Int
def vis (back : List (List Int)) : Nat → Int → SO → SO
  | 0, _, st => st
  | n + 1, a, st =>
    let st1 := (gl back a).foldl (fun st y => if gb st.1 y then st else vis back n y st) (st.1.set a.toNat true, st.2)
    (st1.1, st1.2 ++ [a])
def visR (back : List (List Int)) (n : Nat) (l : List Int) (st : SO) : SO := l.foldl (fun st y => if gb st.1 y then st else vis back n y st) st
theorem vis_succ (back : List (List Int)) (n : Nat) (a : Int) (st : SO) : vis back (n + 1) a st = ((visR back n (gl back a) (st.1.set a.toNat true, st.2)).1, (visR back n (gl back a) (st.1.set a.toNat true, st.2)).2 ++ [a]) := rfl
theorem visR_cons (back : List (List Int)) (n : Nat) (a : Int) (l : List Int) (st : SO) : visR back n (a :: l) st = visR back n l (if gb st.1 a then st else vis back n a st) := rfl
/-- How many aren't seen. -/
def uns (l : List Bool) : Nat := l.countP (fun b => !b)
/-- One stands ahead of the other one. -/
def Aft (l : List Int) (y p : Int) : Prop := ∃ u v, l = u ++ y :: v ∧ p ∈ v
theorem Aft.left {l m : List Int} {y p : Int} (h : Aft l y p) : Aft (l ++ m) y p := by
  obtain ⟨u, v, rfl, h⟩ := h
  exact ⟨u, v ++ m, by simp, List.mem_append.2 (.inl h)⟩
theorem Aft.right {l m : List Int} {y p : Int} (h : Aft m y p) : Aft (l ++ m) y p := by
  obtain ⟨u, v, rfl, h⟩ := h
  exact ⟨l ++ u, v, by simp, h⟩
/-- What a search adds. -/
structure Vs (N : Nat) (back : List (List Int)) (st st' : SO) (new : List Int) : Prop where
  len : st'.1.length = N
  out : st'.2 = st.2 ++ new
  nd : ∀ y ∈ new, Nd N y
  seen : ∀ y, Nd N y → (gb st'.1 y = true ↔ gb st.1 y = true ∨ y ∈ new)
  fresh : ∀ y ∈ new, gb st.1 y = false
  nodup : new.Nodup
  all : ∀ y ∈ new, ∀ z ∈ gl back y, gb st'.1 z = true
  un : uns st'.1 ≤ uns st.1
theorem Vs.refl {N : Nat} {back : List (List Int)} {st : SO} (h : st.1.length = N) : Vs N back st st [] :=
  ⟨h, by simp, fun _ h => (by cases h), fun y _ => (by simp), fun _ h => (by cases h), List.nodup_nil, fun _ h => (by cases h), Nat.le_refl _⟩
theorem Vs.trans {N : Nat} {back : List (List Int)} (hb : ∀ y, Nd N y → ∀ z ∈ gl back y, Nd N z) {a b c : SO} {l m : List Int} (h : Vs N back a b l) (k : Vs N back b c m) : Vs N back a c (l ++ m) := by
  refine ⟨k.len, by rw [k.out, h.out]; simp, fun y hy => ?_, fun y hy => ?_, fun y hy => ?_, ?_, fun y hy z hz => ?_, Nat.le_trans k.un h.un⟩
  · rcases List.mem_append.1 hy with h1 | h1
    · exact h.nd y h1
    · exact k.nd y h1
  · rw [k.seen y hy, h.seen y hy, List.mem_append, or_assoc]
  · rcases List.mem_append.1 hy with h1 | h1
    · exact h.fresh y h1
    · have h2 := k.fresh y h1
      rw [Bool.eq_false_iff] at h2 ⊢
      exact fun h3 => h2 ((h.seen y (k.nd y h1)).2 (.inl h3))
  · rw [List.nodup_append]
    refine ⟨h.nodup, k.nodup, fun x hx y hy e => ?_⟩
    subst e
    have h2 := k.fresh x hy
    rw [(h.seen x (h.nd x hx)).2 (.inr hx)] at h2
    cases h2
  · rcases List.mem_append.1 hy with h1 | h1
    · exact (k.seen z (hb y (h.nd y h1) z hz)).2 (.inl (h.all y h1 z hz))
    · exact k.all y h1 z hz
theorem uns_set : ∀ (l : List Bool) (i : Nat), l[i]? = some false → uns (l.set i true) + 1 = uns l := by
  intro l
  induction l with
  | nil => intro i h; simp at h
  | cons b l ih =>
    intro i h
    cases i with
    | zero => simp at h; subst h; simp [uns]
    | succ i =>
      have h1 := ih i (by simpa using h)
      unfold uns at h1 ⊢
      simp only [List.set_cons_succ, List.countP_cons]
      omega
theorem uns_pos {l : List Bool} {N : Nat} {a : Int} (hl : l.length = N) (ha : Nd N a) (h : gb l a = false) : uns (l.set a.toNat true) + 1 = uns l := by
  refine uns_set l _ ?_
  have h1 : a.toNat < l.length := by have := ha.1; have := ha.2; omega
  rw [List.getElem?_eq_getElem h1]
  unfold gb at h
  rw [List.getD_eq_getElem?_getD, List.getElem?_eq_getElem h1] at h
  exact congrArg some h
/-- Each but those of a list was met from one that is told behind it. -/
def From (back : List (List Int)) (new : List Int) (L : Int → Prop) : Prop := ∀ y ∈ new, L y ∨ ∃ p, y ∈ gl back p ∧ p ∈ new ∧ Aft new y p
theorem visS {N : Nat} {back : List (List Int)} (hb : ∀ y, Nd N y → ∀ z ∈ gl back y, Nd N z) : ∀ n,
    (∀ a st, st.1.length = N → Nd N a → gb st.1 a = false → uns st.1 ≤ n → ∃ new, Vs N back st (vis back n a st) new ∧ a ∈ new ∧ From back new (fun y => y = a)) ∧
    (∀ l st, st.1.length = N → (∀ y ∈ l, Nd N y) → uns st.1 ≤ n → ∃ new, Vs N back st (visR back n l st) new ∧ (∀ y ∈ l, gb (visR back n l st).1 y = true) ∧ From back new (fun y => y ∈ l)) := by
  intro n
  have rows : ∀ n, (∀ a st, st.1.length = N → Nd N a → gb st.1 a = false → uns st.1 ≤ n → ∃ new, Vs N back st (vis back n a st) new ∧ a ∈ new ∧ From back new (fun y => y = a)) →
      (∀ l st, st.1.length = N → (∀ y ∈ l, Nd N y) → uns st.1 ≤ n → ∃ new, Vs N back st (visR back n l st) new ∧ (∀ y ∈ l, gb (visR back n l st).1 y = true) ∧ From back new (fun y => y ∈ l)) := by
    intro n hv l
    induction l with
    | nil => intro st hl _ _; exact ⟨[], Vs.refl hl, fun y hy => (by cases hy), fun y hy => (by cases hy)⟩
    | cons a l ih =>
      intro st hl hn hu
      have ha := hn a List.mem_cons_self
      have hn' : ∀ y ∈ l, Nd N y := fun y hy => hn y (List.mem_cons_of_mem _ hy)
      rw [visR_cons]
      by_cases e : gb st.1 a = true
      · rw [if_pos e]
        obtain ⟨new, h1, h2, h3⟩ := ih st hl hn' hu
        refine ⟨new, h1, fun y hy => ?_, fun y hy => (h3 y hy).imp (List.mem_cons_of_mem _) id⟩
        rcases List.mem_cons.1 hy with rfl | hy
        · exact (h1.seen _ ha).2 (.inl e)
        · exact h2 y hy
      · rw [if_neg e]
        obtain ⟨new, h1, h2, h3⟩ := hv a st hl ha (by simpa using e) hu
        obtain ⟨new', k1, k2, k3⟩ := ih _ h1.len hn' (Nat.le_trans h1.un hu)
        refine ⟨new ++ new', h1.trans hb k1, fun y hy => ?_, fun y hy => ?_⟩
        · rcases List.mem_cons.1 hy with rfl | hy
          · exact (k1.seen _ ha).2 (.inl ((h1.seen _ ha).2 (.inr h2)))
          · exact k2 y hy
        · rcases List.mem_append.1 hy with hy | hy
          · rcases h3 y hy with rfl | ⟨p, h4, h5, h6⟩
            · exact .inl List.mem_cons_self
            · exact .inr ⟨p, h4, List.mem_append.2 (.inl h5), h6.left⟩
          · rcases k3 y hy with h4 | ⟨p, h4, h5, h6⟩
            · exact .inl (List.mem_cons_of_mem _ h4)
            · exact .inr ⟨p, h4, List.mem_append.2 (.inr h5), h6.right⟩
  suffices hv : ∀ n, (∀ a st, st.1.length = N → Nd N a → gb st.1 a = false → uns st.1 ≤ n → ∃ new, Vs N back st (vis back n a st) new ∧ a ∈ new ∧ From back new (fun y => y = a)) from ⟨hv n, rows n (hv n)⟩
  intro n
  induction n with
  | zero => intro a st hl ha hg hu; have := uns_pos hl ha hg; omega
  | succ n ih =>
    intro a st hl ha hg hu
    have hu1 := uns_pos hl ha hg
    have hg1 : ∀ y, Nd N y → gb (st.1.set a.toNat true) y = if y = a then true else gb st.1 y := fun y hy => getD_set hl ha hy
    obtain ⟨new, h1, h2, h3⟩ := rows n ih (gl back a) (st.1.set a.toNat true, st.2) (by simp [hl]) (hb a ha) (by show uns (st.1.set a.toNat true) ≤ n; omega)
    rw [vis_succ]
    have hna : a ∉ new := fun h => by
      have := h1.fresh a h
      rw [hg1 a ha, if_pos rfl] at this
      cases this
    refine ⟨new ++ [a], ⟨h1.len, by show _ ++ _ = _; rw [h1.out]; simp, fun y hy => ?_, fun y hy => ?_, fun y hy => ?_, ?_, fun y hy z hz => ?_, ?_⟩, by simp, fun y hy => ?_⟩
    · rcases List.mem_append.1 hy with hy | hy
      · exact h1.nd y hy
      · rw [List.mem_singleton.1 hy]; exact ha
    · rw [show gb (visR back n (gl back a) (st.1.set a.toNat true, st.2)).1 y = true ↔ _ from h1.seen y hy]
      rw [hg1 y hy, List.mem_append, List.mem_singleton]
      by_cases e : y = a
      · simp [e]
      · simp [e]
    · rcases List.mem_append.1 hy with hy | hy
      · have h4 := h1.fresh y hy
        rw [hg1 y (h1.nd y hy)] at h4
        split at h4
        · cases h4
        · exact h4
      · rw [List.mem_singleton.1 hy]; exact hg
    · rw [List.nodup_append]
      exact ⟨h1.nodup, by simp, fun x hx y hy e => by rw [List.mem_singleton.1 hy] at e; exact hna (e ▸ hx)⟩
    · rcases List.mem_append.1 hy with hy | hy
      · exact h1.all y hy z hz
      · rw [List.mem_singleton.1 hy] at hz; exact h2 z hz
    · have := h1.un
      show uns (visR back n (gl back a) (st.1.set a.toNat true, st.2)).1 ≤ _
      have h5 : uns (st.1.set a.toNat true, st.2).1 = uns (st.1.set a.toNat true) := rfl
      omega
    · rcases List.mem_append.1 hy with hy | hy
      · rcases h3 y hy with h4 | ⟨p, h4, h5, h6⟩
        · refine .inr ⟨a, h4, by simp, ?_⟩
          obtain ⟨u, v, e⟩ := List.append_of_mem hy
          exact ⟨u, v ++ [a], by rw [e]; simp, by simp⟩
        · exact .inr ⟨p, h4, List.mem_append.2 (.inl h5), h6.left⟩
      · exact .inl (List.mem_singleton.1 hy)
/-- The statements that lead to the exit at once, if not seen, are searched from. -/
def finA (back next : List (List Int)) (n : Nat) : Nat → List (List Int) → SO → SO
  | _, [], st => st
  | i, l :: r, st => finA back next n (i + 1) r (if -1 ∈ l ∧ gb st.1 i = false then vis back n i st else st)
def finL (next : List (List Int)) : List Int := (finA (bkL next) next (next.length + 1) 0 next (List.replicate next.length false, [])).2.reverse
theorem finA_spec {N : Nat} {next : List (List Int)} (hN : next.length = N) (hb : ∀ y, Nd N y → ∀ z ∈ gl (bkL next) y, Nd N z) {n : Nat} (hn : N < n) : ∀ (r : List (List Int)) (i : Nat) (st : SO), next.drop i = r → st.1.length = N → uns st.1 ≤ n →
    ∃ new, Vs N (bkL next) st (finA (bkL next) next n i r st) new ∧ (∀ y, Nd N y → (i : Int) ≤ y → -1 ∈ gl next y → gb (finA (bkL next) next n i r st).1 y = true) ∧ From (bkL next) new (fun y => -1 ∈ gl next y) := by
  intro r
  induction r with
  | nil =>
    intro i st hr hl _
    refine ⟨[], Vs.refl hl, fun y hy hi => ?_, fun y hy => (by cases hy)⟩
    have := List.drop_eq_nil_iff.1 hr
    have := hy.2
    omega
  | cons l r ih =>
    intro i st hr hl hu
    have hi : i < next.length := by
      rcases Nat.lt_or_ge i next.length with h | h
      · exact h
      · rw [List.drop_eq_nil_of_le h] at hr; cases hr
    have e := List.drop_eq_getElem_cons hi
    rw [hr] at e
    obtain ⟨e1, e2⟩ := List.cons.inj e
    have hni : Nd N i := ⟨by omega, by omega⟩
    have hgi : gl next i = l := by
      unfold gl
      rw [List.getD_eq_getElem?_getD, show (i : Int).toNat = i by omega, List.getElem?_eq_getElem hi, e1]; rfl
    unfold finA
    split
    · rename_i h
      obtain ⟨new, h1, h2, h3⟩ := (visS hb n).1 i st hl hni h.2 hu
      obtain ⟨new', k1, k2, k3⟩ := ih (i + 1) _ e2.symm h1.len (Nat.le_trans h1.un hu)
      refine ⟨new ++ new', h1.trans hb k1, fun y hy hiy hx => ?_, fun y hy => ?_⟩
      · by_cases e : y = i
        · subst e; exact (k1.seen _ hy).2 (.inl ((h1.seen _ hy).2 (.inr h2)))
        · exact k2 y hy (by omega) hx
      · rcases List.mem_append.1 hy with hy | hy
        · rcases h3 y hy with rfl | ⟨p, h4, h5, h6⟩
          · exact .inl (by show -1 ∈ gl next i; rw [hgi]; exact h.1)
          · exact .inr ⟨p, h4, List.mem_append.2 (.inl h5), h6.left⟩
        · rcases k3 y hy with h4 | ⟨p, h4, h5, h6⟩
          · exact .inl h4
          · exact .inr ⟨p, h4, List.mem_append.2 (.inr h5), h6.right⟩
    · rename_i h
      obtain ⟨new', k1, k2, k3⟩ := ih (i + 1) _ e2.symm hl hu
      refine ⟨new', k1, fun y hy hiy hx => ?_, k3⟩
      by_cases e : y = i
      · subst e
        rw [hgi] at hx
        have : gb st.1 i = true := by
          cases hq : gb st.1 i with
          | true => rfl
          | false => exact (h ⟨hx, hq⟩).elim
        exact (k1.seen _ hy).2 (.inl this)
      · exact k2 y hy (by omega) hx
/-- Each statement leads to the exit. -/
inductive Rx (next : List (List Int)) : Int → Prop
  | out {x} : -1 ∈ gl next x → Rx next x
  | on {x s} : s ∈ gl next x → s ≠ -1 → Rx next s → Rx next x
structure FinS (N : Nat) (next : List (List Int)) (l : List Int) : Prop where
  nodup : l.Nodup
  nd : ∀ y, y ∈ l ↔ Nd N y
  par : ∀ y ∈ l, -1 ∈ gl next y ∨ ∃ p, p ∈ gl next y ∧ p ∈ l ∧ Aft l p y
theorem finL_spec {N : Nat} {next : List (List Int)} (hN : next.length = N) (hr : ∀ l ∈ next, ∀ t ∈ l, t = -1 ∨ Nd N t) (hx : ∀ x, Nd N x → Rx next x) : FinS N next (finL next) := by
  have hm : ∀ {y z : Int}, Nd N y → (z ∈ gl (bkL next) y ↔ Nd N z ∧ y ∈ gl next z) := fun hy => bkL_mem hN hr hy
  have hb : ∀ y, Nd N y → ∀ z ∈ gl (bkL next) y, Nd N z := fun y hy z hz => ((hm hy).1 hz).1
  have hl0 : ∀ y : Int, gb (List.replicate next.length false) y = false := fun y => by
    unfold gb
    rw [List.getD_eq_getElem?_getD, List.getElem?_replicate]
    split <;> rfl
  obtain ⟨new, h1, h2, h3⟩ := finA_spec hN hb (n := next.length + 1) (by omega) next 0 (List.replicate next.length false, []) rfl (by simp [hN]) (by
    have := List.countP_le_length (p := fun b : Bool => !b) (l := List.replicate next.length false)
    rw [List.length_replicate] at this
    show List.countP (fun b : Bool => !b) (List.replicate next.length false) ≤ next.length + 1
    omega)
  have hout : finL next = new.reverse := by rw [finL, h1.out]; simp
  have hs : ∀ y, Nd N y → (y ∈ new ↔ gb (finA (bkL next) next (next.length + 1) 0 next (List.replicate next.length false, [])).1 y = true) := fun y hy => by
    rw [h1.seen y hy, show gb (List.replicate next.length false, ([] : List Int)).1 y = false from hl0 y]
    simp
  have all : ∀ y, Nd N y → y ∈ new := fun y hy => by
    have := hx y hy
    revert hy
    induction this with
    | @out x h => exact fun hy => (hs x hy).2 (h2 x hy (by have := hy.1; omega) h)
    | @on x s h h4 _ ih =>
      intro hy
      have hsn : Nd N s := by
        refine (hr (gl next x) ?_ s h).resolve_left h4
        unfold gl
        rw [List.getD_eq_getElem?_getD, List.getElem?_eq_getElem (show x.toNat < next.length by have := hy.1; have := hy.2; omega)]
        exact List.getElem_mem _
      exact (hs x hy).2 (h1.all s (ih hsn) x ((hm hsn).2 ⟨hy, h⟩))
  rw [hout]
  refine ⟨(List.reverse_perm new).nodup_iff.2 h1.nodup, fun y => ⟨fun h => h1.nd y (List.mem_reverse.1 h), fun h => List.mem_reverse.2 (all y h)⟩, fun y hy => ?_⟩
  have hy := List.mem_reverse.1 hy
  rcases h3 y hy with h | ⟨p, h4, h5, u, v, e, h6⟩
  · exact .inl h
  · have hp := h1.nd p h5
    refine .inr ⟨p, ((hm hp).1 h4).2, List.mem_reverse.2 h5, ?_⟩
    obtain ⟨a, b, rfl⟩ := List.append_of_mem h6
    exact ⟨b.reverse, a.reverse ++ y :: u.reverse, by rw [e]; simp, by simp⟩
/-- The numbers of what is in a list. -/
def ordA : Nat → List Int → List Int → List Int
  | _, [], o => o
  | i, x :: l, o => ordA (i + 1) l (o.set x.toNat i)
def ordL (N : Nat) (l : List Int) : List Int := ordA 0 l (List.replicate N 0)
theorem ordA_len : ∀ l i o, (ordA i l o).length = o.length := by
  intro l
  induction l with
  | nil => intro i o; rfl
  | cons x l ih => intro i o; unfold ordA; rw [ih]; simp
theorem ordA_get {N : Nat} : ∀ l i o, o.length = N → (∀ x ∈ l, Nd N x) → l.Nodup → (∀ y, Nd N y → y ∉ l → gi (ordA i l o) y = gi o y) ∧ ∀ j y, l[j]? = some y → gi (ordA i l o) y = ((i + j : Nat) : Int) := by
  intro l
  induction l with
  | nil => intro i o _ _ _; exact ⟨fun _ _ _ => rfl, fun j y h => by simp at h⟩
  | cons x l ih =>
    intro i o ho hl hd
    obtain ⟨hd1, hd2⟩ := List.nodup_cons.1 hd
    have hx := hl x List.mem_cons_self
    obtain ⟨h1, h2⟩ := ih (i + 1) (o.set x.toNat i) (by simp [ho]) (fun y hy => hl y (List.mem_cons_of_mem _ hy)) hd2
    have hg : ∀ y, Nd N y → gi (o.set x.toNat i) y = if y = x then (i : Int) else gi o y := fun y hy => getD_set ho hx hy
    refine ⟨fun y hy hn => ?_, fun j y hj => ?_⟩
    · unfold ordA
      rw [h1 y hy fun h => hn (List.mem_cons_of_mem _ h), hg y hy, if_neg (fun e => hn (by rw [e]; exact List.mem_cons_self))]
    · unfold ordA
      cases j with
      | zero => simp at hj; subst hj; rw [h1 _ hx hd1, hg _ hx, if_pos rfl]; rfl
      | succ j => rw [h2 j y (by simpa using hj)]; congr 1; omega
theorem ordL_get {N : Nat} {l : List Int} (hl : ∀ x ∈ l, Nd N x) (hd : l.Nodup) {j : Nat} {y : Int} (h : l[j]? = some y) : gi (ordL N l) y = (j : Int) := by
  have := (ordA_get (N := N) l 0 (List.replicate N 0) (by simp) hl hd).2 j y h
  rw [ordL, this]; simp
theorem nodup_len : ∀ (N : Nat) (l : List Int), l.Nodup → (∀ y, y ∈ l ↔ Nd N y) → l.length = N := by
  intro N l hd hl
  have h1 : l.Perm ((List.range N).map Int.ofNat) := by
    refine (List.perm_ext_iff_of_nodup hd ?_).2 fun y => ?_
    · exact List.Pairwise.map _ (fun a b (h : a ≠ b) => fun e => h (Int.ofNat.inj e)) List.nodup_range
    · rw [hl, List.mem_map]
      constructor
      · rintro ⟨h, h'⟩; exact ⟨y.toNat, List.mem_range.2 (by omega), by simp; omega⟩
      · rintro ⟨a, ha, rfl⟩; have := List.mem_range.1 ha; exact ⟨by simp, by simp; omega⟩
  rw [h1.length_eq]; simp
/-- The graph of lists. -/
def gr (next : List (List Int)) : Gr where
  N := next.length
  S := gl next
  o := gi (ordL next.length (finL next))
  P := fun x => ((gl next x).find? fun p => p == -1 || decide (gi (ordL next.length (finL next)) p < gi (ordL next.length (finL next)) x)).getD (-1)
theorem gr_ok {next : List (List Int)} (hr : ∀ l ∈ next, ∀ t ∈ l, t = -1 ∨ Nd next.length t) (hx : ∀ x, Nd next.length x → Rx next x) : (gr next).Ok := by
  have F := finL_spec rfl hr hx
  have idx : ∀ y, Nd next.length y → ∃ j : Nat, (finL next)[j]? = some y ∧ gi (ordL next.length (finL next)) y = (j : Int) ∧ j < next.length := fun y hy => by
    obtain ⟨j, hj⟩ := List.getElem?_of_mem ((F.nd y).2 hy)
    refine ⟨j, hj, ordL_get (fun x hx => (F.nd x).1 hx) F.nodup hj, ?_⟩
    rw [← nodup_len _ _ F.nodup F.nd]
    rcases Nat.lt_or_ge j (finL next).length with h | h
    · exact h
    · rw [List.getElem?_eq_none h] at hj; cases hj
  have to : ∀ x, Nd next.length x → ∀ s ∈ gl next x, s = -1 ∨ Nd next.length s := fun x hx s hs => by
    refine hr (gl next x) ?_ s hs
    unfold gl
    rw [List.getD_eq_getElem?_getD, List.getElem?_eq_getElem (show x.toNat < next.length by have := hx.1; have := hx.2; omega)]
    exact List.getElem_mem _
  refine ⟨by show (0 : Int) ≤ (next.length : Int); omega, to, fun x y hx hy h => ?_, fun x hx => ?_, fun x hx => ?_⟩
  · obtain ⟨i, h1, h2, _⟩ := idx x hx
    obtain ⟨j, h3, h4, _⟩ := idx y hy
    have h : gi (ordL next.length (finL next)) x = gi (ordL next.length (finL next)) y := h
    rw [h2, h4] at h
    have : i = j := by omega
    subst this
    rw [h1] at h3
    exact Option.some.inj h3
  · obtain ⟨i, h1, h2, h3⟩ := idx x hx
    show 0 ≤ gi (ordL next.length (finL next)) x ∧ gi (ordL next.length (finL next)) x < (next.length : Int)
    omega
  · have : ∃ p ∈ gl next x, (p == -1 || decide (gi (ordL next.length (finL next)) p < gi (ordL next.length (finL next)) x)) = true := by
      rcases F.par x ((F.nd x).2 hx) with h | ⟨p, h1, h2, u, v, e, h3⟩
      · exact ⟨-1, h, by simp⟩
      · refine ⟨p, h1, ?_⟩
        have hp : gi (ordL next.length (finL next)) p = (u.length : Int) := ordL_get (fun x hx => (F.nd x).1 hx) F.nodup (by rw [e]; simp)
        obtain ⟨k, hk⟩ := List.getElem?_of_mem h3
        have hq : gi (ordL next.length (finL next)) x = ((u.length + 1 + k : Nat) : Int) := ordL_get (fun x hx => (F.nd x).1 hx) F.nodup (by
          rw [e, List.getElem?_append_right (by omega), show u.length + 1 + k - u.length = k + 1 by omega]; simpa using hk)
        simp only [hp, hq, Bool.or_eq_true, decide_eq_true_eq]
        right; omega
    obtain ⟨p, hp⟩ := Option.isSome_iff_exists.1 (List.find?_isSome.2 this)
    have e : (gr next).P x = p := by show Option.getD _ _ = _; rw [hp]; rfl
    rw [e]
    have h1 := List.mem_of_find?_eq_some hp
    have h2 := List.find?_some hp
    refine ⟨h1, ?_⟩
    simp only [Bool.or_eq_true, beq_iff_eq, decide_eq_true_eq] at h2
    rcases h2 with h2 | h2
    · exact .inl h2
    · rcases to x hx p h1 with h3 | h3
      · exact .inl h3
      · exact .inr ⟨h3, h2⟩
end Go.Proofs.Ytkllhfajldnpoaa.Fn
namespace Go.Proofs.Ytkllhfajldnpoaa.Fn
set_option linter.unusedVariables false
section
variable (next : List (List Int))
def ordO : List Int := ordL next.length (finL next)
def nowL (nx : List Int) (x : Int) : Int := now (gi (ordO next)) (gi nx) (2 * next.length + 3) (gl next x) (-2)
def passL : List Int → List Int → Bool → List Int × Bool
  | [], nx, c => (nx, c)
  | x :: l, nx, c => if nowL next nx x ≠ gi nx x then passL l (nx.set x.toNat (nowL next nx x)) true else passL l nx c
def runL : Nat → List Int → List Int
  | 0, nx => nx
  | n + 1, nx => if (passL next (finL next) nx false).2 then runL n (passL next (finL next) nx false).1 else (passL next (finL next) nx false).1
/-- Next fences. -/
def fenL : List Int := runL next ((next.length + 2) * next.length + 1) (List.replicate next.length (-2))
end
/-- What is still to go. -/
def wt (G : Gr) (z : Int) : Nat := if z = -2 then G.N.toNat + 1 else rk G z
def mu (G : Gr) (nx : List Int) : Nat := (nx.map (wt G)).sum
theorem sum_set {g : Int → Nat} {z : Int} : ∀ (l : List Int) (i : Nat) (h : i < l.length), g z < g l[i] → ((l.set i z).map g).sum < (l.map g).sum := by
  intro l
  induction l with
  | nil => intro i h; exact absurd h (by simp)
  | cons a l ih =>
    intro i h hg
    cases i with
    | zero => simp at hg ⊢; exact hg
    | succ i => simp only [List.set_cons_succ, List.map_cons, List.sum_cons]; have := ih i (by simpa using h) (by simpa using hg); omega
section
variable {next : List (List Int)}
theorem gi_set {N : Nat} {l : List Int} {x y z : Int} (hl : l.length = N) (hx : Nd N x) (hy : Nd N y) : gi (l.set x.toNat z) y = if y = x then z else gi l y := getD_set hl hx hy
theorem inv_congr {G : Gr} {f g : Int → Int} {k : Int} (h : ∀ x, G.nd x → f x = g x) (hi : Inv G f k) : Inv G g k := by
  have hK : ∀ x, K G f x ↔ K G g x := fun x => by
    unfold K
    constructor
    · rintro (e | ⟨e, e'⟩); exact .inl e; exact .inr ⟨e, by rw [← h x e]; exact e'⟩
    · rintro (e | ⟨e, e'⟩); exact .inl e; exact .inr ⟨e, by rw [h x e]; exact e'⟩
  have hA : ∀ x y, An G f x y ↔ An G g x y := fun x y => by
    constructor
    · intro ha
      induction ha with
      | rf => exact .rf _
      | up hn _ ih => exact .up hn (by rw [← h _ hn]; exact ih)
    · intro ha
      induction ha with
      | rf => exact .rf _
      | up hn _ ih => exact .up hn (by rw [h _ hn]; exact ih)
  refine ⟨fun x hx hk => ?_, fun x hx hk => ?_, fun x hx ho => ?_, fun x hx hk => ?_, fun x hx hk => ?_⟩
  · rw [← h x hx] at hk ⊢; exact ⟨(hK _).1 (hi.i1 x hx hk).1, (hi.i1 x hx hk).2⟩
  · rw [← h x hx] at hk ⊢; exact hi.i2 x hx hk
  · rw [← h x hx]; exact hi.i3 x hx ho
  · rw [← h x hx] at hk ⊢
    exact fun y hy hc => (hA _ _).1 (hi.i4 x hx hk y ((hA _ _).2 hy) hc)
  · rw [← h x hx] at hk ⊢
    exact fun c hc => (hA _ _).1 (hi.i5 x hx hk c fun s hs hks => (hA _ _).2 (hc s hs ((hK _).1 hks)))
/-- What is found from what is known, at each one. -/
def Fix (next : List (List Int)) (nx : List Int) : Prop := ∀ x, Nd next.length x → ∀ s ∈ gl next x, K (gr next) (gi nx) s → An (gr next) (gi nx) s (gi nx x)
theorem passL_spec (hg : (gr next).Ok) (hl : ∀ (j : Nat) (x : Int), (finL next)[j]? = some x → Nd next.length x ∧ gi (ordO next) x = (j : Int)) :
    ∀ (l : List Int) (k : Nat) (nx : List Int) (c : Bool), (finL next).drop k = l → nx.length = next.length → Inv (gr next) (gi nx) k →
    ∃ nx' c', passL next l nx c = (nx', c') ∧ nx'.length = next.length ∧ Inv (gr next) (gi nx') ((k + l.length : Nat) : Int) ∧ mu (gr next) nx' ≤ mu (gr next) nx ∧ (c' = true → c = true ∨ mu (gr next) nx' < mu (gr next) nx) ∧
      (c' = false → nx' = nx ∧ ∀ x ∈ l, ∀ s ∈ gl next x, K (gr next) (gi nx) s → An (gr next) (gi nx) s (gi nx x)) := by
  intro l
  induction l with
  | nil => intro k nx c hd hn hi; exact ⟨nx, c, rfl, hn, hi, Nat.le_refl _, fun h => .inl h, fun _ => ⟨rfl, fun x hx => (by cases hx)⟩⟩
  | cons x l ih =>
    intro k nx c hd hn hi
    have hk : k < (finL next).length := by
      rcases Nat.lt_or_ge k (finL next).length with h | h
      · exact h
      · rw [List.drop_eq_nil_of_le h] at hd; cases hd
    have e := List.drop_eq_getElem_cons hk
    rw [hd] at e
    obtain ⟨e1, e2⟩ := List.cons.inj e
    obtain ⟨hx, ho⟩ := hl k x (by rw [List.getElem?_eq_getElem hk, e1])
    obtain ⟨I, kz, dec, fx⟩ := inv_step hg hi (m := 2 * next.length + 3) (by show 2 * (next.length : Int).toNat + 2 < _; omega) hx ho (z := nowL next nx x) rfl
    have hd' : (finL next).drop (k + 1) = l := e2.symm
    have hlen : k + (x :: l).length = (k + 1) + l.length := by simp; omega
    unfold passL
    split
    · rename_i hne
      have hc : ∀ y, (gr next).nd y → upd (gi nx) x (nowL next nx x) y = gi (nx.set x.toNat (nowL next nx x)) y := fun y hy => by
        rw [gi_set hn hx hy]; rfl
      obtain ⟨nx', c', h1, h2, h3, h4, h5, h6⟩ := ih (k + 1) (nx.set x.toNat (nowL next nx x)) true hd' (by simp [hn]) (inv_congr hc I)
      have hxl : x.toNat < nx.length := by have := hx.1; have := hx.2; omega
      have hgx : gi nx x = nx[x.toNat] := by unfold gi; rw [List.getD_eq_getElem?_getD, List.getElem?_eq_getElem hxl]; rfl
      have hm : mu (gr next) (nx.set x.toNat (nowL next nx x)) < mu (gr next) nx := by
        refine sum_set nx x.toNat hxl ?_
        rw [← hgx]
        unfold wt
        rw [if_neg kz.ne]
        rcases dec hne with h | h
        · rw [if_pos h]
          unfold rk
          split
          · omega
          · rename_i e3
            have := hg.o0 _ (kz.resolve_left e3).1
            omega
        · by_cases e3 : gi nx x = -2
          · rw [if_pos e3]
            unfold rk
            split
            · omega
            · rename_i e3
              have := hg.o0 _ (kz.resolve_left e3).1
              omega
          · rw [if_neg e3]; exact h
      refine ⟨nx', c', h1, h2, by rw [hlen]; exact h3, by omega, fun _ => .inr (by omega), fun hc' => ?_⟩
      exfalso
      have hT : ∀ l nx, (passL next l nx true).2 = true := by
        intro l
        induction l with
        | nil => intro nx; rfl
        | cons y l ih => intro nx; unfold passL; split <;> exact ih _
      have := hT l (nx.set x.toNat (nowL next nx x))
      rw [h1] at this
      rw [hc'] at this
      cases this
    · rename_i hne
      have hz : nowL next nx x = gi nx x := Decidable.byContradiction hne
      have hc : ∀ y, (gr next).nd y → upd (gi nx) x (nowL next nx x) y = gi nx y := fun y hy => by
        unfold upd
        split
        · rename_i e; rw [hz, e]
        · rfl
      obtain ⟨nx', c', h1, h2, h3, h4, h5, h6⟩ := ih (k + 1) nx c hd' hn (inv_congr hc I)
      refine ⟨nx', c', h1, h2, by rw [hlen]; exact h3, h4, h5, fun hc' => ⟨(h6 hc').1, fun y hy => ?_⟩⟩
      rcases List.mem_cons.1 hy with rfl | hy
      · rw [hz] at fx; exact fx
      · exact (h6 hc').2 y hy
theorem runL_spec (hg : (gr next).Ok) (hl : ∀ (j : Nat) (x : Int), (finL next)[j]? = some x → Nd next.length x ∧ gi (ordO next) x = (j : Int)) (hN : (finL next).length = next.length) (ha : ∀ x, Nd next.length x → x ∈ finL next) :
    ∀ (n : Nat) (nx : List Int), nx.length = next.length → mu (gr next) nx < n → Inv (gr next) (gi nx) 0 → ∃ nx', runL next n nx = nx' ∧ nx'.length = next.length ∧ Inv (gr next) (gi nx') next.length ∧ Fix next nx' := by
  intro n
  induction n with
  | zero => intro nx _ h; omega
  | succ n ih =>
    intro nx hn hm hi
    obtain ⟨nx', c', h1, h2, h3, h4, h5, h6⟩ := passL_spec hg hl (finL next) 0 nx false rfl hn hi
    have h3 : Inv (gr next) (gi nx') next.length := by rw [Nat.zero_add, hN] at h3; exact h3
    unfold runL
    rw [h1]
    cases c' with
    | true =>
      rcases h5 rfl with h | h
      · cases h
      · exact ih nx' h2 (by omega) (inv_next hg h3)
    | false =>
      obtain ⟨rfl, h7⟩ := h6 rfl
      exact ⟨nx', rfl, h2, h3, fun x hx => h7 x (ha x hx)⟩
structure FenS (next : List (List Int)) (nx : List Int) : Prop where
  len : nx.length = next.length
  i1 : ∀ x, Nd next.length x → (gi nx x = -1 ∨ (Nd next.length (gi nx x) ∧ gi (ordO next) (gi nx x) < gi (ordO next) x))
  an : ∀ x a, Nd next.length x → (An (gr next) (gi nx) x a ↔ Fe (gr next) a x)
theorem fenL_spec (hr : ∀ l ∈ next, ∀ t ∈ l, t = -1 ∨ Nd next.length t) (hx : ∀ x, Nd next.length x → Rx next x) : FenS next (fenL next) := by
  have F := finL_spec rfl hr hx
  have hg := gr_ok hr hx
  have hl : ∀ (j : Nat) (x : Int), (finL next)[j]? = some x → Nd next.length x ∧ gi (ordO next) x = (j : Int) := fun j x h => ⟨(F.nd x).1 (List.mem_of_getElem? h), ordL_get (fun x hx => (F.nd x).1 hx) F.nodup h⟩
  have hg0 : ∀ x : Int, gi (List.replicate next.length (-2)) x = -2 := fun x => by
    unfold gi
    rw [List.getD_eq_getElem?_getD, List.getElem?_replicate]
    split <;> rfl
  have hm : mu (gr next) (List.replicate next.length (-2)) < (next.length + 2) * next.length + 1 := by
    have e : wt (gr next) (-2) = next.length + 1 := rfl
    unfold mu
    rw [List.map_replicate, e, List.sum_replicate_nat]
    have : (next.length + 2) * next.length = next.length * (next.length + 1) + next.length := by rw [Nat.mul_comm, Nat.mul_succ]
    omega
  obtain ⟨nx', h1, h2, h3, h4⟩ := runL_spec hg hl (nodup_len _ _ F.nodup F.nd) (fun x hx => (F.nd x).2 hx) _ (List.replicate next.length (-2)) (by simp) hm (inv_congr (fun x _ => (hg0 x).symm) (inv_start hg))
  have e : fenL next = nx' := h1
  rw [e]
  refine ⟨h2, fun x hx => ?_, fun x a hx => fixed hg h3 h4 hx⟩
  have := h3.i1 x hx (h3.i3 x hx (hg.o0 x hx).2)
  rcases this.2 with h | h
  · exact .inl h
  · rcases this.1 with h5 | h5
    · exact .inl h5
    · exact .inr ⟨h5.1, h⟩
end
end Go.Proofs.Ytkllhfajldnpoaa.Fn
namespace Go.Proofs.Ytkllhfajldnpoaa.Fn
set_option linter.unusedVariables false
/-- The search of the document: what is to do, what was seen. -/
def rch (next : List (List Int)) (but : Int) : Nat → List Int → List Bool → List Bool
  | 0, _, out => out
  | _ + 1, [], out => out
  | n + 1, a :: t, out => if a = but then rch next but n t out else if a < 0 then rch next but n t (out.set next.length true)
      else if gb out a = false then rch next but n (t ++ gl next a) (out.set a.toNat true) else rch next but n t out
/-- How long it may take. -/
def rmu (out : List Bool) (todo : List Int) : Nat := 3 * uns out + todo.length
structure RI (next : List (List Int)) (G : Gr) (from_ but : Int) (todo : List Int) (out : List Bool) : Prop where
  len : out.length = next.length + 1
  snd : ∀ s ∈ todo, ∃ y, s ∈ gl next y ∧ (y = from_ ∨ (Nd next.length y ∧ gb out y = true))
  reach : ∀ y, Nd next.length y → gb out y = true → (Go G but y → Go G but from_)
  ex : gb out next.length = true → Go G but from_
  cl : ∀ y, (y = from_ ∨ (Nd next.length y ∧ gb out y = true)) → ∀ s ∈ gl next y, s = but ∨ (s = -1 ∧ gb out next.length = true) ∨ (Nd next.length s ∧ gb out s = true) ∨ s ∈ todo
theorem gb_set {l : List Bool} {N : Nat} (hl : l.length = N + 1) {x y : Int} (hx : 0 ≤ x ∧ x ≤ N) (hy : 0 ≤ y ∧ y ≤ N) : gb (l.set x.toNat true) y = if y = x then true else gb l y :=
  getD_set (N := N + 1) hl ⟨hx.1, by omega⟩ ⟨hy.1, by omega⟩
theorem rch_spec {next : List (List Int)} {G : Gr} (hG : G.S = gl next) (hr : ∀ y, Nd next.length y → (gl next y).length ≤ 2 ∧ ∀ t ∈ gl next y, t = -1 ∨ Nd next.length t) {from_ but : Int} (hf : Nd next.length from_) (hb : 0 ≤ but) :
    ∀ (n : Nat) (todo : List Int) (out : List Bool), rmu out todo < n → RI next G from_ but todo out → ∃ out', rch next but n todo out = out' ∧ RI next G from_ but [] out' := by
  intro n
  induction n with
  | zero => intro todo out h; omega
  | succ n ih =>
    intro todo out hm hi
    cases todo with
    | nil => exact ⟨out, rfl, hi⟩
    | cons a t =>
      have hN : (next.length : Int).toNat = next.length := by omega
      obtain ⟨y, h1, h2⟩ := hi.snd a List.mem_cons_self
      have hy : Nd next.length y := by
        rcases h2 with rfl | h2
        · exact hf
        · exact h2.1
      have hto := (hr y hy).2 a h1
      have hsnd : ∀ s ∈ t, ∃ y, s ∈ gl next y ∧ (y = from_ ∨ (Nd next.length y ∧ gb out y = true)) := fun s hs => hi.snd s (List.mem_cons_of_mem _ hs)
      unfold rch
      split
      · rename_i e
        refine ih t out (by unfold rmu at hm ⊢; rw [List.length_cons] at hm; omega) ⟨hi.len, hsnd, hi.reach, hi.ex, fun y hy s hs => ?_⟩
        rcases hi.cl y hy s hs with h | h | h | h
        · exact .inl h
        · exact .inr (.inl h)
        · exact .inr (.inr (.inl h))
        · rcases List.mem_cons.1 h with h | h
          · exact .inl (h.trans e)
          · exact .inr (.inr (.inr h))
      · rename_i e
        split
        · rename_i e2
          have ea : a = -1 := by
            rcases hto with h | h
            · exact h
            · have := h.1; omega
          have hs : ∀ z : Int, 0 ≤ z ∧ z ≤ next.length → gb (out.set next.length true) z = if z = next.length then true else gb out z := fun z hz => by
            have := gb_set hi.len (x := (next.length : Int)) ⟨by omega, by omega⟩ hz
            rw [hN] at this; exact this
          have hsn : ∀ z : Int, Nd next.length z → gb (out.set next.length true) z = gb out z := fun z hz => by
            rw [hs z ⟨hz.1, by have := hz.2; omega⟩, if_neg (by have := hz.2; omega)]
          have hgo : Go G but from_ := by
            rcases h2 with rfl | h2
            · exact .out (by rw [hG, ← ea]; exact h1)
            · exact hi.reach y h2.1 h2.2 (.out (by rw [hG, ← ea]; exact h1))
          refine ih t _ ?_ ⟨by simp [hi.len], fun s hs => ?_, fun y hy hy' => ?_, fun _ => hgo, fun y hy s hs' => ?_⟩
          · have : uns (out.set next.length true) ≤ uns out := by
              by_cases e3 : out[next.length]? = some false
              · have := uns_set out _ e3; omega
              · have h4 : next.length < out.length := by rw [hi.len]; omega
                have : out.set next.length true = out := by
                  rw [List.getElem?_eq_getElem h4] at e3
                  have h5 : out[next.length] = true := by
                    cases hq : out[next.length] with
                    | true => rfl
                    | false => rw [hq] at e3; exact (e3 rfl).elim
                  rw [← h5, List.set_getElem_self]
                rw [this]; exact Nat.le_refl _
            unfold rmu at hm ⊢
            rw [List.length_cons] at hm
            omega
          · obtain ⟨y, h3, h4⟩ := hsnd s hs
            exact ⟨y, h3, h4.imp id fun h => ⟨h.1, by rw [hsn y h.1]; exact h.2⟩⟩
          · rw [hsn y hy] at hy'; exact hi.reach y hy hy'
          · have hy2 : y = from_ ∨ (Nd next.length y ∧ gb out y = true) := hy.imp id fun h => ⟨h.1, by rw [← hsn y h.1]; exact h.2⟩
            have hl : gb (out.set next.length true) next.length = true := by rw [hs _ ⟨by omega, by omega⟩, if_pos rfl]
            rcases hi.cl y hy2 s hs' with h | h | h | h
            · exact .inl h
            · exact .inr (.inl ⟨h.1, hl⟩)
            · exact .inr (.inr (.inl ⟨h.1, by rw [hsn s h.1]; exact h.2⟩))
            · rcases List.mem_cons.1 h with h | h
              · exact .inr (.inl ⟨h.trans ea, hl⟩)
              · exact .inr (.inr (.inr h))
        · rename_i e2
          have ha : Nd next.length a := by
            rcases hto with h | h
            · omega
            · exact h
          split
          · rename_i e3
            have hs : ∀ z : Int, 0 ≤ z ∧ z ≤ next.length → gb (out.set a.toNat true) z = if z = a then true else gb out z := fun z hz => gb_set hi.len ⟨ha.1, by have := ha.2; omega⟩ hz
            have hsN : gb (out.set a.toNat true) next.length = gb out next.length := by rw [hs _ ⟨by omega, by omega⟩, if_neg (by have := ha.2; omega)]
            have hsn : ∀ z : Int, Nd next.length z → (gb (out.set a.toNat true) z = true ↔ z = a ∨ gb out z = true) := fun z hz => by
              rw [hs z ⟨hz.1, by have := hz.2; omega⟩]
              split <;> simp_all
            have hgo : Go G but a → Go G but from_ := fun hg => by
              have hst : Go G but y := .on (s := a) (by rw [hG]; exact h1) (by have := ha.1; omega) e hg
              rcases h2 with rfl | h2
              · exact hst
              · exact hi.reach y h2.1 h2.2 hst
            refine ih (t ++ gl next a) _ ?_ ⟨by simp [hi.len], fun s hs => ?_, fun y hy hy' => ?_, fun h => hi.ex (by rw [← hsN]; exact h), fun y hy s hs' => ?_⟩
            · have h5 := uns_pos (N := next.length + 1) hi.len ⟨ha.1, by have := ha.2; omega⟩ e3
              have h6 := (hr a ha).1
              unfold rmu at hm ⊢
              rw [List.length_cons] at hm
              rw [List.length_append]
              omega
            · rcases List.mem_append.1 hs with hs | hs
              · obtain ⟨y, h3, h4⟩ := hsnd s hs
                exact ⟨y, h3, h4.imp id fun h => ⟨h.1, (hsn y h.1).2 (.inr h.2)⟩⟩
              · exact ⟨a, hs, .inr ⟨ha, (hsn a ha).2 (.inl rfl)⟩⟩
            · rcases (hsn y hy).1 hy' with rfl | h
              · exact hgo
              · exact hi.reach y hy h
            · by_cases e4 : y = a
              · exact .inr (.inr (.inr (List.mem_append.2 (.inr (e4 ▸ hs')))))
              · have hy2 : y = from_ ∨ (Nd next.length y ∧ gb out y = true) := hy.imp id fun h => ⟨h.1, ((hsn y h.1).1 h.2).resolve_left e4⟩
                rcases hi.cl y hy2 s hs' with h | h | h | h
                · exact .inl h
                · exact .inr (.inl ⟨h.1, by rw [hsN]; exact h.2⟩)
                · exact .inr (.inr (.inl ⟨h.1, (hsn s h.1).2 (.inr h.2)⟩))
                · rcases List.mem_cons.1 h with h | h
                  · exact .inr (.inr (.inl ⟨h ▸ ha, (hsn s (h ▸ ha)).2 (.inl h)⟩))
                  · exact .inr (.inr (.inr (List.mem_append.2 (.inl h))))
          · rename_i e3
            have e3 : gb out a = true := by simpa using e3
            refine ih t out (by unfold rmu at hm ⊢; rw [List.length_cons] at hm; omega) ⟨hi.len, hsnd, hi.reach, hi.ex, fun y hy s hs => ?_⟩
            rcases hi.cl y hy s hs with h | h | h | h
            · exact .inl h
            · exact .inr (.inl h)
            · exact .inr (.inr (.inl h))
            · rcases List.mem_cons.1 h with h | h
              · exact .inr (.inr (.inl ⟨h ▸ ha, h ▸ e3⟩))
              · exact .inr (.inr (.inr h))
/-- Enough steps. -/
def rfu (N : Nat) : Nat := 3 * (N + 1) + 3
def reachL (next : List (List Int)) (from_ but : Int) : List Bool := rch next but (rfu next.length) (gl next from_) (List.replicate (next.length + 1) false)
theorem reachL_spec {next : List (List Int)} {G : Gr} (hG : G.S = gl next) (hr : ∀ y, Nd next.length y → (gl next y).length ≤ 2 ∧ ∀ t ∈ gl next y, t = -1 ∨ Nd next.length t) {from_ but : Int} (hf : Nd next.length from_) (hb : 0 ≤ but) :
    (reachL next from_ but).length = next.length + 1 ∧ (gb (reachL next from_ but) next.length = true ↔ Go G but from_) := by
  have hg0 : ∀ y : Int, gb (List.replicate (next.length + 1) false) y = false := fun y => by
    unfold gb
    rw [List.getD_eq_getElem?_getD, List.getElem?_replicate]
    split <;> rfl
  have hu : uns (List.replicate (next.length + 1) false) ≤ next.length + 1 := by
    have := List.countP_le_length (p := fun b : Bool => !b) (l := List.replicate (next.length + 1) false)
    rw [List.length_replicate] at this
    exact this
  have h0 : rmu (List.replicate (next.length + 1) false) (gl next from_) < rfu next.length := by
    have := (hr from_ hf).1
    unfold rmu rfu
    omega
  obtain ⟨out', h1, h2⟩ := rch_spec hG hr hf hb (rfu next.length) (gl next from_) (List.replicate (next.length + 1) false) h0
    ⟨by simp, fun s hs => ⟨from_, hs, .inl rfl⟩, fun y hy h => (by rw [hg0] at h; cases h), fun h => (by rw [hg0] at h; cases h), fun y hy s hs => by
      rcases hy with rfl | ⟨_, h⟩
      · exact .inr (.inr (.inr hs))
      · rw [hg0] at h; cases h⟩
  have e : reachL next from_ but = out' := h1
  rw [e]
  refine ⟨h2.len, h2.ex, fun hg => ?_⟩
  have key : ∀ y, Go G but y → (y = from_ ∨ (Nd next.length y ∧ gb out' y = true)) → gb out' next.length = true := by
    intro y hg
    induction hg with
    | @out y hs =>
      intro hy
      rcases h2.cl y hy (-1) (by rw [← hG]; exact hs) with h | h | h | h
      · omega
      · exact h.2
      · have := h.1.1; omega
      · cases h
    | @on y s hs h3 h4 _ ih =>
      intro hy
      rcases h2.cl y hy s (by rw [← hG]; exact hs) with h | h | h | h
      · exact (h4 h).elim
      · exact (h3 h.1).elim
      · exact ih (.inr h)
      · cases h
  exact key from_ hg (.inl rfl)
/-- Does one fence a statement? -/
def fB (next : List (List Int)) (a x : Int) : Bool := decide (a < 0 ∨ a = x) || !gb (reachL next x a) next.length
theorem fB_spec {next : List (List Int)} {G : Gr} (hG : G.S = gl next) (hr : ∀ y, Nd next.length y → (gl next y).length ≤ 2 ∧ ∀ t ∈ gl next y, t = -1 ∨ Nd next.length t) {x a : Int} (hx : Nd next.length x) (ha : a = -1 ∨ 0 ≤ a) : fB next a x = true ↔ Fe G a x := by
  unfold fB Fe
  by_cases h : a < 0 ∨ a = x
  · simp only [h, decide_true, Bool.true_or, true_iff]
    rcases h with h | h
    · exact .inl (by omega)
    · exact .inr (.inl h)
  · have hp := (reachL_spec hG hr hx (show 0 ≤ a by omega)).2
    simp only [h, decide_false, Bool.false_or, Bool.not_eq_true']
    rw [← hp]
    have h1 : a ≠ -1 := by omega
    have h2 : a ≠ x := fun e => h (.inr e)
    have h3 : x ≠ -1 := by have := hx.1; omega
    simp [h1, h2, h3]
/-- The first one that all others fence. -/
def nxB (next : List (List Int)) (x a : Int) : Bool := decide (a ≠ x) && fB next a x && (List.range next.length).all fun b => decide ((b : Int) = x ∨ (b : Int) = a) || !fB next b x || fB next b a
def nxR (next : List (List Int)) (x : Int) : Int := match (List.range next.length).find? (fun a : Nat => nxB next x a) with | some a => a | none => -1
/-- What is told of a graph's ways on. -/
structure Wel (next : List (List Int)) : Prop where
  to : ∀ l ∈ next, ∀ t ∈ l, t = -1 ∨ Nd next.length t
  two : ∀ l ∈ next, l.length ≤ 2
  rx : ∀ x, Nd next.length x → Rx next x
theorem gl_mem {next : List (List Int)} {y : Int} (hy : Nd next.length y) : gl next y ∈ next := by
  unfold gl
  rw [List.getD_eq_getElem?_getD, List.getElem?_eq_getElem (show y.toNat < next.length by have := hy.1; have := hy.2; omega)]
  exact List.getElem_mem _
section
variable {next : List (List Int)} (W : Wel next)
include W
theorem Wel.hr : ∀ y, Nd next.length y → (gl next y).length ≤ 2 ∧ ∀ t ∈ gl next y, t = -1 ∨ Nd next.length t := fun y hy => ⟨W.two _ (gl_mem hy), W.to _ (gl_mem hy)⟩
theorem Wel.fen : FenS next (fenL next) := fenL_spec W.to W.rx
theorem Wel.fB {x a : Int} (hx : Nd next.length x) (ha : a = -1 ∨ 0 ≤ a) : fB next a x = true ↔ An (gr next) (gi (fenL next)) x a := by
  rw [W.fen.an x a hx]
  exact fB_spec (G := gr next) rfl W.hr hx ha
theorem Wel.nd {x a : Int} (hx : x = -1 ∨ Nd next.length x) (h : An (gr next) (gi (fenL next)) x a) : a = -1 ∨ Nd next.length a := by
  induction h with
  | rf => exact hx
  | up hn _ ih => exact ih ((W.fen.i1 _ hn).imp id fun h => h.1)
theorem Wel.lt {x a : Int} (h : An (gr next) (gi (fenL next)) x a) (ha : a ≠ -1) : a = x ∨ gi (ordO next) a < gi (ordO next) x := by
  induction h with
  | rf => exact .inl rfl
  | @up x a hn h ih =>
    rcases (W.fen.i1 _ hn) with e | e
    · rw [e] at h; exact (ha h.exit).elim
    · rcases ih ha with e1 | e1
      · rw [e1]; exact .inr e.2
      · exact .inr (by have := e.2; omega)
theorem Wel.anti {x a : Int} (h : An (gr next) (gi (fenL next)) x a) (k : An (gr next) (gi (fenL next)) a x) : x = a := by
  by_cases e : a = -1
  · subst e; exact k.exit
  · by_cases e2 : x = -1
    · subst e2; exact h.exit.symm
    · rcases W.lt h e with h1 | h1
      · exact h1.symm
      · rcases W.lt k e2 with h2 | h2
        · exact h2
        · omega
/-- The document's next fence. -/
theorem Wel.nxR {x : Int} (hx : Nd next.length x) : nxR next x = gi (fenL next) x := by
  have B : ∀ a : Int, Nd next.length a → (nxB next x a = true ↔ a ≠ x ∧ An (gr next) (gi (fenL next)) x a ∧ ∀ b, Nd next.length b → b ≠ x → b ≠ a → An (gr next) (gi (fenL next)) x b → An (gr next) (gi (fenL next)) a b) := fun a ha => by
    unfold nxB
    rw [Bool.and_eq_true, Bool.and_eq_true, decide_eq_true_eq, W.fB hx (.inr ha.1), List.all_eq_true, and_assoc]
    refine and_congr Iff.rfl (and_congr Iff.rfl ⟨fun h b hb h1 h2 h3 => ?_, fun h b hb => ?_⟩)
    · have h4 := h b.toNat (List.mem_range.2 (by have := hb.1; have := hb.2; omega))
      rw [show ((b.toNat : Nat) : Int) = b by have := hb.1; omega] at h4
      rw [Bool.or_eq_true, Bool.or_eq_true, decide_eq_true_eq, Bool.not_eq_true', Bool.eq_false_iff] at h4
      rcases h4 with (h4 | h4) | h4
      · rcases h4 with h4 | h4
        · exact (h1 h4).elim
        · exact (h2 h4).elim
      · exact (h4 ((W.fB hx (.inr hb.1)).2 h3)).elim
      · exact (W.fB ha (.inr hb.1)).1 h4
    · have hb : Nd next.length b := ⟨by omega, by have := List.mem_range.1 hb; omega⟩
      rw [Bool.or_eq_true, Bool.or_eq_true, decide_eq_true_eq, Bool.not_eq_true', Bool.eq_false_iff]
      by_cases h1 : (b : Int) = x
      · exact .inl (.inl (.inl h1))
      · by_cases h2 : (b : Int) = a
        · exact .inl (.inl (.inr h2))
        · by_cases h3 : An (gr next) (gi (fenL next)) x b
          · exact .inr ((W.fB ha (.inr hb.1)).2 (h b hb h1 h2 h3))
          · exact .inl (.inr fun h4 => h3 ((W.fB hx (.inr hb.1)).1 h4))
  have hne : ∀ {a : Int}, An (gr next) (gi (fenL next)) x a → a ≠ x → An (gr next) (gi (fenL next)) (gi (fenL next) x) a := fun h hn => by
    cases h with
    | rf => exact (hn rfl).elim
    | up _ h => exact h
  have i1 := W.fen.i1 x hx
  unfold Fn.nxR
  split
  · rename_i a hf
    have ha : Nd next.length (a : Int) := by
      have := List.mem_range.1 (List.mem_of_find?_eq_some hf)
      exact ⟨by omega, by omega⟩
    obtain ⟨h1, h2, h3⟩ := (B a ha).1 (by have := List.find?_some hf; exact this)
    have h4 := hne h2 h1
    rcases i1 with e | ⟨e, e'⟩
    · rw [e] at h4
      have := h4.exit
      have := ha.1
      omega
    · by_cases h5 : gi (fenL next) x = a
      · exact h5.symm
      · exact (W.anti h4 (h3 _ e (fun h => by rw [h] at e'; omega) h5 (.up hx (.rf _)))).symm
  · rename_i hf
    rcases i1 with e | ⟨e, e'⟩
    · exact e.symm
    · have := List.find?_eq_none.1 hf (gi (fenL next) x).toNat (List.mem_range.2 (by have := e.1; have := e.2; omega))
      rw [show (((gi (fenL next) x).toNat : Nat) : Int) = gi (fenL next) x by have := e.1; omega] at this
      exact (this ((B _ e).2 ⟨fun h => by rw [h] at e'; omega, .up hx (.rf _), fun b _ h1 _ h3 => hne h3 h1⟩)).elim
end
/-- A chain of next fences, up to the exit. -/
def chn (nx : List Int) : Nat → Int → List Int
  | 0, x => [x]
  | n + 1, x => if x = -1 then [x] else x :: chn nx n (gi nx x)
def rkL (next : List (List Int)) (x : Int) : Nat := if x = -1 then 0 else (gi (ordO next) x).toNat + 1
def chL (next : List (List Int)) (x : Int) : List Int := chn (fenL next) (rkL next x) x
section
variable {next : List (List Int)} (W : Wel next)
include W
theorem Wel.rk {x : Int} (hx : Nd next.length x) : rkL next (gi (fenL next) x) < rkL next x ∧ rkL next x ≤ next.length := by
  have h0 := (gr_ok W.to W.rx).o0 x hx
  have h0 : 0 ≤ gi (ordO next) x ∧ gi (ordO next) x < next.length := h0
  have hx1 : x ≠ -1 := by have := hx.1; omega
  unfold rkL
  rw [if_neg hx1]
  refine ⟨?_, by omega⟩
  split
  · omega
  · rename_i e
    have h1 := (W.fen.i1 x hx).resolve_left e
    have h2 : 0 ≤ gi (ordO next) (gi (fenL next) x) := ((gr_ok W.to W.rx).o0 _ h1.1).1
    have := h1.2
    omega
theorem Wel.chn_more : ∀ (n m : Nat) (x : Int), (x = -1 ∨ Nd next.length x) → rkL next x ≤ n → rkL next x ≤ m → chn (fenL next) n x = chn (fenL next) m x := by
  intro n
  induction n with
  | zero =>
    intro m x hx hn _
    have e : x = -1 := by
      unfold rkL at hn
      split at hn
      · assumption
      · omega
    subst e
    cases m <;> simp [chn]
  | succ n ih =>
    intro m x hx hn hm
    by_cases e : x = -1
    · subst e
      cases m <;> simp [chn]
    · have h1 := hx.resolve_left e
      have h2 := (W.rk h1).1
      cases m with
      | zero => unfold rkL at hm; rw [if_neg e] at hm; omega
      | succ m =>
        unfold chn
        rw [if_neg e, if_neg e, ih m _ ((W.fen.i1 x h1).imp id fun h => h.1) (by omega) (by omega)]
theorem Wel.ch_step {x : Int} (hx : Nd next.length x) : chL next x = x :: chL next (gi (fenL next) x) := by
  have e : x ≠ -1 := by have := hx.1; omega
  have h := (W.rk hx).1
  obtain ⟨r, hr⟩ : ∃ r, rkL next x = r + 1 := ⟨(gi (ordO next) x).toNat, by unfold rkL; rw [if_neg e]⟩
  unfold chL
  rw [hr]
  conv => lhs; unfold chn
  rw [if_neg e, W.chn_more r (rkL next (gi (fenL next) x)) _ ((W.fen.i1 x hx).imp id fun h => h.1) (by omega) (Nat.le_refl _)]
omit W in
theorem ch_exit : chL next (-1) = [-1] := rfl
theorem Wel.ind {p : Int → Prop} (h0 : p (-1)) (h : ∀ x, Nd next.length x → p (gi (fenL next) x) → p x) : ∀ x, (x = -1 ∨ Nd next.length x) → p x := by
  have : ∀ (n : Nat) x, (x = -1 ∨ Nd next.length x) → rkL next x ≤ n → p x := by
    intro n
    induction n with
    | zero =>
      intro x hx hn
      rcases hx with rfl | hx
      · exact h0
      · unfold rkL at hn
        rw [if_neg (by have := hx.1; omega)] at hn
        omega
    | succ n ih =>
      intro x hx hn
      rcases hx with rfl | hx
      · exact h0
      · exact h x hx (ih _ ((W.fen.i1 x hx).imp id fun h => h.1) (by have := (W.rk hx).1; omega))
  exact fun x hx => this _ x hx (Nat.le_refl _)
theorem Wel.ch_mem : ∀ x, (x = -1 ∨ Nd next.length x) → ∀ a, a ∈ chL next x ↔ An (gr next) (gi (fenL next)) x a := by
  refine W.ind (fun a => ?_) fun x hx ih a => ?_
  · rw [ch_exit, List.mem_singleton]
    exact ⟨fun h => h ▸ .rf _, fun h => h.exit⟩
  · rw [W.ch_step hx, List.mem_cons, ih]
    constructor
    · rintro (rfl | h)
      · exact .rf _
      · exact .up hx h
    · intro h
      cases h with
      | rf => exact .inl rfl
      | up _ h => exact .inr h
theorem Wel.ch_nodup : ∀ x, (x = -1 ∨ Nd next.length x) → (chL next x).Nodup := by
  refine W.ind (by simp [ch_exit]) fun x hx ih => ?_
  rw [W.ch_step hx, List.nodup_cons]
  refine ⟨fun h => ?_, ih⟩
  have i1 := W.fen.i1 x hx
  have h := (W.ch_mem _ (i1.imp id fun h => h.1) x).1 h
  have e : x ≠ -1 := by have := hx.1; omega
  rcases W.lt h e with h1 | h1
  · rcases i1 with h2 | h2
    · exact e (h1.trans h2)
    · rw [← h1] at h2; omega
  · rcases i1 with h2 | h2
    · rw [h2] at h; exact e h.exit
    · omega
theorem Wel.ch_last : ∀ x, (x = -1 ∨ Nd next.length x) → (chL next x).getLast? = some (-1) := by
  refine W.ind (by simp [ch_exit]) fun x hx ih => ?_
  rw [W.ch_step hx, List.getLast?_cons, ih]; rfl
theorem Wel.ch_len : ∀ x, Nd next.length x → 2 ≤ (chL next x).length := by
  intro x hx
  rw [W.ch_step hx, List.length_cons]
  have : chL next (gi (fenL next) x) ≠ [] := fun e => by
    have := W.ch_last _ ((W.fen.i1 x hx).imp id fun h => h.1)
    rw [e] at this; cases this
  have := List.length_pos_iff.2 this
  omega
/-- Each one of a chain but the first is the next fence of the one ahead. -/
theorem Wel.ch_next : ∀ x, (x = -1 ∨ Nd next.length x) → ∀ (i : Nat) (a b : Int), (chL next x)[i]? = some a → (chL next x)[i + 1]? = some b → Nd next.length a ∧ b = gi (fenL next) a := by
  refine W.ind (fun i a b _ h => ?_) fun x hx ih i a b h1 h2 => ?_
  · rw [ch_exit] at h; cases i <;> simp at h
  · rw [W.ch_step hx] at h1 h2
    cases i with
    | zero =>
      simp at h1
      subst h1
      have hn := (W.fen.i1 x hx).imp id fun h => h.1
      rcases hn with e | e
      · rw [e, ch_exit] at h2; simp at h2; exact ⟨hx, by omega⟩
      · rw [W.ch_step e] at h2; simp at h2; exact ⟨hx, h2.symm⟩
    | succ i => exact ih i a b (by simpa using h1) (by simpa using h2)
/-- What fences one of a chain is the chain from there on. -/
theorem Wel.ch_drop : ∀ x, (x = -1 ∨ Nd next.length x) → ∀ (i : Nat) (a : Int), (chL next x)[i]? = some a → chL next a = (chL next x).drop i := by
  refine W.ind (fun i a h => ?_) fun x hx ih i a h => ?_
  · rw [ch_exit] at h ⊢
    cases i with
    | zero => simp at h; subst h; rfl
    | succ i => simp at h
  · cases i with
    | zero => rw [W.ch_step hx] at h; simp at h; subst h; rfl
    | succ i =>
      rw [W.ch_step hx] at h ⊢
      rw [List.drop_succ_cons]
      exact ih i a (by simpa using h)
end
end Go.Proofs.Ytkllhfajldnpoaa.Fn
namespace Go.Proofs.Ytkllhfajldnpoaa.Fn
open Sy (St PS)
set_option linter.unusedVariables false
def gs (st : List St) (x : Int) : St := st.getD x.toNat { k := 0 }
/-- Where a statement stands. -/
structure Pl where
  l : List Int
  p : Int
  inn : Int
  lp : Int
def gp (pl : List Pl) (x : Int) : Pl := pl.getD x.toNat ⟨[], 0, 0, 0⟩
def inner (st : List St) (x lp : Int) : Int := if (gs st x).k = 6 then x else lp
def layR (st : List St) (rec_ : List Pl → List Int → Int → Int → List Pl) (l : List Int) (inn lp : Int) : Nat → List Int → List Pl → List Pl
  | _, [], out => out
  | i, x :: r, out => layR st rec_ l inn lp (i + 1) r (rec_ (rec_ (out.set x.toNat ⟨l, i, inn, lp⟩) (gs st x).th x (inner st x lp)) (gs st x).el x (inner st x lp))
def lay (st : List St) : Nat → List Pl → List Int → Int → Int → List Pl
  | 0, out, _, _, _ => out
  | n + 1, out, l, inn, lp => layR st (lay st n) l inn lp 0 l out
def plac (st : List St) (bo : List (List Int)) : List Pl := bo.foldl (fun out l => lay st st.length out l (-1) (-1)) (List.replicate st.length ⟨[], 0, 0, 0⟩)
def beh (st : List St) (pl : List Pl) : Nat → Int → Int
  | 0, _ => -1
  | n + 1, x => if (gp pl x).p + 1 < (gp pl x).l.length then (gp pl x).l.getD ((gp pl x).p + 1).toNat (-2) else if (gp pl x).inn < 0 then -1 else if (gs st (gp pl x).inn).k = 6 then (gp pl x).inn else beh st pl n (gp pl x).inn
def behL (st : List St) (pl : List Pl) (x : Int) : Int := beh st pl st.length x
/-- A list's first one; of an empty one another. -/
def hd (l : List Int) (b : Int) : Int := match l with | [] => b | x :: _ => x
def wayL (st : List St) (pl : List Pl) (x : Int) : List Int :=
  if (gs st x).k = 5 then [hd (gs st x).th (behL st pl x), hd (gs st x).el (behL st pl x)]
  else if (gs st x).k = 6 then [hd (gs st x).th x, behL st pl x]
  else if (gs st x).k = 7 then [behL st pl (gp pl x).lp]
  else if (gs st x).k = 8 then [(gp pl x).lp]
  else if (gs st x).k = 9 then [-1]
  else [behL st pl x]
/-- One is in the other one's lists. -/
def Ch (st : List St) (y x : Int) : Prop := x ∈ (gs st y).th ++ (gs st y).el
inductive Ds (st : List St) : Int → Int → Prop
  | rf (x) : Ds st x x
  | dn {x y z} : Ch st x y → Ds st y z → Ds st x z
/-- Programs. -/
structure Tre (st : List St) (bo : List (List Int)) : Prop where
  ch : ∀ y x, Nd st.length y → Ch st y x → 0 ≤ x ∧ x < y
  bd : ∀ l ∈ bo, ∀ x ∈ l, Nd st.length x
  one : ∀ k : Nat, k < st.length → (st.flatMap fun s => s.th ++ s.el).count (k : Int) + (List.flatMap id bo).count (k : Int) = 1
inductive Pos (st : List St) (bo : List (List Int)) : Int → Pl → Prop
  | top {l : List Int} {p : Nat} {x : Int} : l ∈ bo → l[p]? = some x → Pos st bo x ⟨l, p, -1, -1⟩
  | th {y : Int} {q : Pl} {p : Nat} {x : Int} : Nd st.length y → Pos st bo y q → (gs st y).th[p]? = some x → Pos st bo x ⟨(gs st y).th, p, y, inner st y q.lp⟩
  | el {y : Int} {q : Pl} {p : Nat} {x : Int} : Nd st.length y → Pos st bo y q → (gs st y).el[p]? = some x → Pos st bo x ⟨(gs st y).el, p, y, inner st y q.lp⟩
section
variable {st : List St} {bo : List (List Int)}
theorem Ds.trans {x y z : Int} (h : Ds st x y) (k : Ds st y z) : Ds st x z := by
  induction h with
  | rf => exact k
  | dn h _ ih => exact .dn h (ih k)
theorem gs_mem {y : Int} (hy : Nd st.length y) : st[y.toNat]? = some (gs st y) := by
  unfold gs
  have h : y.toNat < st.length := by have := hy.1; have := hy.2; omega
  rw [List.getD_eq_getElem?_getD, List.getElem?_eq_getElem h]; rfl
theorem Tre.nd (T : Tre st bo) {y x : Int} (hy : Nd st.length y) (h : Ch st y x) : Nd st.length x := by
  have := T.ch y x hy h
  have := hy.2
  exact ⟨by omega, by omega⟩
theorem Tre.ds (T : Tre st bo) {y x : Int} (hy : Nd st.length y) (h : Ds st y x) : Nd st.length x ∧ x ≤ y := by
  induction h with
  | rf => exact ⟨hy, Int.le_refl _⟩
  | dn h _ ih =>
    have h1 := T.ch _ _ hy h
    obtain ⟨h2, h3⟩ := ih (T.nd hy h)
    exact ⟨h2, by omega⟩
theorem gp_set {N : Nat} {out : List Pl} {x y : Int} {q : Pl} (hl : out.length = N) (hx : Nd N x) (hy : Nd N y) : gp (out.set x.toNat q) y = if y = x then q else gp out y := getD_set hl hx hy
/-- What laying a list does. -/
def LayS (st : List St) (bo : List (List Int)) (n : Nat) (rec_ : List Pl → List Int → Int → Int → List Pl) : Prop :=
  ∀ out l inn lp, out.length = st.length → (∀ x ∈ l, Nd st.length x ∧ x < n) → (∀ (p : Nat) x, l[p]? = some x → Pos st bo x ⟨l, p, inn, lp⟩) →
    (rec_ out l inn lp).length = st.length ∧ (∀ z, Nd st.length z → Pos st bo z (gp out z) → Pos st bo z (gp (rec_ out l inn lp) z)) ∧ (∀ x ∈ l, ∀ z, Ds st x z → Pos st bo z (gp (rec_ out l inn lp) z))
theorem layS (T : Tre st bo) : ∀ n, LayS st bo n (lay st n) := by
  intro n
  induction n with
  | zero =>
    intro out l inn lp ho hl _
    refine ⟨ho, fun z _ h => h, fun x hx z _ => ?_⟩
    have h1 := (hl x hx).2
    have h2 := (hl x hx).1.1
    omega
  | succ n ih =>
    intro out l inn lp ho hl hp
    show (layR st (lay st n) l inn lp 0 l out).length = _ ∧ _
    have key : ∀ (r : List Int) (i : Nat) (out : List Pl), l.drop i = r → out.length = st.length →
        (layR st (lay st n) l inn lp i r out).length = st.length ∧ (∀ z, Nd st.length z → Pos st bo z (gp out z) → Pos st bo z (gp (layR st (lay st n) l inn lp i r out) z)) ∧
        (∀ x ∈ r, ∀ z, Ds st x z → Pos st bo z (gp (layR st (lay st n) l inn lp i r out) z)) := by
      intro r
      induction r with
      | nil => intro i out _ ho; exact ⟨ho, fun z _ h => h, fun x hx => by cases hx⟩
      | cons x r ihr =>
        intro i out hd ho
        have hi : i < l.length := by
          rcases Nat.lt_or_ge i l.length with h | h
          · exact h
          · rw [List.drop_eq_nil_of_le h] at hd; cases hd
        have e := List.drop_eq_getElem_cons hi
        rw [hd] at e
        obtain ⟨e1, e2⟩ := List.cons.inj e
        have hxi : l[i]? = some x := by rw [List.getElem?_eq_getElem hi, e1]
        obtain ⟨hx, hxn⟩ := hl x (List.mem_of_getElem? hxi)
        have hpx := hp i x hxi
        have hc : ∀ y, Ch st x y → Nd st.length y ∧ y < n := fun y hy => ⟨T.nd hx hy, by have := T.ch x y hx hy; omega⟩
        have ho1 : (out.set x.toNat ⟨l, i, inn, lp⟩).length = st.length := by simp [ho]
        obtain ⟨a1, a2, a3⟩ := ih (out.set x.toNat ⟨l, i, inn, lp⟩) (gs st x).th x (inner st x lp) ho1 (fun y hy => hc y (List.mem_append.2 (.inl hy))) (fun p y h => .th hx hpx h)
        obtain ⟨b1, b2, b3⟩ := ih _ (gs st x).el x (inner st x lp) a1 (fun y hy => hc y (List.mem_append.2 (.inr hy))) (fun p y h => .el hx hpx h)
        obtain ⟨c1, c2, c3⟩ := ihr (i + 1) _ e2.symm b1
        unfold layR
        have s0 : ∀ z, Nd st.length z → Pos st bo z (gp out z) → Pos st bo z (gp (out.set x.toNat ⟨l, i, inn, lp⟩) z) := fun z hz h => by
          rw [gp_set ho hx hz]
          split
          · rename_i e; rw [e]; exact hpx
          · exact h
        refine ⟨c1, fun z hz h => c2 z hz (b2 z hz (a2 z hz (s0 z hz h))), fun y hy z hyz => ?_⟩
        rcases List.mem_cons.1 hy with rfl | hy
        · have hz := (T.ds hx hyz).1
          refine c2 z hz ?_
          cases hyz with
          | rf => exact b2 _ hx (a2 _ hx (by rw [gp_set ho hx hx, if_pos rfl]; exact hpx))
          | dn h1 h2 =>
            rcases List.mem_append.1 h1 with h1 | h1
            · exact b2 z hz (a3 _ h1 z h2)
            · exact b3 _ h1 z h2
        · exact c3 y hy z hyz
    exact key l 0 out rfl ho
theorem mem_own {x : Int} : (∃ y, Nd st.length y ∧ Ch st y x) ↔ x ∈ st.flatMap fun s => s.th ++ s.el := by
  rw [List.mem_flatMap]
  constructor
  · rintro ⟨y, hy, h⟩
    exact ⟨gs st y, List.mem_of_getElem? (gs_mem hy), h⟩
  · rintro ⟨s, hs, h⟩
    obtain ⟨i, hi⟩ := List.getElem?_of_mem hs
    have hl : i < st.length := by
      rcases Nat.lt_or_ge i st.length with h | h
      · exact h
      · rw [List.getElem?_eq_none h] at hi; cases hi
    refine ⟨(i : Int), ⟨by omega, by omega⟩, ?_⟩
    unfold Ch gs
    rw [List.getD_eq_getElem?_getD, show (i : Int).toNat = i by omega, hi]
    exact h
theorem Tre.cover (T : Tre st bo) : ∀ z, Nd st.length z → ∃ l ∈ bo, ∃ x ∈ l, Ds st x z := by
  have : ∀ (n : Nat) z, Nd st.length z → st.length - z.toNat ≤ n → ∃ l ∈ bo, ∃ x ∈ l, Ds st x z := by
    intro n
    induction n with
    | zero => intro z hz h; have := hz.1; have := hz.2; omega
    | succ n ih =>
      intro z hz h
      have h1 := T.one z.toNat (by have := hz.1; have := hz.2; omega)
      rw [show ((z.toNat : Nat) : Int) = z by have := hz.1; omega] at h1
      by_cases e : z ∈ st.flatMap fun s => s.th ++ s.el
      · obtain ⟨y, hy, hc⟩ := mem_own.2 e
        have := T.ch y z hy hc
        obtain ⟨l, hl, x, hx, hd⟩ := ih y hy (by have := hz.1; have := hy.2; omega)
        exact ⟨l, hl, x, hx, hd.trans (.dn hc (.rf _))⟩
      · rw [List.count_eq_zero_of_not_mem e] at h1
        have : z ∈ bo.flatMap id := List.count_pos_iff.1 (by omega)
        obtain ⟨l, hl, hz⟩ := List.mem_flatMap.1 this
        exact ⟨l, hl, z, hz, .rf _⟩
  exact fun z hz => this _ z hz (Nat.le_refl _)
theorem plac_spec (T : Tre st bo) : (plac st bo).length = st.length ∧ ∀ z, Nd st.length z → Pos st bo z (gp (plac st bo) z) := by
  have key : ∀ (r : List (List Int)) (out : List Pl), (∀ l ∈ r, l ∈ bo) → out.length = st.length →
      (r.foldl (fun out l => lay st st.length out l (-1) (-1)) out).length = st.length ∧ (∀ z, Nd st.length z → Pos st bo z (gp out z) → Pos st bo z (gp (r.foldl (fun out l => lay st st.length out l (-1) (-1)) out) z)) ∧
      ∀ l ∈ r, ∀ x ∈ l, ∀ z, Ds st x z → Pos st bo z (gp (r.foldl (fun out l => lay st st.length out l (-1) (-1)) out) z) := by
    intro r
    induction r with
    | nil => intro out _ ho; exact ⟨ho, fun z _ h => h, fun l hl => by cases hl⟩
    | cons l r ih =>
      intro out hr ho
      have hl := hr l List.mem_cons_self
      obtain ⟨a1, a2, a3⟩ := layS T st.length out l (-1) (-1) ho (fun x hx => ⟨T.bd l hl x hx, (T.bd l hl x hx).2⟩) (fun p x h => .top hl h)
      obtain ⟨b1, b2, b3⟩ := ih _ (fun l hl => hr l (List.mem_cons_of_mem _ hl)) a1
      rw [List.foldl_cons]
      refine ⟨b1, fun z hz h => b2 z hz (a2 z hz h), fun m hm x hx z hz => ?_⟩
      rcases List.mem_cons.1 hm with rfl | hm
      · exact b2 z (T.ds (T.bd _ hl x hx) hz).1 (a3 x hx z hz)
      · exact b3 m hm x hx z hz
  obtain ⟨h1, _, h3⟩ := key bo (List.replicate st.length ⟨[], 0, 0, 0⟩) (fun _ h => h) (by simp)
  refine ⟨h1, fun z hz => ?_⟩
  obtain ⟨l, hl, x, hx, hd⟩ := T.cover z hz
  exact h3 l hl x hx z hd
/-- What a place is. -/
structure PosS (st : List St) (bo : List (List Int)) (x : Int) (q : Pl) : Prop where
  at_ : 0 ≤ q.p ∧ q.l[q.p.toNat]? = some x
  inn : (q.inn = -1 ∧ q.lp = -1 ∧ q.l ∈ bo) ∨ (Nd st.length q.inn ∧ x < q.inn ∧ (q.l = (gs st q.inn).th ∨ q.l = (gs st q.inn).el))
  lp : q.lp = -1 ∨ (Nd st.length q.lp ∧ x < q.lp ∧ (gs st q.lp).k = 6)
theorem Pos.s (T : Tre st bo) {x : Int} {q : Pl} (h : Pos st bo x q) : PosS st bo x q := by
  induction h with
  | top hl hp => exact ⟨⟨by simp, by simpa using hp⟩, .inl ⟨rfl, rfl, hl⟩, .inl rfl⟩
  | @th y q p x hy hq hp ih =>
    have hc := T.ch y x hy (List.mem_append.2 (.inl (List.mem_of_getElem? hp)))
    refine ⟨⟨by simp, by simpa using hp⟩, .inr ⟨hy, hc.2, .inl rfl⟩, ?_⟩
    show inner st y q.lp = -1 ∨ (Nd st.length (inner st y q.lp) ∧ x < inner st y q.lp ∧ (gs st (inner st y q.lp)).k = 6)
    unfold inner
    split
    · rename_i e; exact .inr ⟨hy, hc.2, e⟩
    · exact ih.lp.imp id fun h => ⟨h.1, by have := h.2.1; omega, h.2.2⟩
  | @el y q p x hy hq hp ih =>
    have hc := T.ch y x hy (List.mem_append.2 (.inr (List.mem_of_getElem? hp)))
    refine ⟨⟨by simp, by simpa using hp⟩, .inr ⟨hy, hc.2, .inr rfl⟩, ?_⟩
    show inner st y q.lp = -1 ∨ (Nd st.length (inner st y q.lp) ∧ x < inner st y q.lp ∧ (gs st (inner st y q.lp)).k = 6)
    unfold inner
    split
    · rename_i e; exact .inr ⟨hy, hc.2, e⟩
    · exact ih.lp.imp id fun h => ⟨h.1, by have := h.2.1; omega, h.2.2⟩
theorem Tre.lt (T : Tre st bo) {y x : Int} (hy : Nd st.length y) (h : x ∈ (gs st y).th ∨ x ∈ (gs st y).el) : x < y := (T.ch y x hy (List.mem_append.2 h)).2
theorem PosS.up (T : Tre st bo) {x : Int} {q : Pl} (h : PosS st bo x q) : q.inn < 0 ∨ (Nd st.length q.inn ∧ x < q.inn) := by
  rcases h.inn with h | h
  · exact .inl (by omega)
  · exact .inr ⟨h.1, h.2.1⟩
theorem beh_eq (T : Tre st bo) {pl : List Pl} (hp : ∀ z, Nd st.length z → Pos st bo z (gp pl z)) : ∀ (n m : Nat) (x : Int), Nd st.length x → st.length - x.toNat ≤ n → st.length - x.toNat ≤ m → beh st pl n x = beh st pl m x := by
  intro n
  induction n with
  | zero => intro m x hx h1; have := hx.1; have := hx.2; omega
  | succ n ih =>
    intro m x hx h1 h2
    cases m with
    | zero => have := hx.1; have := hx.2; omega
    | succ m =>
      unfold beh
      split
      · rfl
      split
      · rfl
      split
      · rfl
      · rename_i h3 h4
        rcases (hp x hx).s T |>.up T with h5 | h5
        · exact absurd h5 h3
        · have := hx.1
          exact ih m _ h5.1 (by omega) (by omega)
/-- What comes behind, without fuel. -/
theorem behL_step (T : Tre st bo) {pl : List Pl} (hp : ∀ z, Nd st.length z → Pos st bo z (gp pl z)) {x : Int} (hx : Nd st.length x) :
    behL st pl x = if (gp pl x).p + 1 < (gp pl x).l.length then (gp pl x).l.getD ((gp pl x).p + 1).toNat (-2) else if (gp pl x).inn < 0 then -1 else if (gs st (gp pl x).inn).k = 6 then (gp pl x).inn else behL st pl (gp pl x).inn := by
  unfold behL
  obtain ⟨n, e⟩ : ∃ n, st.length = n + 1 := ⟨st.length - 1, by have := hx.1; have := hx.2; omega⟩
  conv => lhs; rw [e]; unfold beh
  split
  · rfl
  split
  · rfl
  split
  · rfl
  · rename_i h3 h4
    rcases (hp x hx).s T |>.up T with h5 | h5
    · exact absurd h5 h3
    · have := hx.1
      exact beh_eq T hp _ _ _ h5.1 (by omega) (by omega)
end
end Go.Proofs.Ytkllhfajldnpoaa.Fn
namespace Go.Proofs.Ytkllhfajldnpoaa.Fn
open Sy (St PS)
open Ck (Jk gt)
set_option linter.unusedVariables false
section
variable {st : List St} {bo : List (List Int)}
theorem Tre.mem (T : Tre st bo) {z : Int} (h : z ∈ (st.flatMap fun s => s.th ++ s.el) ++ bo.flatMap id) : Nd st.length z := by
  rcases List.mem_append.1 h with h | h
  · obtain ⟨y, hy, hc⟩ := mem_own.2 h
    exact T.nd hy hc
  · obtain ⟨l, hl, hz⟩ := List.mem_flatMap.1 h
    exact T.bd l hl z hz
theorem Tre.nodup (T : Tre st bo) : ((st.flatMap fun s => s.th ++ s.el) ++ bo.flatMap id).Nodup := by
  rw [List.nodup_iff_count]
  intro z
  by_cases h : z ∈ (st.flatMap fun s => s.th ++ s.el) ++ bo.flatMap id
  · have hz := T.mem h
    have := T.one z.toNat (by have := hz.1; have := hz.2; omega)
    rw [show ((z.toNat : Nat) : Int) = z by have := hz.1; omega] at this
    rw [List.count_append]; omega
  · rw [List.count_eq_zero_of_not_mem h]; omega
theorem idx_inj {l : List Int} (h : l.Nodup) {p p' : Nat} {x : Int} (h1 : l[p]? = some x) (h2 : l[p']? = some x) : p = p' :=
  (List.getElem?_inj (List.getElem?_eq_some_iff.1 h1).1 h).1 (h1.trans h2.symm)
theorem Tre.par (T : Tre st bo) {y y' x : Int} (hy : Nd st.length y) (hy' : Nd st.length y') (h : Ch st y x) (h' : Ch st y' x) : y = y' := by
  have N := (List.pairwise_flatMap.1 (List.nodup_append.1 T.nodup).1).2
  have key : ∀ {y y' : Int}, Nd st.length y → Nd st.length y' → Ch st y x → Ch st y' x → ¬ y < y' := by
    intro y y' hy hy' h h' hlt
    have l1 : y.toNat < st.length := by have := hy.1; have := hy.2; omega
    have l2 : y'.toNat < st.length := by have := hy'.1; have := hy'.2; omega
    have := List.pairwise_iff_getElem.1 N y.toNat y'.toNat l1 l2 (by have := hy.1; omega) x (by
      have e := gs_mem hy
      rw [List.getElem?_eq_getElem l1] at e
      rw [Option.some.inj e]; exact h) x (by
      have e := gs_mem hy'
      rw [List.getElem?_eq_getElem l2] at e
      rw [Option.some.inj e]; exact h')
    exact this rfl
  have a := key hy hy' h h'
  have b := key hy' hy h' h
  omega
theorem Tre.each (T : Tre st bo) {y : Int} (hy : Nd st.length y) : ((gs st y).th ++ (gs st y).el).Nodup :=
  (List.pairwise_flatMap.1 (List.nodup_append.1 T.nodup).1).1 _ (List.mem_of_getElem? (gs_mem hy))
theorem Tre.top (T : Tre st bo) {x y : Int} {l : List Int} (hl : l ∈ bo) (hx : x ∈ l) (hy : Nd st.length y) (hc : Ch st y x) : False :=
  (List.nodup_append.1 T.nodup).2.2 x (mem_own.1 ⟨y, hy, hc⟩) x (List.mem_flatMap.2 ⟨l, hl, hx⟩) rfl
theorem Tre.bos (T : Tre st bo) {x : Int} {l l' : List Int} (hl : l ∈ bo) (hl' : l' ∈ bo) (hx : x ∈ l) (hx' : x ∈ l') : l = l' := by
  have N := (List.pairwise_flatMap.1 (List.nodup_append.1 T.nodup).2.1).2
  obtain ⟨i, hi⟩ := List.getElem?_of_mem hl
  obtain ⟨j, hj⟩ := List.getElem?_of_mem hl'
  obtain ⟨l1, e1⟩ := List.getElem?_eq_some_iff.1 hi
  obtain ⟨l2, e2⟩ := List.getElem?_eq_some_iff.1 hj
  rcases Nat.lt_trichotomy i j with h | h | h
  · exact (List.pairwise_iff_getElem.1 N i j l1 l2 h x (by rw [e1]; exact hx) x (by rw [e2]; exact hx') rfl).elim
  · subst h; rw [← e1, e2]
  · exact (List.pairwise_iff_getElem.1 N j i l2 l1 h x (by rw [e2]; exact hx') x (by rw [e1]; exact hx) rfl).elim
theorem Tre.bod (T : Tre st bo) {l : List Int} (hl : l ∈ bo) : l.Nodup := (List.pairwise_flatMap.1 (List.nodup_append.1 T.nodup).2.1).1 _ hl
/-- A statement stands at one place. -/
theorem Pos.uniq (T : Tre st bo) {x : Int} {q q' : Pl} (h : Pos st bo x q) (h' : Pos st bo x q') : q = q' := by
  induction h generalizing q' with
  | top hl hp =>
    cases h' with
    | top hl' hp' =>
      have e := T.bos hl hl' (List.mem_of_getElem? hp) (List.mem_of_getElem? hp')
      subst e
      have e := idx_inj (T.bod hl) hp hp'
      subst e
      rfl
    | th hy hq hp' => exact (T.top hl (List.mem_of_getElem? hp) hy (List.mem_append.2 (.inl (List.mem_of_getElem? hp')))).elim
    | el hy hq hp' => exact (T.top hl (List.mem_of_getElem? hp) hy (List.mem_append.2 (.inr (List.mem_of_getElem? hp')))).elim
  | th hy hq hp ih =>
    have hc := List.mem_of_getElem? hp
    cases h' with
    | top hl' hp' => exact (T.top hl' (List.mem_of_getElem? hp') hy (List.mem_append.2 (.inl hc))).elim
    | th hy' hq' hp' =>
      have e := T.par hy hy' (List.mem_append.2 (.inl hc)) (List.mem_append.2 (.inl (List.mem_of_getElem? hp')))
      subst e
      have e := ih hq'
      subst e
      have e := idx_inj (List.nodup_append.1 (T.each hy)).1 hp hp'
      subst e
      rfl
    | el hy' hq' hp' =>
      have e := T.par hy hy' (List.mem_append.2 (.inl hc)) (List.mem_append.2 (.inr (List.mem_of_getElem? hp')))
      subst e
      exact ((List.nodup_append.1 (T.each hy)).2.2 _ hc _ (List.mem_of_getElem? hp') rfl).elim
  | el hy hq hp ih =>
    have hc := List.mem_of_getElem? hp
    cases h' with
    | top hl' hp' => exact (T.top hl' (List.mem_of_getElem? hp') hy (List.mem_append.2 (.inr hc))).elim
    | th hy' hq' hp' =>
      have e := T.par hy hy' (List.mem_append.2 (.inr hc)) (List.mem_append.2 (.inl (List.mem_of_getElem? hp')))
      subst e
      exact ((List.nodup_append.1 (T.each hy)).2.2 _ (List.mem_of_getElem? hp') _ hc rfl).elim
    | el hy' hq' hp' =>
      have e := T.par hy hy' (List.mem_append.2 (.inr hc)) (List.mem_append.2 (.inr (List.mem_of_getElem? hp')))
      subst e
      have e := ih hq'
      subst e
      have e := idx_inj (List.nodup_append.1 (T.each hy)).2.1 hp hp'
      subst e
      rfl
end
/-- What is asked of a program, of where its statements stand, of their ways on. -/
structure Wy (st : List St) (bo : List (List Int)) (pl : List Pl) (next : List (List Int)) : Prop where
  T : Tre st bo
  pos : ∀ z, Nd st.length z → Pos st bo z (gp pl z)
  len : next.length = st.length
  way : ∀ x, Nd st.length x → gl next x = wayL st pl x
  th0 : ∀ x, Nd st.length x → (gs st x).k ≠ 5 → (gs st x).k ≠ 6 → (gs st x).th = []
  el0 : ∀ x, Nd st.length x → (gs st x).k ≠ 5 → (gs st x).el = []
  jk : ∀ x q, Nd st.length x → Pos st bo x q → (gs st x).k = 7 ∨ (gs st x).k = 8 → q.lp ≠ -1
def Ld (next : List (List Int)) (x : Int) : Prop := x = -1 ∨ Rx next x
/-- What comes behind a list. -/
def eb (st : List St) (pl : List Pl) (inn : Int) : Int := if inn < 0 then -1 else if (gs st inn).k = 6 then inn else behL st pl inn
section
variable {st : List St} {bo : List (List Int)} {pl : List Pl} {next : List (List Int)} (W : Wy st bo pl next)
include W
theorem Wy.gp {x : Int} {q : Pl} (hx : Nd st.length x) (h : Pos st bo x q) : gp pl x = q := (W.pos x hx).uniq W.T h
theorem Wy.beh {x : Int} (hx : Nd st.length x) : behL st pl x = if (Fn.gp pl x).p + 1 < (Fn.gp pl x).l.length then (Fn.gp pl x).l.getD ((Fn.gp pl x).p + 1).toNat (-2) else eb st pl (Fn.gp pl x).inn := behL_step W.T W.pos hx
omit W in
theorem rx_of {x s : Int} (hs : s ∈ gl next x) (h : Ld next s) : Rx next x := by
  rcases h with rfl | h
  · exact .out hs
  · by_cases e : s = -1
    · subst e; exact .out hs
    · exact .on hs e h
omit W in
theorem hd_or (l : List Int) (b : Int) : (l = [] ∧ hd l b = b) ∨ hd l b ∈ l := by
  cases l with
  | nil => exact .inl ⟨rfl, rfl⟩
  | cons x r => exact .inr List.mem_cons_self
/-- From what is behind a statement, and its while, the statement leads to the exit. -/
def LdP (st : List St) (bo : List (List Int)) (pl : List Pl) (next : List (List Int)) (x : Int) : Prop := ∀ q, Pos st bo x q → Ld next (behL st pl x) → (q.lp ≠ -1 → Ld next q.lp ∧ Ld next (behL st pl q.lp)) → Rx next x
theorem Wy.list {l : List Int} {inn lp : Int} (hl : ∀ x ∈ l, Nd st.length x) (hp : ∀ (p : Nat) x, l[p]? = some x → Pos st bo x ⟨l, p, inn, lp⟩) (he : Ld next (eb st pl inn)) (hlp : lp ≠ -1 → Ld next lp ∧ Ld next (behL st pl lp)) (hP : ∀ x ∈ l, LdP st bo pl next x) :
    ∀ (n p : Nat) (x : Int), l.length - p ≤ n → l[p]? = some x → Ld next (behL st pl x) ∧ Rx next x := by
  intro n
  induction n with
  | zero => intro p x hn hx; have := (List.getElem?_eq_some_iff.1 hx).1; omega
  | succ n ih =>
    intro p x hn hx
    have hm := List.mem_of_getElem? hx
    have hq := hp p x hx
    have hb : Ld next (behL st pl x) := by
      rw [W.beh (hl x hm), W.gp (hl x hm) hq]
      simp only
      split
      · rename_i h
        have h' : p + 1 < l.length := by omega
        rw [List.getD_eq_getElem?_getD, show ((p : Int) + 1).toNat = p + 1 by omega, List.getElem?_eq_getElem h']
        exact .inr (ih (p + 1) l[p + 1] (by omega) (List.getElem?_eq_getElem h')).2
      · exact he
    exact ⟨hb, hP x hm _ hq hb hlp⟩
theorem Wy.ldp : ∀ (n : Nat) (x : Int), Nd st.length x → x < n → LdP st bo pl next x := by
  intro n
  induction n with
  | zero => intro x hx h; have := hx.1; omega
  | succ n ih =>
    intro x hx hn q hq hb hlp
    have ew := W.way x hx
    unfold wayL at ew
    by_cases h5 : (gs st x).k = 5
    · rw [if_pos h5] at ew
      rcases hd_or (gs st x).th (behL st pl x) with ⟨e, e2⟩ | e
      · exact rx_of (s := behL st pl x) (by rw [ew, e2]; exact List.mem_cons_self) hb
      · obtain ⟨p, hp⟩ := List.getElem?_of_mem e
        have hc : ∀ z ∈ (gs st x).th, Nd st.length z ∧ z < x := fun z hz => ⟨W.T.nd hx (List.mem_append.2 (.inl hz)), W.T.lt hx (.inl hz)⟩
        have ei : inner st x q.lp = q.lp := by unfold inner; rw [if_neg (by omega)]
        have := W.list (l := (gs st x).th) (inn := x) (lp := q.lp) (fun z hz => (hc z hz).1) (fun p z hz => by have := Pos.th hx hq hz; rw [ei] at this; exact this)
          (by unfold eb; rw [if_neg (by have := hx.1; omega), if_neg (by omega)]; exact hb) hlp (fun z hz => ih z (hc z hz).1 (by have := (hc z hz).2; omega)) _ p _ (Nat.le_refl _) hp
        exact rx_of (by rw [ew]; exact List.mem_cons_self) (.inr this.2)
    rw [if_neg h5] at ew
    by_cases h6 : (gs st x).k = 6
    · rw [if_pos h6] at ew
      exact rx_of (s := behL st pl x) (by rw [ew]; simp) hb
    rw [if_neg h6] at ew
    by_cases h7 : (gs st x).k = 7
    · rw [if_pos h7, W.gp hx hq] at ew
      exact rx_of (s := behL st pl q.lp) (by rw [ew]; simp) (hlp (W.jk x q hx hq (.inl h7))).2
    rw [if_neg h7] at ew
    by_cases h8 : (gs st x).k = 8
    · rw [if_pos h8, W.gp hx hq] at ew
      exact rx_of (s := q.lp) (by rw [ew]; simp) (hlp (W.jk x q hx hq (.inr h8))).1
    rw [if_neg h8] at ew
    by_cases h9 : (gs st x).k = 9
    · rw [if_pos h9] at ew
      exact .out (by rw [ew]; simp)
    rw [if_neg h9] at ew
    exact rx_of (s := behL st pl x) (by rw [ew]; simp) hb
theorem Wy.lead {x : Int} {q : Pl} (h : Pos st bo x q) : Nd st.length x ∧ (Ld next (behL st pl x) ∧ Rx next x) ∧ (q.lp ≠ -1 → Ld next q.lp ∧ Ld next (behL st pl q.lp)) := by
  have P : ∀ z, Nd st.length z → LdP st bo pl next z := fun z hz => W.ldp st.length z hz hz.2
  induction h with
  | @top l p x hl hp =>
    have hx := W.T.bd l hl x (List.mem_of_getElem? hp)
    exact ⟨hx, W.list (inn := -1) (lp := -1) (fun z hz => W.T.bd l hl z hz) (fun p z hz => .top hl hz) (.inl (by unfold eb; rw [if_pos (by omega)])) (fun h => (h rfl).elim) (fun z hz => P z (W.T.bd l hl z hz)) _ p x (Nat.le_refl _) hp, fun h => (h rfl).elim⟩
  | @th y q p x hy hq hp ih =>
    obtain ⟨_, ⟨i1, i2⟩, i3⟩ := ih
    have hc : ∀ z ∈ (gs st y).th, Nd st.length z := fun z hz => W.T.nd hy (List.mem_append.2 (.inl hz))
    have hl : inner st y q.lp ≠ -1 → Ld next (inner st y q.lp) ∧ Ld next (behL st pl (inner st y q.lp)) := by
      unfold inner
      split
      · exact fun _ => ⟨.inr i2, i1⟩
      · exact i3
    exact ⟨hc x (List.mem_of_getElem? hp), W.list hc (fun p z hz => .th hy hq hz) (by unfold eb; rw [if_neg (by have := hy.1; omega)]; split; exact .inr i2; exact i1) hl (fun z hz => P z (hc z hz)) _ p x (Nat.le_refl _) hp, hl⟩
  | @el y q p x hy hq hp ih =>
    obtain ⟨_, ⟨i1, i2⟩, i3⟩ := ih
    have hc : ∀ z ∈ (gs st y).el, Nd st.length z := fun z hz => W.T.nd hy (List.mem_append.2 (.inr hz))
    have hl : inner st y q.lp ≠ -1 → Ld next (inner st y q.lp) ∧ Ld next (behL st pl (inner st y q.lp)) := by
      unfold inner
      split
      · exact fun _ => ⟨.inr i2, i1⟩
      · exact i3
    exact ⟨hc x (List.mem_of_getElem? hp), W.list hc (fun p z hz => .el hy hq hz) (by unfold eb; rw [if_neg (by have := hy.1; omega)]; split; exact .inr i2; exact i1) hl (fun z hz => P z (hc z hz)) _ p x (Nat.le_refl _) hp, hl⟩
/-- What comes behind is a statement, or the exit. -/
theorem Wy.bnd : ∀ (n : Nat) (x : Int), Nd st.length x → st.length - x.toNat ≤ n → behL st pl x = -1 ∨ Nd st.length (behL st pl x) := by
  intro n
  induction n with
  | zero => intro x hx hn; have := hx.1; have := hx.2; omega
  | succ n ih =>
    intro x hx hn
    have hs := (W.pos x hx).s W.T
    rw [W.beh hx]
    split
    · rename_i h
      have h' : ((Fn.gp pl x).p + 1).toNat < (Fn.gp pl x).l.length := by have := hs.at_.1; omega
      rw [List.getD_eq_getElem?_getD, List.getElem?_eq_getElem h']
      have hm : (Fn.gp pl x).l[((Fn.gp pl x).p + 1).toNat] ∈ (Fn.gp pl x).l := List.getElem_mem _
      right
      show Nd st.length (Fn.gp pl x).l[((Fn.gp pl x).p + 1).toNat]
      rcases hs.inn with ⟨_, _, e⟩ | ⟨e1, _, e | e⟩
      · exact W.T.bd _ e _ hm
      · exact W.T.nd e1 (List.mem_append.2 (.inl (by rw [← e]; exact hm)))
      · exact W.T.nd e1 (List.mem_append.2 (.inr (by rw [← e]; exact hm)))
    · unfold eb
      split
      · exact .inl rfl
      · rename_i h2
        rcases hs.up W.T with e | ⟨e1, e2⟩
        · exact absurd e h2
        · split
          · exact .inr e1
          · exact ih _ e1 (by have := hx.1; omega)
theorem Wy.to {x t : Int} (hx : Nd st.length x) (ht : t ∈ gl next x) : t = -1 ∨ Nd st.length t := by
  have B : ∀ z, Nd st.length z → behL st pl z = -1 ∨ Nd st.length (behL st pl z) := fun z hz => W.bnd _ z hz (Nat.le_refl _)
  have H : ∀ (l : List Int) (b : Int), (∀ z ∈ l, Nd st.length z) → (b = -1 ∨ Nd st.length b) → hd l b = -1 ∨ Nd st.length (hd l b) := fun l b h1 h2 => by
    rcases hd_or l b with ⟨_, e⟩ | e
    · rw [e]; exact h2
    · exact .inr (h1 _ e)
  have hth : ∀ z ∈ (gs st x).th, Nd st.length z := fun z hz => W.T.nd hx (List.mem_append.2 (.inl hz))
  have hel : ∀ z ∈ (gs st x).el, Nd st.length z := fun z hz => W.T.nd hx (List.mem_append.2 (.inr hz))
  have hlp : (gs st x).k = 7 ∨ (gs st x).k = 8 → Nd st.length (Fn.gp pl x).lp := fun hk => by
    rcases ((W.pos x hx).s W.T).lp with e | e
    · exact absurd e (W.jk x _ hx (W.pos x hx) hk)
    · exact e.1
  rw [W.way x hx] at ht
  unfold wayL at ht
  split at ht
  · rcases List.mem_cons.1 ht with rfl | ht
    · exact H _ _ hth (B x hx)
    · rw [List.mem_singleton.1 ht]; exact H _ _ hel (B x hx)
  split at ht
  · rcases List.mem_cons.1 ht with rfl | ht
    · exact H _ _ hth (.inr hx)
    · rw [List.mem_singleton.1 ht]; exact B x hx
  split at ht
  · rename_i h7
    rw [List.mem_singleton.1 ht]; exact B _ (hlp (.inl h7))
  split at ht
  · rename_i h8
    rw [List.mem_singleton.1 ht]; exact .inr (hlp (.inr h8))
  split at ht
  · rw [List.mem_singleton.1 ht]; exact .inl rfl
  · rw [List.mem_singleton.1 ht]; exact B x hx
theorem Wy.wel : Wel next := by
  have hg : ∀ l ∈ next, ∃ x, Nd st.length x ∧ gl next x = l := fun l hl => by
    obtain ⟨i, hi⟩ := List.getElem?_of_mem hl
    have hlt := (List.getElem?_eq_some_iff.1 hi).1
    refine ⟨(i : Int), ⟨by omega, by rw [← W.len]; omega⟩, ?_⟩
    unfold gl
    rw [List.getD_eq_getElem?_getD, show (i : Int).toNat = i by omega, hi]; rfl
  refine ⟨fun l hl t ht => ?_, fun l hl => ?_, fun x hx => ?_⟩
  · obtain ⟨x, hx, rfl⟩ := hg l hl
    rw [W.len]; exact W.to hx ht
  · obtain ⟨x, hx, rfl⟩ := hg l hl
    rw [W.way x hx]
    unfold wayL
    split
    · exact Nat.le_refl _
    split
    · exact Nat.le_refl _
    split
    · exact Nat.le_succ _
    split
    · exact Nat.le_succ _
    split
    · exact Nat.le_succ _
    · exact Nat.le_succ _
  · rw [W.len] at hx; exact (W.lead (W.pos x hx)).2.1.2
end
end Go.Proofs.Ytkllhfajldnpoaa.Fn
namespace Go.Proofs.Ytkllhfajldnpoaa.Fn
open Sy (St PS)
open Ck (Jk gt)
set_option linter.unusedVariables false
section
variable {st : List St} {bo : List (List Int)}
theorem Ds.last {x z : Int} (h : Ds st x z) : x = z ∨ ∃ y, Ds st x y ∧ Ch st y z := by
  induction h with
  | rf => exact .inl rfl
  | @dn x y z h1 h2 ih =>
    right
    rcases ih with e | ⟨u, h3, h4⟩
    · subst e; exact ⟨x, .rf _, h1⟩
    · exact ⟨u, .dn h1 h3, h4⟩
/-- Of two of a statement's parts none has what the other one has. -/
theorem Tre.apart (T : Tre st bo) {x h h' : Int} (hx : Nd st.length x) (hh : Ch st x h) (hh' : Ch st x h') : ∀ (n : Nat) (a : Int), Nd st.length a → st.length - a.toNat ≤ n → Ds st h a → Ds st h' a → h = h' := by
  have up : ∀ {u v : Int}, Ch st x u → Ch st x v → Ds st v x → False := fun hu hv hd => by
    have h1 := T.ch _ _ hx hv
    have := (T.ds (T.nd hx hv) hd).2
    omega
  intro n
  induction n with
  | zero => intro a ha hn; have := ha.1; have := ha.2; omega
  | succ n ih =>
    intro a ha hn d d'
    rcases d.last with e | ⟨y, h1, h2⟩
    · rcases d'.last with e' | ⟨y', h1', h2'⟩
      · rw [e, e']
      · subst e
        have hy' := (T.ds (T.nd hx hh') h1').1
        have e := T.par hx hy' hh h2'
        subst e
        exact (up hh hh' h1').elim
    · have hy := (T.ds (T.nd hx hh) h1).1
      rcases d'.last with e' | ⟨y', h1', h2'⟩
      · subst e'
        have e := T.par hx hy hh' h2
        subst e
        exact (up hh' hh h1).elim
      · have hy' := (T.ds (T.nd hx hh') h1').1
        have e := T.par hy hy' h2 h2'
        subst e
        have h3 := T.ch _ _ hy h2
        exact ih _ hy (by have := ha.1; omega) h1 h1'
end
/-- What stands in a list, and what is in that. -/
def Dn (st : List St) (m : List Int) (z : Int) : Prop := ∃ h ∈ m, Ds st h z
/-- What is kept of one: it stands there, and what is behind it, and its while. -/
structure Cl (st : List St) (bo : List (List Int)) (pl : List Pl) (m : List Int) (z : Int) : Prop where
  d : Dn st m z
  b : behL st pl z = -1 ∨ Dn st m (behL st pl z)
  l : ∀ q, Pos st bo z q → q.lp = -1 ∨ Dn st m q.lp
section
variable {st : List St} {bo : List (List Int)} {pl : List Pl} {next : List (List Int)} (W : Wy st bo pl next)
include W
/-- What is behind a list's one. -/
theorem Wy.sib {l : List Int} {p : Nat} {inn lp z : Int} (hz : Nd st.length z) (h : Pos st bo z ⟨l, p, inn, lp⟩) : (behL st pl z ∈ l) ∨ behL st pl z = eb st pl inn := by
  rw [W.beh hz, W.gp hz h]
  simp only
  split
  · rename_i h1
    left
    rw [List.getD_eq_getElem?_getD, List.getElem?_eq_getElem (show ((p : Int) + 1).toNat < l.length by omega)]
    exact List.getElem_mem _
  · exact .inr rfl
theorem Wy.cl_ch {m : List Int} {y z : Int} (hy : Nd st.length y) (h : Cl st bo pl m y) (hc : Ch st y z) : Cl st bo pl m z := by
  have hz := W.T.nd hy hc
  have hD : ∀ u, Ch st y u → Dn st m u := fun u hu => by
    obtain ⟨a, ha, d⟩ := h.d
    exact ⟨a, ha, d.trans (.dn hu (.rf _))⟩
  have hq := W.pos y hy
  have he : eb st pl y = -1 ∨ Dn st m (eb st pl y) := by
    unfold eb
    rw [if_neg (by have := hy.1; omega)]
    split
    · exact .inr h.d
    · exact h.b
  have hi : inner st y (Fn.gp pl y).lp = -1 ∨ Dn st m (inner st y (Fn.gp pl y).lp) := by
    unfold inner
    split
    · exact .inr h.d
    · exact h.l _ hq
  rcases List.mem_append.1 hc with hc | hc
  · obtain ⟨p, hp⟩ := List.getElem?_of_mem hc
    have hP := Pos.th hy hq hp
    refine ⟨hD z (List.mem_append.2 (.inl hc)), ?_, fun q hq' => by rw [hq'.uniq W.T hP]; exact hi⟩
    rcases W.sib hz hP with e | e
    · exact .inr (hD _ (List.mem_append.2 (.inl e)))
    · rw [e]; exact he
  · obtain ⟨p, hp⟩ := List.getElem?_of_mem hc
    have hP := Pos.el hy hq hp
    refine ⟨hD z (List.mem_append.2 (.inr hc)), ?_, fun q hq' => by rw [hq'.uniq W.T hP]; exact hi⟩
    rcases W.sib hz hP with e | e
    · exact .inr (hD _ (List.mem_append.2 (.inr e)))
    · rw [e]; exact he
theorem Wy.cl {m : List Int} (hm : ∀ h ∈ m, Nd st.length h ∧ Cl st bo pl m h) {z : Int} (hz : Dn st m z) : Nd st.length z ∧ Cl st bo pl m z := by
  obtain ⟨h, hh, d⟩ := hz
  have key : ∀ {u v : Int}, Ds st u v → Nd st.length u → Cl st bo pl m u → Nd st.length v ∧ Cl st bo pl m v := by
    intro u v d
    induction d with
    | rf => exact fun h1 h2 => ⟨h1, h2⟩
    | dn h1 _ ih => exact fun h2 h3 => ih (W.T.nd h2 h1) (W.cl_ch h2 h3 h1)
  exact key d (hm h hh).1 (hm h hh).2
/-- Its ways on lead to what stands there, or to the exit. -/
theorem Wy.cl_way {m : List Int} (hm : ∀ h ∈ m, Nd st.length h ∧ Cl st bo pl m h) {z t : Int} (hz : Dn st m z) (ht : t ∈ gl next z) : t = -1 ∨ Dn st m t := by
  obtain ⟨hz, C⟩ := W.cl hm hz
  have hq := W.pos z hz
  have hD : ∀ u, Ch st z u → Dn st m u := fun u hu => by
    obtain ⟨a, ha, d⟩ := C.d
    exact ⟨a, ha, d.trans (.dn hu (.rf _))⟩
  have H : ∀ (l : List Int) (b : Int), (∀ u ∈ l, Ch st z u) → (b = -1 ∨ Dn st m b) → hd l b = -1 ∨ Dn st m (hd l b) := fun l b h1 h2 => by
    rcases hd_or l b with ⟨_, e⟩ | e
    · rw [e]; exact h2
    · exact .inr (hD _ (h1 _ e))
  have hth : ∀ u ∈ (gs st z).th, Ch st z u := fun u hu => List.mem_append.2 (.inl hu)
  have hel : ∀ u ∈ (gs st z).el, Ch st z u := fun u hu => List.mem_append.2 (.inr hu)
  rw [W.way z hz] at ht
  unfold wayL at ht
  split at ht
  · rcases List.mem_cons.1 ht with rfl | ht
    · exact H _ _ hth C.b
    · rw [List.mem_singleton.1 ht]; exact H _ _ hel C.b
  split at ht
  · rcases List.mem_cons.1 ht with rfl | ht
    · exact H _ _ hth (.inr C.d)
    · rw [List.mem_singleton.1 ht]; exact C.b
  split at ht
  · rename_i h7
    rw [List.mem_singleton.1 ht]
    rcases C.l _ hq with e | e
    · exact absurd e (W.jk z _ hz hq (.inl h7))
    · exact (W.cl hm e).2.b
  split at ht
  · rename_i h8
    rw [List.mem_singleton.1 ht]
    exact C.l _ hq
  split at ht
  · rw [List.mem_singleton.1 ht]; exact .inl rfl
  · rw [List.mem_singleton.1 ht]; exact C.b
theorem Wy.cl_go {m : List Int} (hm : ∀ h ∈ m, Nd st.length h ∧ Cl st bo pl m h) {a z : Int} (ha : ¬ Dn st m a) (hz : Dn st m z) : Go (gr next) a z := by
  have hr := W.wel.rx z (by rw [W.len]; exact (W.cl hm hz).1)
  induction hr with
  | out h => exact .out h
  | on hs h0 _ ih =>
    rcases W.cl_way hm hz hs with e | e
    · exact absurd e h0
    · exact .on hs h0 (fun e2 => ha (e2 ▸ e)) (ih e)
theorem Wy.last {l : List Int} {x : Int} (hl : l ∈ bo) (hx : l.getLast? = some x) : gi (fenL next) x = -1 := by
  have hp : l[l.length - 1]? = some x := by rw [← List.getLast?_eq_getElem?]; exact hx
  have hlen := (List.getElem?_eq_some_iff.1 hp).1
  have hn := W.T.bd l hl x (List.mem_of_getElem? hp)
  have hP : Pos st bo x ⟨l, ((l.length - 1 : Nat) : Int), -1, -1⟩ := .top hl hp
  have hb : behL st pl x = -1 := by
    rw [W.beh hn, W.gp hn hP]
    simp only
    rw [if_neg (by omega)]
    unfold eb
    rw [if_pos (by omega)]
  have F := W.wel.fen
  have hn' : Nd next.length x := by rw [W.len]; exact hn
  rcases F.i1 x hn' with e | ⟨e1, e2⟩
  · exact e
  · exfalso
    have hA : An (gr next) (gi (fenL next)) x (gi (fenL next) x) := .up hn' (.rf _)
    generalize gi (fenL next) x = a at *
    have hax : a ≠ x := fun e => by rw [e] at e2; omega
    rcases (F.an x a hn').1 hA with e | e | ⟨_, hgo⟩
    · have := e1.1; omega
    · exact hax e
    · refine hgo ?_
      have ew := W.way x hn
      have out : -1 ∈ gl next x → Go (gr next) a x := fun h => .out h
      unfold wayL at ew
      rw [hb, W.gp hn hP] at ew
      by_cases h5 : (gs st x).k = 5
      · rw [if_pos h5] at ew
        have part : ∀ m : List Int, (∀ u ∈ m, Ch st x u) → (∀ (p : Nat) u, m[p]? = some u → ∃ lp, Pos st bo u ⟨m, p, x, lp⟩ ∧ lp = -1) → ∀ h ∈ m, Nd st.length h ∧ Cl st bo pl m h := by
          intro m hc hpos h hh
          have hnh := W.T.nd hn (hc h hh)
          obtain ⟨p, hp⟩ := List.getElem?_of_mem hh
          obtain ⟨lp, hP', rfl⟩ := hpos p h hp
          refine ⟨hnh, ⟨h, hh, .rf _⟩, ?_, fun q hq => by rw [hq.uniq W.T hP']; exact .inl rfl⟩
          rcases W.sib hnh hP' with e | e
          · exact .inr ⟨_, e, .rf _⟩
          · left
            rw [e]
            unfold eb
            rw [if_neg (by have := hn.1; omega), if_neg (by omega), hb]
        have ei : inner st x (-1) = -1 := by unfold inner; rw [if_neg (by omega)]
        have pth := part (gs st x).th (fun u hu => List.mem_append.2 (.inl hu)) (fun p u hu => ⟨_, .th hn hP hu, ei⟩)
        have pel := part (gs st x).el (fun u hu => List.mem_append.2 (.inr hu)) (fun p u hu => ⟨_, .el hn hP hu, ei⟩)
        rcases hd_or (gs st x).th (-1) with ⟨_, e⟩ | e
        · exact out (by rw [ew, e]; simp)
        rcases hd_or (gs st x).el (-1) with ⟨_, e'⟩ | e'
        · exact out (by rw [ew, e']; simp)
        have g1 := (pth _ e).1
        have g2 := (pel _ e').1
        by_cases hd1 : Dn st (gs st x).th a
        · have hd2 : ¬ Dn st (gs st x).el a := fun hd2 => by
            obtain ⟨u, hu, d⟩ := hd1
            obtain ⟨v, hv, d'⟩ := hd2
            have := W.T.apart hn (List.mem_append.2 (.inl hu)) (List.mem_append.2 (.inr hv)) _ a (by rw [← W.len]; exact e1) (Nat.le_refl _) d d'
            subst this
            exact (List.nodup_append.1 (W.T.each hn)).2.2 _ hu _ hv rfl
          refine .on (s := hd (gs st x).el (-1)) (by show _ ∈ gl next x; rw [ew]; simp) (by have := g2.1; omega) (fun e => hd2 (by rw [← e]; exact ⟨_, e', .rf _⟩)) (W.cl_go pel hd2 ⟨_, e', .rf _⟩)
        · refine .on (s := hd (gs st x).th (-1)) (by show _ ∈ gl next x; rw [ew]; simp) (by have := g1.1; omega) (fun e2 => hd1 (by rw [← e2]; exact ⟨_, e, .rf _⟩)) (W.cl_go pth hd1 ⟨_, e, .rf _⟩)
      rw [if_neg h5] at ew
      by_cases h6 : (gs st x).k = 6
      · rw [if_pos h6] at ew
        exact out (by rw [ew]; simp)
      rw [if_neg h6] at ew
      by_cases h7 : (gs st x).k = 7
      · exact absurd rfl (W.jk x _ hn hP (.inl h7))
      rw [if_neg h7] at ew
      by_cases h8 : (gs st x).k = 8
      · exact absurd rfl (W.jk x _ hn hP (.inr h8))
      rw [if_neg h8] at ew
      split at ew
      · exact out (by rw [ew]; simp)
      · exact out (by rw [ew]; simp)
end
theorem jk_pos {S : PS} {bo : List (List Int)} (T : Tre S.st bo) (h0 : ∀ x, Nd S.st.length x → (gs S.st x).k ≠ 5 → (gs S.st x).k ≠ 6 → (gs S.st x).th = []) (h1 : ∀ x, Nd S.st.length x → (gs S.st x).k ≠ 5 → (gs S.st x).el = []) (hj : ∀ l ∈ bo, ∀ x ∈ l, Jk S False x) {x : Int} {q : Pl} (h : Pos S.st bo x q) : Jk S (q.lp ≠ -1) x := by
  have mono : ∀ {b c : Prop} {i : Int}, Jk S b i → (b → c) → Jk S c i := by
    intro b c i h hbc
    induction h with
    | mk h1 h2 h3 i2 i3 => exact .mk (fun h => hbc (h1 h)) (fun h j hj => i2 h j hj hbc) (fun h j hj => h3 h j hj)
  induction h with
  | top hl hp => exact mono (hj _ hl _ (List.mem_of_getElem? hp)) False.elim
  | @th y q p x hy hq hp ih =>
    have hm := List.mem_of_getElem? hp
    show Jk S (inner S.st y q.lp ≠ -1) x
    by_cases h5 : (gs S.st y).k = 5
    · unfold inner
      rw [if_neg (by omega)]
      cases ih with
      | mk k1 k2 k3 => exact k2 h5 x (List.mem_append.2 (.inl hm))
    by_cases h6 : (gs S.st y).k = 6
    · unfold inner
      rw [if_pos h6]
      cases ih with
      | mk k1 k2 k3 => exact mono (k3 h6 x hm) fun _ e => by have := hy.1; omega
    · rw [h0 y hy h5 h6] at hm; cases hm
  | @el y q p x hy hq hp ih =>
    have hm := List.mem_of_getElem? hp
    show Jk S (inner S.st y q.lp ≠ -1) x
    by_cases h5 : (gs S.st y).k = 5
    · unfold inner
      rw [if_neg (by omega)]
      cases ih with
      | mk k1 k2 k3 => exact k2 h5 x (List.mem_append.2 (.inr hm))
    · rw [h1 y hy h5] at hm; cases hm
/-- Where the statements of a program stand; their ways on. -/
def plS (S : PS) : List Pl := plac S.st (S.fn.map Sy.Fn.bd)
def nxS (S : PS) : List (List Int) := (List.range S.st.length).map fun x : Nat => wayL S.st (plS S) x
theorem tre_of {S : PS} (W : Sy.Whole S) : Tre S.st (S.fn.map Sy.Fn.bd) := by
  have hg : ∀ y, Nd S.st.length y → S.st[y.toNat]? = some (gs S.st y) := fun y hy => gs_mem hy
  refine ⟨fun y x hy hc => ?_, fun l hl x hx => ?_, fun k hk => ?_⟩
  · obtain ⟨m, z, e, h1, _⟩ := W.st _ _ (hg y hy) x hc
    have := hy.1
    omega
  · obtain ⟨f, hf, rfl⟩ := List.mem_map.1 hl
    obtain ⟨m, y, e, h1, _⟩ := W.fn f hf x hx
    have := (List.getElem?_eq_some_iff.1 h1).1
    exact ⟨by omega, by omega⟩
  · have := W.cn k
    rw [if_pos hk] at this
    rw [List.flatMap_map]
    exact this
theorem wy_of {S : PS} {E : Sy.Env} (W : Sy.Whole S) (F : Sy.Wf E S) (hj : ∀ f ∈ S.fn, ∀ x ∈ f.bd, Jk S False x) : Wy S.st (S.fn.map Sy.Fn.bd) (plS S) (nxS S) := by
  have T := tre_of W
  have hw : ∀ x, Nd S.st.length x → Sy.WfS E S.ex (gs S.st x) := fun x hx => F.st _ (List.mem_of_getElem? (gs_mem hx))
  have h0 : ∀ x, Nd S.st.length x → (gs S.st x).k ≠ 5 → (gs S.st x).k ≠ 6 → (gs S.st x).th = [] := fun x hx h5 h6 => by
    rcases hw x hx with h | h | h | h | h | h | h | h | h
    · exact h.2.2.2.1
    · exact h.2.2.2.1
    · exact h.2.2.2.2.1
    · exact absurd h.1 h5
    · exact absurd h.1 h6
    · exact h.2.1
    · exact h.2.2.1
    · exact h.2.2.1
    · exact h.2.2.2.1
  have h1 : ∀ x, Nd S.st.length x → (gs S.st x).k ≠ 5 → (gs S.st x).el = [] := fun x hx h5 => by
    rcases hw x hx with h | h | h | h | h | h | h | h | h
    · exact h.2.2.2.2
    · exact h.2.2.2.2
    · exact h.2.2.2.2.2
    · exact absurd h.1 h5
    · exact h.2.2
    · exact h.2.2
    · exact h.2.2.2
    · exact h.2.2.2
    · exact h.2.2.2.2
  have hb : ∀ l ∈ S.fn.map Sy.Fn.bd, ∀ x ∈ l, Jk S False x := fun l hl x hx => by
    obtain ⟨f, hf, rfl⟩ := List.mem_map.1 hl
    exact hj f hf x hx
  refine ⟨T, (plac_spec T).2, by unfold nxS; simp, fun x hx => ?_, h0, h1, fun x q hx hq hk => ?_⟩
  · unfold gl nxS
    have hlt : x.toNat < S.st.length := by have := hx.1; have := hx.2; omega
    rw [List.getD_eq_getElem?_getD, List.getElem?_map, List.getElem?_range hlt]
    show wayL S.st (plS S) ((x.toNat : Nat) : Int) = _
    rw [show ((x.toNat : Nat) : Int) = x by have := hx.1; omega]
  · cases jk_pos T h0 h1 hb hq with
    | mk k1 k2 k3 => exact k1 hk
end Go.Proofs.Ytkllhfajldnpoaa.Fn
