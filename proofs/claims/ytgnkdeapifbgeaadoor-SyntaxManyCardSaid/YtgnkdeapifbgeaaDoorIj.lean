/- Many functions, many statements: what their texts are parsed as. No program. -/
import Derived.Test.YtgnkdeapifbgeaaDoorIa
import Derived.Test.YtgnkdeapifbgeaaDoorUa
import Derived.Test.YtgnkdeapifbgeaaDoorGm
namespace Go.Proofs.YtgnkdeapifbgeaaDoor.Sy
open Go
set_option linter.unusedVariables false
set_option maxRecDepth 100000
def wRS : List Int := [114, 101, 116, 117, 114, 110, 59]
def tF (k : Nat) : List Int := rp [102, 117, 110, 99, 32, 102, 40, 41, 32, 123, 32, 125, 10] k
def tR (k : Nat) : List Int := tMain ++ rp wRS k ++ [125]
theorem many_0 : ∀ (j : Fin 4), cod (prs (tF (28 + j.val))) = 0 := by decide +kernel
theorem many_1 : ∀ (j : Fin 4), cod (prs (tF (32 + j.val))) = (if 32 + j.val ≤ 32 then 0 else 5) := by decide +kernel
theorem many_all {j : Nat} (hj : j < 8) : cod (prs (tF (28 + j))) = if 28 + j ≤ 32 then 0 else 5 := by
  rcases Nat.lt_or_ge j 4 with h | h
  · rw [if_pos (by omega)]; exact many_0 ⟨j, h⟩
  · have := many_1 ⟨j - 4, by omega⟩
    simp only [show 32 + (j - 4) = 28 + j by omega] at this
    exact this
theorem rp_comm (x : List Int) : ∀ k, rp x k ++ x = x ++ rp x k := by
  intro k
  induction k with
  | zero => simp [rp]
  | succ k ih =>
    show (rp x k ++ x) ++ x = x ++ (rp x k ++ x)
    rw [ih, List.append_assoc, ih]
theorem rp_succ (x : List Int) (k : Nat) : rp x (k + 1) = x ++ rp x k := rp_comm x k
theorem rp_add (x : List Int) (a : Nat) : ∀ b, rp x (a + b) = rp x a ++ rp x b := by
  intro b
  induction b with
  | zero => simp [rp]
  | succ b ih => show rp x (a + b) ++ x = rp x a ++ (rp x b ++ x); rw [ih, List.append_assoc]
theorem rp_7 (k : Nat) : (rp wRS k).length = 7 * k := by
  induction k with
  | zero => rfl
  | succ k ih => show (rp wRS k ++ wRS).length = _; rw [List.length_append, ih]; show 7 * k + 7 = _; omega
/-- The tokens of the statements. -/
def mid : Nat → Nat → List Tk.T3
  | _, 0 => []
  | a, k + 1 => (3, (a : Int), ((a + 6 : Nat) : Int)) :: (4, ((a + 6 : Nat) : Int), ((a + 7 : Nat) : Int)) :: mid (a + 7) k
theorem als_tok {f a : Nat} {L : List Int} {k : Int} {n m : Nat} (h : Tk.nx L = ⟨true, k, n, m⟩) (hk : k ≠ 0) : Tk.als (f + 1) a L = ((k, ((a + n : Nat) : Int), ((a + n + m : Nat) : Int)) :: (Tk.als f (a + n + m) (L.drop (n + m))).1, (Tk.als f (a + n + m) (L.drop (n + m))).2) := by
  have := Tk.als_more (f := f) (a := a) (L := L) (by rw [h]) (by rw [h]; exact hk)
  rw [this, h]
theorem als_mid : ∀ (k a F : Nat), 2 * k + 3 ≤ F → Tk.als F a (rp wRS k ++ [125]) = (mid a k ++ [(4, ((a + 7 * k : Nat) : Int), ((a + 7 * k + 1 : Nat) : Int)), (0, ((a + 7 * k + 1 : Nat) : Int), ((a + 7 * k + 1 : Nat) : Int))], none) := by
  intro k
  induction k with
  | zero =>
    intro a F hF
    obtain ⟨F, rfl⟩ : ∃ G, F = G + 1 + 1 := ⟨F - 2, by omega⟩
    show Tk.als (F + 1 + 1) a [125] = _
    rw [als_tok (n := 0) (m := 1) (k := 4) (by kernel_rfl) (by decide)]
    show (_ :: (Tk.als (F + 1) (a + 0 + 1) []).1, (Tk.als (F + 1) (a + 0 + 1) []).2) = _
    rw [Tk.als_end (by decide) (by decide)]
    rfl
  | succ k ih =>
    intro a F hF
    obtain ⟨F, rfl⟩ : ∃ G, F = G + 1 + 1 := ⟨F - 2, by omega⟩
    rw [rp_succ, List.append_assoc]
    obtain ⟨Y, hY⟩ : ∃ Y, Y = rp wRS k ++ [125] := ⟨_, rfl⟩
    rw [← hY]
    have h1 : Tk.nx (wRS ++ Y) = ⟨true, 3, 0, 6⟩ := by kernel_rfl
    have h2 : Tk.nx (59 :: Y) = ⟨true, 4, 0, 1⟩ := by kernel_rfl
    rw [als_tok h1 (by decide)]
    show (_ :: (Tk.als (F + 1) (a + 0 + 6) (59 :: Y)).1, (Tk.als (F + 1) (a + 0 + 6) (59 :: Y)).2) = _
    rw [als_tok h2 (by decide)]
    show (_ :: _ :: (Tk.als F (a + 0 + 6 + 0 + 1) Y).1, (Tk.als F (a + 0 + 6 + 0 + 1) Y).2) = _
    rw [show a + 0 + 6 + 0 + 1 = a + 7 by omega, hY, ih (a + 7) F (by omega)]
    simp only [mid, Nat.add_zero, List.cons_append, show a + 7 + 7 * k = a + 7 * (k + 1) by omega]
theorem all_R (k : Nat) (hk : k ≤ 1100) : Tk.allT (tR k) = ([(3, 0, 4), (1, 5, 9), (4, 9, 10), (4, 10, 11), (4, 12, 13)] ++ (mid 13 k ++ [(4, ((13 + 7 * k : Nat) : Int), ((14 + 7 * k : Nat) : Int)), (0, ((14 + 7 * k : Nat) : Int), ((14 + 7 * k : Nat) : Int))]), 0, 0) := by
  have hl : (tR k).length = 14 + 7 * k := by unfold tR; simp only [List.length_append, rp_7]; show 13 + 7 * k + 1 = _; omega
  obtain ⟨F, hF⟩ : ∃ F, F = 14 + 7 * k := ⟨_, rfl⟩
  refine Tk.all_of (f := F + 1 + 1 + 1 + 1 + 1) (by omega) (by omega) ?_
  obtain ⟨Y, hY⟩ : ∃ Y, Y = rp wRS k ++ [125] := ⟨_, rfl⟩
  have e : tR k = tMain ++ Y := by rw [hY]; unfold tR; rw [List.append_assoc]
  have hm := als_mid k 13 F (by omega)
  rw [← hY] at hm
  rw [e]
  have h1 : Tk.nx (tMain ++ Y) = ⟨true, 3, 0, 4⟩ := by kernel_rfl
  have h2 : Tk.nx (tMain.drop 4 ++ Y) = ⟨true, 1, 1, 4⟩ := by kernel_rfl
  have h3 : Tk.nx (tMain.drop 9 ++ Y) = ⟨true, 4, 0, 1⟩ := by kernel_rfl
  have h4 : Tk.nx (tMain.drop 10 ++ Y) = ⟨true, 4, 0, 1⟩ := by kernel_rfl
  have h5 : Tk.nx (tMain.drop 11 ++ Y) = ⟨true, 4, 1, 1⟩ := by kernel_rfl
  have a5 := als_tok (f := F) (a := 11) h5 (by decide)
  have a4 := als_tok (f := F + 1) (a := 10) h4 (by decide)
  have a3 := als_tok (f := F + 1 + 1) (a := 9) h3 (by decide)
  have a2 := als_tok (f := F + 1 + 1 + 1) (a := 4) h2 (by decide)
  have a1 := als_tok (f := F + 1 + 1 + 1 + 1) (a := 0) h1 (by decide)
  have d5 : (tMain.drop 11 ++ Y).drop (1 + 1) = Y := by rfl
  have d4 : (tMain.drop 10 ++ Y).drop (0 + 1) = tMain.drop 11 ++ Y := by rfl
  have d3 : (tMain.drop 9 ++ Y).drop (0 + 1) = tMain.drop 10 ++ Y := by rfl
  have d2 : (tMain.drop 4 ++ Y).drop (1 + 4) = tMain.drop 9 ++ Y := by rfl
  have d1 : (tMain ++ Y).drop (0 + 4) = tMain.drop 4 ++ Y := by rfl
  rw [d5, hm] at a5
  rw [d4, a5] at a4
  rw [d3, a4] at a3
  rw [d2, a3] at a2
  rw [d1, a2] at a1
  rw [a1, show 13 + 7 * k + 1 = 14 + 7 * k by omega]
  rfl
theorem mid_len : ∀ k a, (mid a k).length = 2 * k := by
  intro k
  induction k with
  | zero => intro a; rfl
  | succ k ih => intro a; simp only [mid, List.length_cons, ih]; omega
theorem mid_get : ∀ k a i, i < k → (mid a k)[2 * i]? = some (3, ((a + 7 * i : Nat) : Int), ((a + 7 * i + 6 : Nat) : Int)) ∧ (mid a k)[2 * i + 1]? = some (4, ((a + 7 * i + 6 : Nat) : Int), ((a + 7 * i + 7 : Nat) : Int)) := by
  intro k
  induction k with
  | zero => intro a i h; omega
  | succ k ih =>
    intro a i h
    cases i with
    | zero => exact ⟨rfl, rfl⟩
    | succ i =>
      have := ih (a + 7) i (by omega)
      rw [show a + 7 + 7 * i = a + 7 * (i + 1) by omega] at this
      rw [show 2 * (i + 1) = 2 * i + 1 + 1 by omega]
      simp only [mid, List.getElem?_cons_succ]
      exact this
theorem take_mid {A x C : List Int} {e f : Nat} (hf : f = A.length) (he : e = A.length + x.length) : ((A ++ (x ++ C)).take e).drop f = x := by
  subst hf he
  rw [List.drop_take, List.drop_left' rfl, show A.length + x.length - A.length = x.length by omega, List.take_left' rfl]
/-- The words of the statements. -/
theorem R_wd {k : Nat} (hk : k ≤ 1100) {i : Nat} {s : PS} (hi : i < k) (hs : s.i = 5 + 2 * i) : wd (envOf (tR k)) s = wReturn ∧ wd (envOf (tR k)) (adv s) = wSemi := by
  have hall := all_R k hk
  have hT : ∀ j, (envOf (tR k)).T[5 + j]? = (mid 13 k ++ [(4, ((13 + 7 * k : Nat) : Int), ((14 + 7 * k : Nat) : Int)), (0, ((14 + 7 * k : Nat) : Int), ((14 + 7 * k : Nat) : Int))])[j]? := fun j => by
    show (Tk.allT (tR k)).1[5 + j]? = _
    rw [hall]
    show (_ ++ _)[5 + j]? = _
    rw [List.getElem?_append_right (by simp)]
    congr 1
    show 5 + j - 5 = j
    omega
  obtain ⟨m1, m2⟩ := mid_get k 13 i hi
  have hml := mid_len k 13
  have t1 : (envOf (tR k)).T[5 + 2 * i]? = some (3, ((13 + 7 * i : Nat) : Int), ((13 + 7 * i + 6 : Nat) : Int)) := by rw [hT, List.getElem?_append_left (by omega)]; exact m1
  have t2 : (envOf (tR k)).T[5 + 2 * i + 1]? = some (4, ((13 + 7 * i + 6 : Nat) : Int), ((13 + 7 * i + 7 : Nat) : Int)) := by rw [show 5 + 2 * i + 1 = 5 + (2 * i + 1) by omega, hT, List.getElem?_append_left (by omega)]; exact m2
  have hW : ∀ (j : Nat) (t : Tk.T3), (envOf (tR k)).T[j]? = some t → (envOf (tR k)).W[j]? = some (((tR k).take t.2.2.toNat).drop t.2.1.toNat) := fun j t h => by
    show (List.map (fun t : Tk.T3 => ((tR k).take t.2.2.toNat).drop t.2.1.toNat) (Tk.allT (tR k)).1)[j]? = _
    rw [List.getElem?_map, show (Tk.allT (tR k)).1[j]? = some t from h]; rfl
  have hL : tR k = (tMain ++ rp wRS i) ++ (wReturn ++ (wSemi ++ (rp wRS (k - i - 1) ++ [125]))) := by
    unfold tR
    rw [show rp wRS k = rp wRS i ++ (wRS ++ rp wRS (k - i - 1)) by rw [← rp_succ, ← rp_add]; congr 1; omega]
    simp only [List.append_assoc]
    rfl
  have hL2 : tR k = (tMain ++ rp wRS i ++ wReturn) ++ (wSemi ++ (rp wRS (k - i - 1) ++ [125])) := by rw [hL]; simp only [List.append_assoc]
  have hA : (tMain ++ rp wRS i).length = 13 + 7 * i := by rw [List.length_append, rp_7]; rfl
  constructor
  · unfold wd
    rw [hs, hW _ _ t1]
    simp only [Option.getD_some, Int.toNat_natCast]
    rw [hL]
    exact take_mid hA.symm (by rw [hA]; rfl)
  · unfold wd
    show (envOf (tR k)).W[s.i + 1]?.getD [] = _
    rw [hs, hW _ _ t2]
    simp only [Option.getD_some, Int.toNat_natCast]
    rw [hL2]
    exact take_mid (by rw [List.length_append, hA]; rfl) (by rw [List.length_append, hA]; rfl)
theorem R_end {k : Nat} (hk : k ≤ 1100) {s : PS} (hs : s.i = 5 + 2 * k) : wd (envOf (tR k)) s = wRcur := by
  have hall := all_R k hk
  have hml := mid_len k 13
  have t1 : (Tk.allT (tR k)).1[5 + 2 * k]? = some (4, ((13 + 7 * k : Nat) : Int), ((14 + 7 * k : Nat) : Int)) := by
    rw [hall]
    show (_ ++ _)[5 + 2 * k]? = _
    rw [List.getElem?_append_right (by simp), show 5 + 2 * k - List.length [((3 : Int), (0 : Int), (4 : Int)), (1, 5, 9), (4, 9, 10), (4, 10, 11), (4, 12, 13)] = 2 * k by show 5 + 2 * k - 5 = _; omega, List.getElem?_append_right (by omega), hml, Nat.sub_self]
    rfl
  unfold wd
  rw [hs]
  show (List.map (fun t : Tk.T3 => ((tR k).take t.2.2.toNat).drop t.2.1.toNat) (Tk.allT (tR k)).1)[5 + 2 * k]?.getD [] = _
  rw [List.getElem?_map, t1]
  simp only [Option.map_some, Option.getD_some, Int.toNat_natCast]
  have hL : tR k = (tMain ++ rp wRS k) ++ ([125] ++ []) := by unfold tR; simp
  have hA : (tMain ++ rp wRS k).length = 13 + 7 * k := by rw [List.length_append, rp_7]; rfl
  rw [hL]
  exact take_mid hA.symm (by rw [hA]; show 14 + 7 * k = 13 + 7 * k + 1; omega)
theorem R_stmt {k n : Nat} {d : Int} {s : PS} (h1 : wd (envOf (tR k)) s = wReturn) (h2 : wd (envOf (tR k)) (adv s) = wSemi) : (lv (envOf (tR k)) (n + 1)).stmt d s = add (envOf (tR k)) (hr (envOf (tR k)) s) { k := 9, a := -1 } (adv (adv s)) := by
  show sStmt (envOf (tR k)) (lv (envOf (tR k)) n) d s = _
  unfold sStmt
  rw [h1, h2, if_neg (by decide), if_neg (by decide), if_neg (by decide), if_neg (by decide), if_neg (by decide), if_pos rfl, if_pos rfl]
  unfold endS want
  rw [h2, if_pos rfl]
  rfl
theorem R_stmts {k : Nat} (hk : k ≤ 1100) : ∀ (r n : Nat) (l : List Int) (s : PS), r ≤ k → s.i = 5 + 2 * (k - r) → s.st.length = k - r → r + 2 ≤ n → k - r ≤ 1000 →
    if k ≤ 1000 then ∃ l' t, (lv (envOf (tR k)) n).stmts 1 l s = .ok l' t ∧ t.i = 6 + 2 * k ∧ t.fn = s.fn else ∃ p, (lv (envOf (tR k)) n).stmts 1 l s = .er 5 p := by
  intro r
  induction r with
  | zero =>
    intro n l s hr hi hst hn hm
    obtain ⟨n, rfl⟩ : ∃ m, n = m + 1 := ⟨n - 1, by omega⟩
    rw [if_pos (by omega)]
    refine ⟨l, adv s, ?_, by show s.i + 1 = _; omega, rfl⟩
    show sStmts (envOf (tR k)) (lv (envOf (tR k)) n) 1 l s = _
    unfold sStmts
    rw [if_pos (R_end hk (by omega))]
  | succ r ih =>
    intro n l s hr hi hst hn hm
    obtain ⟨n, rfl⟩ : ∃ m, n = m + 1 + 1 := ⟨n - 2, by omega⟩
    obtain ⟨w1, w2⟩ := R_wd hk (i := k - (r + 1)) (s := s) (by omega) (by omega)
    have e : (lv (envOf (tR k)) (n + 1 + 1)).stmts 1 l s = ((lv (envOf (tR k)) (n + 1)).stmt 1 s).bind fun x s1 => (lv (envOf (tR k)) (n + 1)).stmts 1 (l ++ [x]) s1 := by
      show sStmts (envOf (tR k)) (lv (envOf (tR k)) (n + 1)) 1 l s = _
      unfold sStmts
      rw [if_neg (by rw [w1]; decide)]
    rw [e, R_stmt w1 w2]
    have hs2 : (adv (adv s)).st.length = k - (r + 1) := hst
    rcases Nat.lt_or_ge (k - (r + 1)) 1000 with hlt | hge
    · have ha := (show add (envOf (tR k)) (Sy.hr (envOf (tR k)) s) { k := 9, a := -1 } (adv (adv s)) = _ from if_neg (by rw [hs2]; omega))
      rw [ha, bind_ok]
      exact ih (n + 1) _ _ (by omega) (by show s.i + 1 + 1 = _; omega) (by simp only [List.length_append, List.length_singleton]; omega) (by omega) (by omega)
    · have ha := (show add (envOf (tR k)) (Sy.hr (envOf (tR k)) s) { k := 9, a := -1 } (adv (adv s)) = _ from if_pos (by rw [hs2]; omega))
      rw [if_neg (by omega), ha]
      exact ⟨_, rfl⟩
/-- Many statements. -/
theorem R_prs {k : Nat} (hk : k ≤ 1100) : cod (prs (tR k)) = if k ≤ 1000 then 0 else 5 := by
  have hall := all_R k hk
  have hT : ∀ j, j < 5 → (envOf (tR k)).T[j]? = [((3 : Int), (0 : Int), (4 : Int)), (1, 5, 9), (4, 9, 10), (4, 10, 11), (4, 12, 13)][j]? := fun j hj => by
    show (Tk.allT (tR k)).1[j]? = _
    rw [hall]
    show (_ ++ _)[j]? = _
    rw [List.getElem?_append_left (by simpa using hj)]
  obtain ⟨Y, hY⟩ : ∃ Y, tR k = tMain ++ Y := ⟨rp wRS k ++ [125], by unfold tR; rw [List.append_assoc]⟩
  have hW : ∀ (j : Nat) (t : Tk.T3), (envOf (tR k)).T[j]? = some t → (envOf (tR k)).W[j]? = some (((tMain ++ Y).take t.2.2.toNat).drop t.2.1.toNat) := fun j t h => by
    show (List.map (fun t : Tk.T3 => ((tR k).take t.2.2.toNat).drop t.2.1.toNat) (Tk.allT (tR k)).1)[j]? = _
    rw [List.getElem?_map, show (Tk.allT (tR k)).1[j]? = some t from h, ← hY]; rfl
  have w0 : ∀ s : PS, s.i = 0 → wd (envOf (tR k)) s = wFunc := fun s h => by unfold wd; rw [h, hW 0 _ (hT 0 (by omega))]; rfl
  have w1 : ∀ s : PS, s.i = 1 → kd (envOf (tR k)) s = 1 := fun s h => by unfold kd; rw [h, hT 1 (by omega)]; rfl
  have w2 : ∀ s : PS, s.i = 2 → wd (envOf (tR k)) s = wLpar := fun s h => by unfold wd; rw [h, hW 2 _ (hT 2 (by omega))]; rfl
  have w3 : ∀ s : PS, s.i = 3 → wd (envOf (tR k)) s = wRpar := fun s h => by unfold wd; rw [h, hW 3 _ (hT 3 (by omega))]; rfl
  have w4 : ∀ s : PS, s.i = 4 → wd (envOf (tR k)) s = wLcur := fun s h => by unfold wd; rw [h, hW 4 _ (hT 4 (by omega))]; rfl
  have hl : (tR k).length = 14 + 7 * k := by unfold tR; simp only [List.length_append, rp_7]; show 13 + 7 * k + 1 = _; omega
  have hF : fuel (tR k) = 20 * (114 + 7 * k) := by unfold fuel; rw [hl]; omega
  unfold prs
  rw [if_neg (by rw [hall]; simp)]
  obtain ⟨F, hF2⟩ : ∃ F, fuel (tR k) = F + 1 + 1 := ⟨fuel (tR k) - 2, by omega⟩
  have hst := R_stmts hk k (fuel (tR k)) [] ⟨5, [], [], []⟩ (Nat.le_refl _) (by simp) (by simp) (by omega) (by omega)
  have hfct : fct (envOf (tR k)) (fuel (tR k)) ⟨0, [], [], []⟩ = ((lv (envOf (tR k)) (fuel (tR k))).stmts 1 [] ⟨5, [], [], []⟩).bind fun bd s6 => .ok () { s6 with fn := s6.fn ++ [{ nm := wd (envOf (tR k)) ⟨1, [], [], []⟩, f := hr (envOf (tR k)) ⟨0, [], [], []⟩, e := pe (envOf (tR k)) s6, ps := [], ty := 4, bd := bd }] } := by
    unfold fct
    rw [if_neg (fun e => by have := e.2; simp at this), bind_ok, want, if_pos (w0 _ rfl), bind_ok, knd, if_pos (w1 _ rfl), bind_ok, want, if_pos (w2 _ rfl), bind_ok]
    have hp : prms (envOf (tR k)) (fuel (tR k)) [] (adv (adv (adv ⟨0, [], [], []⟩))) = .ok [] ⟨4, [], [], []⟩ := by
      rw [hF2, prms, if_pos (w3 _ rfl)]; rfl
    rw [hp, bind_ok, if_neg (by rw [w4 _ rfl]; decide), bind_ok]
    unfold block
    rw [if_pos (w4 _ rfl), deep, if_neg (by decide), bind_ok, want, if_pos (w4 _ rfl), bind_ok]
    rfl
  have hkd : ∀ s : PS, s.i = 6 + 2 * k → kd (envOf (tR k)) s = 0 := fun s hs => by
    have hml := mid_len k 13
    unfold kd
    rw [hs]
    have : (Tk.allT (tR k)).1[6 + 2 * k]? = some (0, ((14 + 7 * k : Nat) : Int), ((14 + 7 * k : Nat) : Int)) := by
      rw [hall]
      show (_ ++ _)[6 + 2 * k]? = _
      rw [List.getElem?_append_right (by simp; omega), show 6 + 2 * k - List.length [((3 : Int), (0 : Int), (4 : Int)), (1, 5, 9), (4, 9, 10), (4, 10, 11), (4, 12, 13)] = 2 * k + 1 by show 6 + 2 * k - 5 = _; omega, List.getElem?_append_right (by omega), hml, show 2 * k + 1 - 2 * k = 1 by omega]
      rfl
    show (match (Tk.allT (tR k)).1[6 + 2 * k]? with | some t => t.1 | none => 0) = 0
    rw [this]
  have hgo : fcts (envOf (tR k)) (fuel (tR k)) (fuel (tR k)) ⟨0, [], [], []⟩ = (fct (envOf (tR k)) (fuel (tR k)) ⟨0, [], [], []⟩).bind fun _ s1 => fcts (envOf (tR k)) (fuel (tR k)) (F + 1) s1 := by
    conv => lhs; arg 3; rw [hF2]
    rw [fcts, if_neg (fun e => e.1 rfl)]
  rw [hgo, hfct]
  split at hst
  · rename_i h1000
    obtain ⟨l', t, e, ht, hfn⟩ := hst
    rw [e, bind_ok, bind_ok, fcts, if_pos ⟨by simp, hkd _ ht⟩, if_pos h1000]
    rfl
  · rename_i h1000
    obtain ⟨p, e⟩ := hst
    rw [e, if_neg h1000]
    rfl
end Go.Proofs.YtgnkdeapifbgeaaDoor.Sy
