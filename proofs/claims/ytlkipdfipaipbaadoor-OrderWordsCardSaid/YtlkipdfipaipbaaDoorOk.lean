/- Orders: plain laws. -/
import Derived.Test.YtlkipdfipaipbaaDoorOy
import Derived.Test.YtlkipdfipaipbaaDoorOc
namespace Go.Proofs.YtlkipdfipaipbaaDoor
open Go Go.RowKit Fw Nu
set_option linter.unusedVariables false
namespace Od
theorem rn_all {p : Int → Bool} : ∀ {L : List Int}, Tk.rn p L = L.length → ∀ c ∈ L, p c = true := by
  intro L
  induction L with
  | nil => intro _ c hc; cases hc
  | cons x r ih =>
    intro h c hc
    rw [Tk.rn] at h
    split at h
    · rename_i hx
      rw [List.length_cons] at h
      rcases List.mem_cons.1 hc with rfl | hc
      · exact hx
      · exact ih (by omega) c hc
    · simp at h
theorem nm_chars {L : List Int} (h : nm L = true) : L ≠ [] ∧ ∀ c ∈ L, Tk.eith c = true := by
  unfold nm at h
  simp only [Bool.and_eq_true, beq_iff_eq] at h
  obtain ⟨hcode, hlen, hm⟩ := h
  have hal : Tk.als (L.length + 1) 0 L = ((Tk.allT L).1, none) := by
    unfold Tk.allT at hcode ⊢
    split
    · rename_i h2; rw [if_pos h2] at hcode; simp at hcode
    · rename_i h2
      rw [if_neg h2] at hcode
      split
      · rename_i l hl; exact hl
      · rename_i l p hl
        rw [hl] at hcode
        simp at hcode
  match hts : (Tk.allT L).1, hlen with
  | [t0, t1], _ =>
    rw [hts] at hm hal
    simp only [List.getElem?_cons_zero, Bool.and_eq_true, beq_iff_eq] at hm
    obtain ⟨m1, m2, m3⟩ := hm
    rw [Tk.als] at hal
    split at hal
    · rename_i hok
      split at hal
      · simp at hal
      · rename_i hk
        obtain ⟨l, e, hle⟩ : ∃ l e, Tk.als L.length (0 + (Tk.nx L).n + (Tk.nx L).m) (L.drop ((Tk.nx L).n + (Tk.nx L).m)) = (l, e) := ⟨_, _, rfl⟩
        rw [hle] at hal
        simp only [Prod.mk.injEq, List.cons.injEq] at hal
        obtain ⟨⟨rfl, _⟩, _⟩ := hal
        simp only at m1 m2 m3
        have hn0 : (Tk.nx L).n = 0 := by omega
        have hmL : (Tk.nx L).m = L.length := by omega
        have hsk : Tk.sk false L = 0 := hn0
        have hb : (Tk.nx L).m = (Tk.body L).2.2 := by show (Tk.body (L.drop (Tk.sk false L))).2.2 = _; rw [hsk, List.drop_zero]
        have hk1 : (Tk.body L).2.1 = 1 := by have : (Tk.nx L).k = (Tk.body (L.drop (Tk.sk false L))).2.1 := rfl; rw [hsk, List.drop_zero] at this; rw [← this]; exact m1
        rw [hb] at hmL
        cases L with
        | nil => simp [Tk.body] at hk1
        | cons c r =>
          refine ⟨by simp, ?_⟩
          rw [Tk.body] at hk1 hmL
          split at hk1
          · rename_i hl
            rw [if_pos hl] at hmL
            exact rn_all hmL
          · rename_i hl
            rw [if_neg hl] at hmL
            split at hk1
            · split at hk1
              · simp at hk1
              · simp at hk1
            · split at hk1
              · simp at hk1
              · simp at hk1
    · simp at hal
theorem eith_ok {c : Int} (h : Tk.eith c = true) : sep c = false ∧ c ≠ 91 := by
  simp [Tk.eith, Tk.lett, Tk.digi] at h
  constructor
  · have h1 : ¬ c = 32 := by omega
    have h2 : ¬ c = 9 := by omega
    simp [sep, h1, h2]
  · omega
theorem dc_ok (n : Int) : ∀ c ∈ dc n, sep c = false := fun c hc => by
  have := dc_chars n c hc
  have h1 : ¬ c = 32 := by omega
  have h2 : ¬ c = 9 := by omega
  simp [sep, h1, h2]
theorem wd_ok0 : ∀ i : Nat, i < 20 → (wd ((i : Int) + 1)).length ≤ 7 ∧ wd ((i : Int) + 1) ≠ [] ∧ (wd ((i : Int) + 1)).all (fun c => !sep c) = true := by decide +kernel
theorem wd_ok {k : Int} (hk : 1 ≤ k ∧ k ≤ 20) : (wd k).length ≤ 7 ∧ wd k ≠ [] ∧ ∀ c ∈ wd k, sep c = false := by
  have := wd_ok0 (k - 1).toNat (by omega)
  rw [show (((k - 1).toNat : Nat) : Int) = k - 1 from by omega, Int.sub_add_cancel] at this
  refine ⟨this.1, this.2.1, fun c hc => ?_⟩
  have := List.all_eq_true.1 this.2.2 c hc
  simpa using this
theorem flds_1 {W : List Int} (h : W ≠ []) (hs : ∀ c ∈ W, sep c = false) : flds W = [W] := by
  cases W with
  | nil => exact (h rfl).elim
  | cons c r =>
    unfold flds
    rw [fstep_out [] c r (hs c List.mem_cons_self) (fun x hx => hs x (List.mem_cons_of_mem _ hx))]; rfl
theorem flds_2 {W X : List Int} (h : W ≠ []) (hs : ∀ c ∈ W, sep c = false) (h' : X ≠ []) (hs' : ∀ c ∈ X, sep c = false) : flds (W ++ 32 :: X) = [W, X] := by
  cases W with
  | nil => exact (h rfl).elim
  | cons c r =>
    cases X with
    | nil => exact (h' rfl).elim
    | cons d q =>
      unfold flds
      rw [List.foldl_append, fstep_out [] c r (hs c List.mem_cons_self) (fun x hx => hs x (List.mem_cons_of_mem _ hx)), List.foldl_cons]
      have : fstep ([] ++ [c :: r], true) 32 = ([c :: r], false) := by simp [fstep, sep]
      rw [this, fstep_out [c :: r] d q (hs' d List.mem_cons_self) (fun x hx => hs' x (List.mem_cons_of_mem _ hx))]
      rfl
def tot (o : List (List Int)) : Nat := (o.map List.length).foldr (· + ·) 0
theorem tot_app (a b : List (List Int)) : tot (a ++ b) = tot a + tot b := by
  induction a with
  | nil => simp [tot]
  | cons x r ih =>
    have e : tot (x :: r ++ b) = x.length + tot (r ++ b) := rfl
    have e2 : tot (x :: r) = x.length + tot r := rfl
    rw [e, e2, ih]; omega
theorem fold_tot : ∀ (X : List Int) (st : List (List Int) × Bool) (n : Nat), tot st.1 + st.1.length ≤ n + (if st.2 = true then 1 else 0) →
    tot (X.foldl fstep st).1 + (X.foldl fstep st).1.length ≤ n + X.length + (if (X.foldl fstep st).2 = true then 1 else 0) := by
  intro X
  induction X with
  | nil => intro st n h; exact h
  | cons c X ih =>
    intro st n h
    rw [List.foldl_cons]
    have key : tot (fstep st c).1 + (fstep st c).1.length ≤ (n + 1) + (if (fstep st c).2 = true then 1 else 0) := by
      obtain ⟨o, b⟩ := st
      unfold fstep
      simp only at h ⊢
      by_cases hs : sep c = true
      · rw [if_pos hs]
        simp only [Bool.false_eq_true, if_false]
        split at h <;> omega
      · rw [if_neg hs]
        cases b with
        | false =>
          simp only [Bool.false_eq_true, if_false, if_true] at h ⊢
          rw [tot_app, List.length_append]
          have : tot [[c]] = 1 := rfl
          simp only [List.length_cons, List.length_nil]
          omega
        | true =>
          simp only [if_true] at h ⊢
          rcases List.eq_nil_or_concat o with hnil | ⟨O, q, hq⟩
          · subst hnil
            have : tot [[c]] = 1 := rfl
            simp only [List.getLast?_nil, List.length_cons, List.length_nil]
            omega
          · rw [List.concat_eq_append] at hq
            subst hq
            simp only [List.getLast?_append, List.getLast?_singleton, Option.some_or, List.dropLast_concat]
            rw [tot_app, List.length_append] at h ⊢
            have e1 : tot [q] = q.length := by simp [tot]
            have e2 : tot [q ++ [c]] = q.length + 1 := by simp [tot]
            rw [e1] at h
            rw [e2]
            simp only [List.length_cons, List.length_nil] at h ⊢
            omega
    have := ih (fstep st c) (n + 1) key
    rw [List.length_cons]
    omega
theorem flds_tot {L W X : List Int} (h : flds L = [W, X]) : W.length + 1 + X.length ≤ L.length := by
  have := fold_tot L ([], false) 0 (by simp [tot])
  rw [show (L.foldl fstep ([], false)).1 = [W, X] from h] at this
  have e : tot [W, X] = W.length + X.length := by simp [tot]
  rw [e] at this
  simp only [List.length_cons, List.length_nil] at this
  split at this <;> omega
theorem take_fst {L : List Int} {i : Nat} (h : Sp.fst 91 L = some i) : L = L.take i ++ 91 :: L.drop (i + 1) := (Sp.fst_some h).2.1
theorem fst_pre (A R : List Int) (h : ∀ c ∈ A, c ≠ 91) : Sp.fst 91 (A ++ 91 :: R) = some A.length := by
  refine fst_at (by rw [List.getElem?_append_right (Nat.le_refl _), Nat.sub_self]; rfl) (fun j x hj hx => ?_)
  rw [List.getElem?_append_left hj] at hx
  exact h x (List.mem_of_getElem? hx)
theorem plc_some {L a : List Int} {n : Int} (h : plc L = some (a, n)) : nm a = true ∧ ((n = -1 ∧ L = a) ∨ (0 ≤ n ∧ n ≤ 999999 ∧ L = a ++ 91 :: (dc n ++ [93]))) := by
  unfold plc at h
  cases hf : Sp.fst 91 L with
  | none =>
    rw [hf] at h
    simp only at h
    split at h
    · rename_i hn
      simp only [Option.some.injEq, Prod.mk.injEq] at h
      obtain ⟨rfl, rfl⟩ := h
      exact ⟨hn, .inl ⟨rfl, rfl⟩⟩
    · cases h
  | some i =>
    rw [hf] at h
    simp only at h
    split at h
    · rename_i hg
      split at h
      · rename_i m hm
        split at h
        · rename_i hn
          simp only [Option.some.injEq, Prod.mk.injEq] at h
          obtain ⟨rfl, rfl⟩ := h
          obtain ⟨hd, h0, h9⟩ := nb_iff.1 hm
          refine ⟨hn, .inr ⟨h0, h9, ?_⟩⟩
          have h1 := take_fst hf
          have hne : L.drop (i + 1) ≠ [] := by intro e; rw [e] at hg; cases hg
          have h2 := List.dropLast_concat_getLast hne
          rw [List.getLast?_eq_some_getLast hne] at hg
          rw [Option.some.inj hg, hd] at h2
          rw [h2]
          exact h1
        · cases h
      · cases h
    · cases h
theorem plc_at {a : List Int} {n : Int} (h : nm a = true) (h1 : -1 ≤ n) (h9 : n ≤ 999999) : plc (a ++ if 0 ≤ n then 91 :: (dc n ++ [93]) else []) = some (a, n) := by
  have hch := (nm_chars h).2
  have hno : ∀ c ∈ a, c ≠ 91 := fun c hc => (eith_ok (hch c hc)).2
  unfold plc
  by_cases h0 : 0 ≤ n
  · rw [if_pos h0, fst_pre _ _ hno]
    simp only
    have e1 : (a ++ 91 :: (dc n ++ [93])).drop (a.length + 1) = dc n ++ [93] := by
      rw [List.drop_append]; simp
    have e2 : (a ++ 91 :: (dc n ++ [93])).take a.length = a := by rw [List.take_left]
    rw [e1, e2, if_pos (by simp), List.dropLast_concat, nb_iff.2 ⟨rfl, h0, h9⟩]
    simp only
    rw [if_pos h]
  · rw [if_neg h0, List.append_nil, fst_no (fun j x hj => hno x (List.mem_of_getElem? hj))]
    simp only
    rw [if_pos h, show n = -1 from by omega]
theorem lnt_len {k : Int} {a : List Int} {n : Int} (h : gd k a n = true) : (lnt k a n).length ≤ 200 := by
  have hk := gd_k h
  have hw := (wd_ok hk).1
  unfold gd at h
  split at h
  · rw [Bool.and_eq_true] at h
    exact (of_decide_eq_true h.2).2.2.2
  · rename_i h1
    split at h
    · rename_i h2
      have hn := of_decide_eq_true h
      unfold lnt
      rw [if_neg h1, if_pos h2, List.length_append, List.length_cons]
      have := dc_len (n := n) ⟨by omega, by omega⟩
      omega
    · rename_i h2
      unfold lnt
      rw [if_neg h1, if_neg h2]
      omega
theorem gd_par {k : Int} {a : List Int} {n : Int} (h : gd k a n = true) : opar (lnt k a n) = (k, a, n, 0) := by
  have hk := gd_k h
  obtain ⟨_, w2, w3⟩ := wd_ok hk
  have hix := ix_wd hk
  have hlen := lnt_len h
  unfold opar
  rw [if_neg (by omega)]
  have hop1 : ∀ r, op1 (wd k :: r) = op2 k r := fun r => by
    unfold op1
    simp only
    rw [hix, if_neg (by omega), Int.sub_add_cancel]
  unfold gd at h
  by_cases h12 : 12 ≤ k ∧ k ≤ 15
  · rw [if_pos h12, Bool.and_eq_true] at h
    obtain ⟨hn, hd⟩ := h
    obtain ⟨_, n1, n9, _⟩ := of_decide_eq_true hd
    obtain ⟨ane, ach⟩ := nm_chars hn
    have hx1 : (a ++ if 0 ≤ n then 91 :: (dc n ++ [93]) else []) ≠ [] := fun e => ane (List.append_eq_nil_iff.1 e).1
    have hx2 : ∀ c ∈ (a ++ if 0 ≤ n then 91 :: (dc n ++ [93]) else []), sep c = false := fun c hc => by
      rcases List.mem_append.1 hc with hc | hc
      · exact (eith_ok (ach c hc)).1
      · split at hc
        · rcases List.mem_cons.1 hc with rfl | hc
          · rfl
          · rcases List.mem_append.1 hc with hc | hc
            · exact dc_ok n c hc
            · rw [List.mem_singleton] at hc; subst hc; rfl
        · cases hc
    unfold lnt
    rw [if_pos h12, flds_2 w2 w3 hx1 hx2, hop1]
    unfold op2
    rw [if_pos ⟨by omega, h12.2⟩]
    simp only
    rw [if_neg (by omega), plc_at hn n1 n9]
  · rw [if_neg h12] at h
    by_cases h9 : 9 ≤ k ∧ k < 12
    · rw [if_pos h9] at h
      obtain ⟨rfl, n0, n9⟩ := of_decide_eq_true h
      unfold lnt
      rw [if_neg h12, if_pos h9, flds_2 w2 w3 (dc_ne n) (dc_ok n), hop1]
      unfold op2
      rw [if_pos ⟨h9.1, by omega⟩]
      simp only
      rw [if_pos h9.2, nb_iff.2 ⟨rfl, n0, n9⟩]
    · rw [if_neg h9] at h
      obtain ⟨_, _, rfl, rfl⟩ := of_decide_eq_true h
      unfold lnt
      rw [if_neg h12, if_neg h9, flds_1 w2 w3, hop1]
      unfold op2
      rw [if_neg (fun q => by omega)]
theorem par_gd {L : List Int} {k : Int} {a : List Int} {n : Int} (h : opar L = (k, a, n, 0)) : gd k a n = true := by
  unfold opar at h
  split at h
  · simp at h
  · rename_i hlen
    unfold op1 at h
    split at h
    · simp at h
    · rename_i w r hfl
      split at h
      · simp at h
      · rename_i hx
        have hix := ix_range w
        have hwd := wd_ix (L := w) (by omega)
        unfold op2 at h
        split at h
        · rename_i h915
          split at h
          · rename_i x
            have htot := flds_tot hfl
            split at h
            · rename_i h12
              split at h
              · rename_i m hm
                simp only [Prod.mk.injEq] at h
                obtain ⟨rfl, rfl, rfl, _⟩ := h
                unfold gd
                rw [if_neg (by omega), if_pos ⟨h915.1, h12⟩]
                exact decide_eq_true ⟨rfl, (nb_iff.1 hm).2⟩
              · simp at h
            · rename_i h12
              split at h
              · rename_i a' m hm
                simp only [Prod.mk.injEq] at h
                obtain ⟨rfl, rfl, rfl, _⟩ := h
                obtain ⟨hnm, hcase⟩ := plc_some hm
                have hl : lnt (ix w + 1) a' m = w ++ 32 :: x ∧ a'.length ≤ x.length ∧ -1 ≤ m ∧ m ≤ 999999 := by
                  unfold lnt
                  rw [if_pos ⟨by omega, h915.2⟩, hwd]
                  rcases hcase with ⟨rfl, rfl⟩ | ⟨q0, q9, rfl⟩
                  · rw [if_neg (by decide), List.append_nil]
                    exact ⟨rfl, Nat.le_refl _, by decide, by decide⟩
                  · rw [if_pos q0]
                    exact ⟨rfl, by rw [List.length_append]; omega, by omega, q9⟩
                unfold gd
                rw [if_pos ⟨by omega, h915.2⟩, hnm, Bool.true_and]
                refine decide_eq_true ⟨by omega, hl.2.2.1, hl.2.2.2, ?_⟩
                rw [hl.1, List.length_append, List.length_cons]
                omega
              · simp at h
          · simp at h
        · rename_i h915
          split at h
          · simp only [Prod.mk.injEq] at h
            obtain ⟨rfl, rfl, rfl, _⟩ := h
            unfold gd
            rw [if_neg (by omega), if_neg (by omega)]
            exact decide_eq_true ⟨by omega, by omega, rfl, rfl⟩
          · simp at h
theorem gd_n {k : Int} {a : List Int} {n : Int} (h : gd k a n = true) : I64 n := by
  unfold gd at h
  unfold I64
  split at h
  · rw [Bool.and_eq_true] at h
    have := of_decide_eq_true h.2
    omega
  · split at h
    · have := of_decide_eq_true h; omega
    · have := of_decide_eq_true h; omega
theorem gd_a {k : Int} {a : List Int} {n : Int} (h : gd k a n = true) : a.length ≤ 200 := by
  unfold gd at h
  split at h
  · rw [Bool.and_eq_true] at h
    exact (of_decide_eq_true h.2).1
  · split at h
    · have := (of_decide_eq_true h).1; rw [this]; simp
    · have := (of_decide_eq_true h).2.2.1; rw [this]; simp
theorem opar_nil : opar [] = (0, [], 0, 16) := rfl
theorem lnt_ne {k : Int} {a : List Int} {n : Int} (h : gd k a n = true) : lnt k a n ≠ [] := fun e => by
  have := gd_par h
  rw [e, opar_nil] at this
  simp at this
theorem lnt_inj {k k' : Int} {a a' : List Int} {n n' : Int} (h : gd k a n = true) (h' : gd k' a' n' = true) (e : lnt k a n = lnt k' a' n') : k = k' ∧ a = a' ∧ n = n' := by
  have h1 := gd_par h
  rw [e, gd_par h'] at h1
  simp only [Prod.mk.injEq] at h1
  exact ⟨h1.1.symm, h1.2.1.symm, h1.2.2.1.symm⟩
end Od
end Go.Proofs.YtlkipdfipaipbaaDoor
