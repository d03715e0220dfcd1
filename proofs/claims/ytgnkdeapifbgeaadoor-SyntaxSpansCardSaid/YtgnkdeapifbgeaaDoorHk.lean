/- Programs of tokens: functions that go alike over other tokens; where a parse ends. No program. -/
import Derived.Test.YtgnkdeapifbgeaaDoorHj
import Derived.Test.YtgnkdeapifbgeaaDoorHg
import Derived.Test.YtgnkdeapifbgeaaDoorHe
namespace Go.Proofs.YtgnkdeapifbgeaaDoor.Sy
open Go
set_option linter.unusedVariables false
section
variable {M : Mv} {s s' : PS}
theorem prms_mv (ok : M.Ok) : ∀ n n' l s s' x t, n ≤ n' → M.S s s' → prms M.E n l s = .ok x t → t.i ≤ M.K → M.R Eq x t (prms M.E' n' l s') := by
  intro n
  induction n with
  | zero => intro n' l s s' x t hn h e; cases e
  | succ n ih =>
    intro n' l s s' x t hn h e hi
    obtain ⟨n', rfl⟩ : ∃ k, n' = k + 1 := ⟨n' - 1, by omega⟩
    have u0 := (prms_up _ _ _ _ _ e).1
    unfold prms at e ⊢
    rw [h.wd ok (by omega)]
    split at e
    · rename_i q
      rw [if_pos q]
      cases e
      exact Mv.R.ok rfl h.adv
    · rename_i q
      rw [if_neg q]
      obtain ⟨_, s1, e1, e2⟩ := bind_inv e
      obtain ⟨w, s2, e3, e4⟩ := bind_inv e2
      have u1 := (knd_up e3).1
      split at e4
      · rename_i q4
        have u2 := (prms_up _ _ _ _ _ e4).1
        refine Mv.R.bind (V := M.U) (t := s1) (a := ()) ?_ fun _ t1 _ h1 => (knd_mv ok h1 e3 (by omega)).bind fun w' t2 hw h2 => ?_
        · split at e1
          · rename_i q1
            cases e1
            rw [if_pos q1]
            exact Mv.R.ok trivial h
          · rename_i q1
            rw [if_neg q1]
            exact want_mv ok h e1 (by omega)
        · subst hw
          rw [if_pos (by rw [h2.wd ok (by omega)]; exact q4)]
          exact ih _ _ _ _ _ _ (by omega) h2 e4 hi
      · cases e4
theorem fct_mv (ok : M.Ok) {n n' : Nat} (hn : n ≤ n') {t : PS} {x : Unit} (h : M.S s s') (e : fct M.E n s = .ok x t) (hi : t.i ≤ M.K) (hs : t.st.length + M.so ≤ 1000) (hf : s.fn.length + M.fo < 32) : M.R M.U x t (fct M.E' n' s') := by
  obtain ⟨hl, nm, s2, s3, ps, s4, ty, s5, bd, s6, e2, e3, e4, e5, q, e6, rfl⟩ := fct_inv e
  have hi : s6.i ≤ M.K := hi
  have hs : s6.st.length + M.so ≤ 1000 := hs
  have u6 := block_up (bd_lv n) e6
  have u4 := (prms_up _ _ _ _ _ e4).1
  have u3 := (want_up e3).1
  have u2 := (knd_up e2).1
  unfold Up at u6
  have u5 : s4.i ≤ s5.i := by
    rcases e5 with ⟨_, _, rfl⟩ | ⟨_, _, rfl⟩
    · show s4.i ≤ s4.i + 1; omega
    · exact Nat.le_refl _
  have ua : (adv s).i = s.i + 1 := rfl
  have hw := h.wd ok (show s.i < M.K by omega)
  have hh := h.hr ok (show s.i < M.K by omega)
  unfold fct
  rw [if_neg (fun e => by have := e.2; rw [h.fn] at this; omega), bind_ok, want, if_pos (by rw [hw]; exact q), bind_ok]
  refine (knd_mv ok h.adv e2 (by omega)).bind fun nm' t2 hv h2 => ?_
  subst hv
  refine (want_mv ok h2 e3 (by omega)).bind fun _ t3 _ h3 => (prms_mv ok _ _ _ _ _ _ _ hn h3 e4 (by omega)).bind fun ps' t4 hv h4 => ?_
  subst hv
  rw [h4.wd ok (by omega)]
  refine Mv.R.bind (V := Eq) (a := ty) (t := s5) ?_ fun ty' t5 hv h5 => (block_mv ok (bd_lv n) (sim_lv ok n n' hn) h5 e6 hi hs).bind fun bd' t6 hb h6 => ?_
  · rcases e5 with ⟨q5, rfl, rfl⟩ | ⟨q5, rfl, rfl⟩
    · rw [if_pos q5]; exact Mv.R.ok rfl h4.adv
    · rw [if_neg q5]; exact Mv.R.ok rfl h4
  · subst hv
    refine ⟨(), _, rfl, trivial, h6.i, h6.x, h6.st, h6.ss, by simp [h6.fn]; omega, fun e => ?_⟩
    rw [hh, h6.pe ok (by omega) (by omega), ok.ex e, hb.2 e, Int.add_zero, Int.add_zero, h6.eq e]
theorem fct_st {E : Env} {n : Nat} {t : PS} {x : Unit} (e : fct E n s = .ok x t) : s.i + 1 ≤ t.i ∧ t.fn.length = s.fn.length + 1 ∧ s.st.length ≤ t.st.length ∧ t.st.length + s.i ≤ s.st.length + t.i := by
  obtain ⟨hl, nm, s2, s3, ps, s4, ty, s5, bd, s6, h2, h3, h4, h5, q, h6, rfl⟩ := fct_inv e
  have u := ((((adv_up s).trans (knd_up h2)).trans (want_up h3)).trans (prms_up _ _ _ _ _ h4))
  have u5 : Up 0 0 0 s4 s5 := by
    rcases h5 with ⟨_, _, rfl⟩ | ⟨_, _, rfl⟩
    · exact (adv_up _).le (by omega) (by omega) (by omega)
    · exact Up.refl _
  obtain ⟨u6, u7, u8, u9, u10⟩ := (u.trans u5).trans (block_up (bd_lv n) h6)
  exact ⟨by simp only; omega, by simp [u8], u9, by simp only; omega⟩
theorem fcts_st {E : Env} {m : Nat} : ∀ n s t x, fcts E m n s = .ok x t → s.i ≤ t.i ∧ s.fn.length ≤ t.fn.length ∧ s.st.length ≤ t.st.length ∧ t.st.length + s.i ≤ s.st.length + t.i := by
  intro n
  induction n with
  | zero => intro s t x h; cases h
  | succ n ih =>
    intro s t x h
    unfold fcts at h
    split at h
    · cases h; omega
    · obtain ⟨_, s1, h1, h2⟩ := bind_inv h
      have := fct_st h1
      have := ih _ _ _ h2
      omega
theorem fcts_mv (ok : M.Ok) (h0 : ∀ s, kd M.E s = 0 → wd M.E s ≠ wFunc) {m m' : Nat} (hm : m ≤ m') : ∀ n s s' x S, M.S s s' → fcts M.E m n s = .ok x S → S.i ≤ M.K → S.st.length + M.so ≤ 1000 → S.fn.length + M.fo ≤ 32 →
    ∃ j S', (j + 1 ≤ n ∧ j + s.fn.length = S.fn.length) ∧ M.S S S' ∧ ∀ r, fcts M.E' m' (j + r) s' = fcts M.E' m' r S' := by
  intro n
  induction n with
  | zero => intro s s' x S h e; cases e
  | succ n ih =>
    intro s s' x S h e hi hs hf
    unfold fcts at e
    split at e
    · cases e
      exact ⟨0, s', by omega, h, fun r => by rw [Nat.zero_add]⟩
    · obtain ⟨_, s1, e1, e2⟩ := bind_inv e
      have u1 := fct_st e1
      have u2 := fcts_st _ _ _ _ e2
      obtain ⟨_, t1, f1, _, h1⟩ := fct_mv ok hm h e1 (by omega) (by omega) (by omega)
      obtain ⟨j, S', hj, hS, hr⟩ := ih s1 t1 _ S h1 e2 hi hs hf
      refine ⟨j + 1, S', by omega, hS, fun r => ?_⟩
      have q : wd M.E s = wFunc := by
        obtain ⟨hl, nm, s2, s3, ps, s4, ty, s5, bd, s6, h2, h3, h4, h5, q, h6, rfl⟩ := fct_inv e1
        exact q
      rw [show j + 1 + r = (j + r) + 1 by omega, fcts, if_neg (fun e => h0 s (by rw [← h.kd ok (by omega)]; exact e.2) q), f1, bind_ok]
      exact hr r
theorem fcts_many (ok : M.Ok) (h0 : ∀ s, kd M.E s = 0 → wd M.E s ≠ wFunc) {m m' : Nat} (hm : m ≤ m') : ∀ n s s' x S, M.S s s' → fcts M.E m n s = .ok x S → S.i ≤ M.K → S.st.length + M.so ≤ 1000 → s.fn.length + M.fo ≤ 32 → 32 < S.fn.length + M.fo →
    ∃ j p, (j + 1 ≤ n ∧ j + s.fn.length ≤ S.fn.length) ∧ ∀ r, fcts M.E' m' (j + 1 + r) s' = .er 5 p := by
  intro n
  induction n with
  | zero => intro s s' x S h e; cases e
  | succ n ih =>
    intro s s' x S h e hi hs hf hS
    unfold fcts at e
    split at e
    · cases e; omega
    · obtain ⟨_, s1, e1, e2⟩ := bind_inv e
      have u1 := fct_st e1
      have u2 := fcts_st _ _ _ _ e2
      have q : wd M.E s = wFunc := by
        obtain ⟨hl, nm, s2, s3, ps, s4, ty, s5, bd, s6, h2, h3, h4, h5, q, h6, rfl⟩ := fct_inv e1
        exact q
      have hg : ¬ (s'.fn ≠ [] ∧ kd M.E' s' = 0) := fun e => h0 s (by rw [← h.kd ok (by omega)]; exact e.2) q
      rcases Nat.lt_or_ge (s.fn.length + M.fo) 32 with hl | hl
      · obtain ⟨_, t1, f1, _, h1⟩ := fct_mv ok hm h e1 (by omega) (by omega) hl
        obtain ⟨j, p, hj, hr⟩ := ih s1 t1 _ S h1 e2 hi hs (by omega) hS
        refine ⟨j + 1, p, by omega, fun r => ?_⟩
        rw [show j + 1 + 1 + r = (j + 1 + r) + 1 by omega, fcts, if_neg hg, f1, bind_ok]
        exact hr r
      · refine ⟨0, hr M.E' s', by omega, fun r => ?_⟩
        rw [show 0 + 1 + r = r + 1 by omega, fcts, if_neg hg, fct, if_pos ⟨by rw [h.wd ok (by omega)]; exact q, by rw [h.fn]; omega⟩]
        rfl
end
section
variable {E : Env}
theorem stmts_end : ∀ n d l s x t, (lv E n).stmts d l s = .ok x t → ∃ u, wd E u = wRcur ∧ t.i = u.i + 1 := by
  intro n
  induction n with
  | zero => intro d l s x t h; cases h
  | succ n ih =>
    intro d l s x t h
    have h : sStmts E (lv E n) d l s = .ok x t := h
    unfold sStmts at h
    split at h
    · rename_i q; cases h; exact ⟨s, q, rfl⟩
    · obtain ⟨_, s1, h1, h2⟩ := bind_inv h
      exact ih _ _ _ _ _ h2
theorem fct_end {n : Nat} {s t : PS} {x : Unit} (h : fct E n s = .ok x t) : ∃ u, wd E u = wRcur ∧ t.i = u.i + 1 := by
  obtain ⟨hl, nm, s2, s3, ps, s4, ty, s5, bd, s6, h2, h3, h4, h5, q, h6, rfl⟩ := fct_inv h
  obtain ⟨_, s7, h7, h8⟩ := bind_inv h6
  obtain ⟨_, s8, h9, h10⟩ := bind_inv h8
  obtain ⟨u, hu, hi⟩ := stmts_end _ _ _ _ _ _ h10
  exact ⟨u, hu, hi⟩
theorem fcts_end {m : Nat} : ∀ n s x t, fcts E m n s = .ok x t → (t = s ∨ ∃ u, wd E u = wRcur ∧ t.i = u.i + 1) ∧ t.fn ≠ [] ∧ kd E t = 0 := by
  intro n
  induction n with
  | zero => intro s x t h; cases h
  | succ n ih =>
    intro s x t h
    unfold fcts at h
    split at h
    · rename_i q; cases h; exact ⟨.inl rfl, q⟩
    · obtain ⟨_, s1, h1, h2⟩ := bind_inv h
      obtain ⟨h3, h4⟩ := ih _ _ _ h2
      refine ⟨.inr ?_, h4⟩
      rcases h3 with rfl | h3
      · exact fct_end h1
      · exact h3
end
/-- Facts of a text's tokens. -/
structure Txt (L : List Int) : Prop where
  len : L.length ≤ 20000
  als : Tk.als (L.length + 1) 0 L = ((Tk.allT L).1, none)
theorem txt_of {L : List Int} {S : PS} (h : prs L = .ok () S) : Txt L ∧ (Tk.allT L).2 = (0, 0) ∧ fcts (envOf L) (fuel L) (fuel L) ⟨0, [], [], []⟩ = .ok () S := by
  unfold prs at h
  split at h
  · cases h
  · rename_i q
    have q : (Tk.allT L).2.2 = 0 := Decidable.not_not.1 q
    obtain ⟨h1, h2, h3⟩ := Tk.all_ok q
    exact ⟨⟨h1, h2⟩, Prod.ext h3 q, h⟩
theorem Txt.ne {L : List Int} (h : Txt L) : (Tk.allT L).1 ≠ [] := fun e => by have := h.als; rw [e] at this; exact Tk.als_ne this
theorem Txt.last {L : List Int} (h : Txt L) {s : PS} (hs : (envOf L).T.length ≤ s.i + 1) : kd (envOf L) s = 0 ∧ wd (envOf L) s = [] := by
  rcases Nat.lt_or_ge s.i (envOf L).T.length with h1 | h1
  · obtain ⟨t, ht⟩ : ∃ t, (envOf L).T[s.i]? = some t := ⟨_, List.getElem?_eq_getElem h1⟩
    have hk := (Tk.als_last _ _ _ _ h.als s.i t ht).1 (by show s.i + 1 = (envOf L).T.length; omega)
    refine ⟨by unfold kd; rw [ht]; exact hk, ?_⟩
    obtain ⟨b, h2, h3⟩ := Tk.als_each L _ _ 0 (by rw [List.drop_zero]; exact h.als) t (List.mem_of_getElem? ht)
    rw [h3] at hk
    obtain ⟨hm, _⟩ := Tk.nx_end h2 hk
    have ht' : (Tk.allT L).1[s.i]? = some t := ht
    show (envOf L).W[s.i]?.getD [] = []
    show (List.map (fun t : Tk.T3 => (L.take t.2.2.toNat).drop t.2.1.toNat) (Tk.allT L).1)[s.i]?.getD [] = []
    rw [List.getElem?_map, ht', h3]
    simp only [Option.map_some, Option.getD_some, hm, Int.toNat_natCast]
    exact List.drop_eq_nil_of_le (by rw [List.length_take]; omega)
  · refine ⟨by unfold kd; rw [List.getElem?_eq_none h1], ?_⟩
    unfold wd
    rw [List.getElem?_eq_none (by have : (envOf L).W.length = (envOf L).T.length := by simp [envOf]
                                  omega)]
    rfl
theorem Txt.k0 {L : List Int} (h : Txt L) {s : PS} (hs : kd (envOf L) s = 0) : (envOf L).T.length ≤ s.i + 1 := by
  rcases Nat.lt_or_ge s.i (envOf L).T.length with h1 | h1
  · obtain ⟨t, ht⟩ : ∃ t, (envOf L).T[s.i]? = some t := ⟨_, List.getElem?_eq_getElem h1⟩
    have : t.1 = 0 := by unfold kd at hs; rw [ht] at hs; exact hs
    have := (Tk.als_last _ _ _ _ h.als s.i t ht).2 this
    have e : (envOf L).T.length = (Tk.allT L).1.length := rfl
    omega
  · omega
/-- Where a program's parse ends: at its last token. -/
theorem prs_end {L : List Int} {S : PS} (h : prs L = .ok () S) : S.i + 1 = (envOf L).T.length ∧ S.fn ≠ [] := by
  obtain ⟨ht, h0, hf⟩ := txt_of h
  obtain ⟨h1, h2, h3⟩ := fcts_end _ _ _ _ hf
  refine ⟨?_, h2⟩
  have h4 := ht.k0 h3
  rcases h1 with rfl | ⟨u, hu, h5⟩
  · exact (h2 rfl).elim
  · rcases Nat.lt_or_ge (u.i + 1) (envOf L).T.length with h6 | h6
    · omega
    · have := (ht.last h6).2
      rw [hu] at this
      cases this
end Go.Proofs.YtgnkdeapifbgeaaDoor.Sy
