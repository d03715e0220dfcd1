/- Two texts' tokens, one behind the other; the plain laws of a comment behind, and of two programs. No program. -/
import Derived.Test.YtgnkdeapifbgeaaDoorHk
namespace Go.Proofs.YtgnkdeapifbgeaaDoor.Tk
open Go Fw
set_option linter.unusedVariables false
theorem als_skip (c : Nat) (f a : Nat) (Z Y : List Int) (h : nx Z = ⟨(nx Y).ok, (nx Y).k, c + (nx Y).n, (nx Y).m⟩) (hd : Z.drop c = Y) : als (f + 1) a Z = als (f + 1) (a + c) Y := by
  have h1 : (nx Z).ok = (nx Y).ok := by rw [h]
  have h2 : (nx Z).k = (nx Y).k := by rw [h]
  have h3 : (nx Z).n = c + (nx Y).n := by rw [h]
  have h4 : (nx Z).m = (nx Y).m := by rw [h]
  by_cases hok : (nx Y).ok = true
  · by_cases hk : (nx Y).k = 0
    · rw [als_end (h1.trans hok) (h2.trans hk), als_end hok hk, h3, h4]
      simp only [Prod.mk.injEq, List.cons.injEq, true_and, and_true]; omega
    · have e : a + (c + (nx Y).n) + (nx Y).m = a + c + (nx Y).n + (nx Y).m := by omega
      have e2 : Z.drop (c + (nx Y).n + (nx Y).m) = Y.drop ((nx Y).n + (nx Y).m) := by
        rw [show c + (nx Y).n + (nx Y).m = c + ((nx Y).n + (nx Y).m) from by omega, ← List.drop_drop, hd]
      rw [als_more (h1.trans hok) (by rw [h2]; exact hk), als_more hok hk, h2, h3, h4, e, e2]
      simp only [Prod.mk.injEq, List.cons.injEq, true_and, and_true]; omega
  · have hok' : (nx Y).ok = false := by simpa using hok
    rw [als_bad (h1.trans hok'), als_bad hok', h3]
    simp only [Prod.mk.injEq, Option.some.injEq, true_and]; omega
theorem sk_nl {Y : List Int} : ∀ (L : List Int) (b : Bool), sk b L = L.length → sk b (L ++ 10 :: Y) = L.length + 1 + sk false Y := by
  intro L
  induction L with
  | nil =>
    intro b _
    cases b
    · show (if blan 10 then sk false Y + 1 else _) = _
      rw [if_pos (by decide)]; simp; omega
    · show (if (10 : Int) = 10 then sk false Y + 1 else _) = _
      rw [if_pos rfl]; simp; omega
  | cons c r ih =>
    intro b h
    cases b
    · simp only [List.cons_append, sk] at h ⊢
      split at h
      · rename_i q
        rw [if_pos q, ih false (by simpa using h)]
        simp; omega
      · rename_i q
        rw [if_neg q]
        split at h
        · rename_i q2
          rw [if_pos q2, ih true (by simpa using h)]
          simp; omega
        · simp at h
    · simp only [List.cons_append, sk] at h ⊢
      split at h
      · rename_i q
        rw [if_pos q, ih false (by simpa using h)]
        simp; omega
      · rename_i q
        rw [if_neg q, ih true (by simpa using h)]
        simp; omega
theorem als_cat {Y : List Int} : ∀ (f a : Nat) (L : List Int) (ts : List T3), als f a L = (ts, none) → ∀ F G, L.length + Y.length + 1 < F → Y.length < G → als F a (L ++ 10 :: Y) = (ts.dropLast ++ (als G (a + L.length + 1) Y).1, (als G (a + L.length + 1) Y).2) := by
  intro f
  induction f with
  | zero => intro a L ts h; rw [als_zero] at h; cases h
  | succ f ih =>
    intro a L ts h F G hF hG
    obtain ⟨F, rfl⟩ : ∃ k, F = k + 1 := ⟨F - 1, by omega⟩
    cases ts with
    | nil => exact absurd h als_ne
    | cons t r =>
      obtain ⟨hok, ht, hnext⟩ := als_cons h
      have hle := nx_le L
      rcases hnext with ⟨hk, hr⟩ | ⟨hk, g, hg, hr⟩
      · subst hr
        have hn := (nx_end hok hk).2
        have hd : (L ++ 10 :: Y).drop (L.length + 1) = Y := by
          rw [← List.drop_drop, List.drop_left' rfl]; rfl
        have hnx : nx (L ++ 10 :: Y) = ⟨(nx Y).ok, (nx Y).k, L.length + 1 + (nx Y).n, (nx Y).m⟩ := by
          rw [nx, sk_nl L false hn, ← List.drop_drop, hd]; rfl
        rw [als_skip (L.length + 1) F a _ Y hnx hd, als_fuel (F + 1) G (a + (L.length + 1)) Y (by omega) hG]
        rfl
      · have hm := nx_pos hok hk
        have hlt : sk false L < L.length := by have : (nx L).n = sk false L := rfl; omega
        have hsk := sk_more (X := 10 :: Y) L false hlt
        have hnx : nx (L ++ 10 :: Y) = nx L := by
          rw [nx, hsk, List.drop_append_of_le_length (by omega), body_append stop10 Y (L.drop (sk false L)) (by
            intro e
            have := congrArg List.length e
            rw [List.length_drop, List.length_nil] at this
            omega)]
          rfl
        cases hg
        have hd : (L ++ 10 :: Y).drop ((nx L).n + (nx L).m) = L.drop ((nx L).n + (nx L).m) ++ 10 :: Y := List.drop_append_of_le_length hle
        have hne : r ≠ [] := fun e => by rw [e] at hr; exact als_ne hr
        have hl : (L.drop ((nx L).n + (nx L).m)).length = L.length - ((nx L).n + (nx L).m) := List.length_drop
        rw [als_more (by rw [hnx]; exact hok) (by rw [hnx]; exact hk), hnx, hd, ih _ _ _ hr F G (by omega) hG]
        have hT : a + (nx L).n + (nx L).m + (L.drop ((nx L).n + (nx L).m)).length + 1 = a + L.length + 1 := by omega
        rw [hT, List.dropLast_cons_of_ne_nil hne, ← ht]
        rfl
theorem all_cat {L Y : List Int} (h0 : (allT L).2.2 = 0) (h1 : (allT Y).2.2 = 0) (hl : L.length + Y.length + 1 ≤ 20000) : allT (L ++ 10 :: Y) = ((allT L).1.dropLast ++ (allT Y).1.map (shift (L.length + 1)), 0, 0) := by
  obtain ⟨_, a1, _⟩ := all_ok h0
  obtain ⟨_, a2, _⟩ := all_ok h1
  have h2 := als_cat (Y := Y) _ 0 L _ a1 (L.length + Y.length + 2) (Y.length + 1) (by omega) (by omega)
  have h3 := als_shift (L.length + 1) (Y.length + 1) 0 Y
  rw [a2] at h3
  rw [show 0 + L.length + 1 = 0 + (L.length + 1) by omega, h3] at h2
  exact all_of (by simp; omega) (by simp; omega) h2
end Go.Proofs.YtgnkdeapifbgeaaDoor.Tk
namespace Go.Proofs.YtgnkdeapifbgeaaDoor.Sy
open Go
set_option linter.unusedVariables false
theorem fuel_le {L L' : List Int} (h : L.length ≤ L'.length) : fuel L ≤ fuel L' := by unfold fuel; omega
theorem take_app {L Y : List Int} {e f : Nat} (h : e ≤ L.length) : ((L ++ Y).take e).drop f = (L.take e).drop f := by rw [List.take_append_of_le_length h]
theorem take_shift {L Y : List Int} {e f : Nat} : ((L ++ 10 :: Y).take (e + (L.length + 1))).drop (f + (L.length + 1)) = (Y.take e).drop f := by
  rw [List.drop_take, List.drop_take, show e + (L.length + 1) - (f + (L.length + 1)) = e - f by omega, show f + (L.length + 1) = L.length + 1 + f by omega, ← List.drop_drop (i := f) (j := L.length + 1), ← List.drop_drop (i := 1) (j := L.length), List.drop_left' rfl]
  rfl
theorem env_W {L : List Int} {i : Nat} {t : Tk.T3} (h : (envOf L).T[i]? = some t) : (envOf L).W[i]? = some ((L.take t.2.2.toNat).drop t.2.1.toNat) := by
  show (List.map (fun t : Tk.T3 => (L.take t.2.2.toNat).drop t.2.1.toNat) (Tk.allT L).1)[i]? = _
  rw [List.getElem?_map, show (Tk.allT L).1[i]? = some t from h]
  rfl
theorem env_WT {L : List Int} {i : Nat} {x : List Int} (h : (envOf L).W[i]? = some x) : ∃ t, (envOf L).T[i]? = some t ∧ x = (L.take t.2.2.toNat).drop t.2.1.toNat := by
  have h : (List.map (fun t : Tk.T3 => (L.take t.2.2.toNat).drop t.2.1.toNat) (Tk.allT L).1)[i]? = some x := h
  rw [List.getElem?_map, Option.map_eq_some_iff] at h
  obtain ⟨t, ht, e⟩ := h
  exact ⟨t, ht, e.symm⟩
theorem env_len {L : List Int} : (envOf L).W.length = (envOf L).T.length := by simp [envOf]
/-- A text's tokens but its last stand ahead of what goes on. -/
theorem mv_head {L L' : List Int} {ts : List Tk.T3} (h : Txt L) (hp : ∃ Y, L' = L ++ Y) (hT : ∀ i t, i + 1 < (envOf L).T.length → (envOf L).T[i]? = some t → (envOf L').T[i]? = some t) :
    Mv.Ok ⟨envOf L, envOf L', (envOf L).T.length - 1, 0, 0, 0, 0, 0, True⟩ := by
  obtain ⟨Y, rfl⟩ := hp
  refine ⟨fun i t hi ht => ?_, fun i x hi hx => ?_, ?_, ?_, fun _ => rfl⟩
  · show (envOf (L ++ Y)).T[i + 0]? = some (t.1, t.2.1 + 0, t.2.2 + 0)
    rw [Int.add_zero, Int.add_zero]
    exact hT i t (by have : i < (envOf L).T.length - 1 := hi; omega) ht
  · obtain ⟨t, ht, rfl⟩ := env_WT hx
    have h1 := hT i t (by have : i < (envOf L).T.length - 1 := hi; omega) ht
    show (envOf (L ++ Y)).W[i + 0]? = _
    have hb := Tk.all_bounds (L := L) (t := t) (List.mem_of_getElem? ht)
    rw [Nat.add_zero, env_W h1, take_app (by omega)]
  · exact Nat.sub_le _ _
  · show (envOf L).T.length - 1 ≤ (envOf L).W.length
    rw [env_len]; exact Nat.sub_le _ _
theorem no_func {L : List Int} (h : Txt L) : ∀ s, kd (envOf L) s = 0 → wd (envOf L) s ≠ wFunc := fun s hs e => by
  have := (h.last (h.k0 hs)).2
  rw [this] at e
  cases e
theorem Mv.S.refl (M : Mv) (hm : M.m = 0) (ho : M.o = 0) (hx : M.xo = 0) (hs : M.so = 0) (hf : M.fo = 0) (s : PS) : M.S s s :=
  ⟨by rw [hm]; rfl, by rw [hx]; rfl, by rw [hs]; rfl, fun j x hj => ⟨x, by rw [hs]; exact hj, rfl, by rw [ho, Int.add_zero], by rw [ho, Int.add_zero]⟩, by rw [hf]; rfl, fun _ => rfl⟩
/-- A program's parse, where more stands behind it: it comes to the same, at the first token of that. -/
theorem prs_head {L L' : List Int} {S : PS} (h : prs L = .ok () S) (h32 : S.fn.length ≤ 32) (h1000 : S.st.length ≤ 1000) (hp : ∃ Y, L' = L ++ Y) (h0 : (Tk.allT L').2.2 = 0) (hT : ∀ i t, i + 1 < (envOf L).T.length → (envOf L).T[i]? = some t → (envOf L').T[i]? = some t) :
    ∃ j, (j + 1 ≤ fuel L ∧ j = S.fn.length) ∧ ∀ r, fcts (envOf L') (fuel L') (j + r) ⟨0, [], [], []⟩ = fcts (envOf L') (fuel L') r S := by
  obtain ⟨ht, _, hf⟩ := txt_of h
  obtain ⟨hS, hfn⟩ := prs_end h
  have ok := mv_head (ts := []) ht hp hT
  obtain ⟨j, S', hj, hS', hr⟩ := fcts_mv ok (no_func ht) (m' := fuel L') (by obtain ⟨Y, rfl⟩ := hp; exact fuel_le (by simp)) _ _ ⟨0, [], [], []⟩ _ _ (Mv.S.refl _ rfl rfl rfl rfl rfl _) hf (show S.i ≤ (envOf L).T.length - 1 by omega) h1000 h32
  refine ⟨j, ⟨hj.1, by have := hj.2; simpa using this⟩, fun r => ?_⟩
  rw [← hS'.eq trivial]
  exact hr r
theorem prs_len {L : List Int} {S : PS} (h : prs L = .ok () S) : S.fn.length ≤ 32 ∧ S.st.length ≤ S.i ∧ S.i ≤ L.length := by
  obtain ⟨ht, _, hf⟩ := txt_of h
  obtain ⟨hS, hfn⟩ := prs_end h
  have h1 := fcts_st _ _ _ _ hf
  have h2 := env_T L
  refine ⟨?_, by simp at h1; omega, by omega⟩
  have key : ∀ (E : Env) (m n : Nat) (s : PS) (t : PS) (x : Unit), fcts E m n s = .ok x t → s.fn.length ≤ 32 → t.fn.length ≤ 32 := by
    intro E m n
    induction n with
    | zero => intro s t x h; cases h
    | succ n ih =>
      intro s t x h hs
      unfold fcts at h
      split at h
      · cases h; exact hs
      · obtain ⟨_, s1, h1, h2⟩ := bind_inv h
        have h3 := fct_st h1
        have h4 := (fct_inv h1).1
        exact ih _ _ _ h2 (by omega)
  exact key _ _ _ _ _ _ hf (by simp)
/-- A comment behind a program changes nothing. -/
theorem prs_cm {L cm : List Int} {S : PS} (hcm : ∀ c ∈ cm, c ≠ 10) (hl : L.length + cm.length + 2 ≤ 20000) (h1000 : L.length ≤ 1000) (h : prs L = .ok () S) : prs (L ++ 10 :: 35 :: cm) = .ok () S := by
  obtain ⟨ht, h0, hf⟩ := txt_of h
  obtain ⟨hS, hfn⟩ := prs_end h
  obtain ⟨l1, l2, l3⟩ := prs_len h
  have hall := Tk.all_cm hcm (by rw [h0]) hl
  have hT : ∀ (i : Nat), (envOf (L ++ 10 :: 35 :: cm)).T[i]? = ((envOf L).T[i]?).map (Tk.fixT (L.length + cm.length + 2)) := fun i => by
    show (Tk.allT _).1[i]? = _
    rw [hall]; exact List.getElem?_map
  obtain ⟨j, hj, hr⟩ := prs_head h l1 (by omega) ⟨_, rfl⟩ (by rw [hall]) fun i t hi ht' => by
    rw [hT, ht']
    have : ¬ t.1 = 0 := fun e => by
      have := (Tk.als_last _ _ _ _ ht.als i t ht').2 e
      have : i + 1 = (envOf L).T.length := this
      omega
    simp [Tk.fixT, this]
  unfold prs
  rw [if_neg (by rw [hall]; simp)]
  have hfu := fuel_le (L := L) (L' := L ++ 10 :: 35 :: cm) (by simp)
  have := hr (fuel (L ++ 10 :: 35 :: cm) - j)
  rw [show j + (fuel (L ++ 10 :: 35 :: cm) - j) = fuel (L ++ 10 :: 35 :: cm) by omega] at this
  rw [this]
  obtain ⟨k, hk⟩ : ∃ k, fuel (L ++ 10 :: 35 :: cm) - j = k + 1 := ⟨fuel (L ++ 10 :: 35 :: cm) - j - 1, by omega⟩
  rw [hk, fcts, if_pos]
  refine ⟨hfn, ?_⟩
  obtain ⟨t, ht'⟩ : ∃ t, (envOf L).T[S.i]? = some t := ⟨_, List.getElem?_eq_getElem (by omega)⟩
  have hk0 := (Tk.als_last _ _ _ _ ht.als S.i t ht').1 hS
  unfold kd
  rw [hT, ht']
  simp [Tk.fixT, hk0]
/-- Two programs' texts, one behind the other. -/
theorem prs_join {a b : List Int} {Sa Sb : PS} (ha : prs a = .ok () Sa) (hb : prs b = .ok () Sb) (la : a.length ≤ 500) (lb : b.length ≤ 500) :
    (32 < Sa.fn.length + Sb.fn.length → ∃ p, prs (a ++ 10 :: b) = .er 5 p) ∧
    (Sa.fn.length + Sb.fn.length ≤ 32 → ∃ S, prs (a ++ 10 :: b) = .ok () S ∧ S.fn.length = Sa.fn.length + Sb.fn.length ∧ S.st.length = Sa.st.length + Sb.st.length ∧ S.ex.length = Sa.ex.length + Sb.ex.length ∧
      ∀ j x, Sb.st[j]? = some x → ∃ y, S.st[Sa.st.length + j]? = some y ∧ y.k = x.k ∧ y.f = x.f + a.length + 1 ∧ y.e = x.e + a.length + 1) := by
  obtain ⟨hta, h0a, hfa⟩ := txt_of ha
  obtain ⟨htb, h0b, hfb⟩ := txt_of hb
  obtain ⟨hSa, hfna⟩ := prs_end ha
  obtain ⟨hSb, hfnb⟩ := prs_end hb
  obtain ⟨a1, a2, a3⟩ := prs_len ha
  obtain ⟨b1, b2, b3⟩ := prs_len hb
  have hall := Tk.all_cat (L := a) (Y := b) (by rw [h0a]) (by rw [h0b]) (by omega)
  have hlen : ((Tk.allT a).1.dropLast).length = Sa.i := by
    rw [List.length_dropLast]
    have : (envOf a).T.length = (Tk.allT a).1.length := rfl
    omega
  have hTa : ∀ i, i < Sa.i → (envOf (a ++ 10 :: b)).T[i]? = (envOf a).T[i]? := fun i hi => by
    show (Tk.allT _).1[i]? = (Tk.allT a).1[i]?
    rw [hall]
    show (_ ++ _)[i]? = _
    rw [List.getElem?_append_left (by omega), List.getElem?_dropLast, if_pos (by have : (envOf a).T.length = (Tk.allT a).1.length := rfl; omega)]
  have hTb : ∀ i, (envOf (a ++ 10 :: b)).T[i + Sa.i]? = ((envOf b).T[i]?).map (Tk.shift (a.length + 1)) := fun i => by
    show (Tk.allT _).1[_]? = _
    rw [hall]
    show (_ ++ _)[_]? = _
    rw [List.getElem?_append_right (by omega), hlen, show i + Sa.i - Sa.i = i by omega]
    exact List.getElem?_map
  obtain ⟨j, hj, hr⟩ := prs_head ha a1 (by omega) ⟨_, rfl⟩ (by rw [hall]) fun i t hi ht' => by
    rw [hTa i (by omega)]; exact ht'
  obtain ⟨M, hM⟩ : ∃ M : Mv, M = ⟨envOf b, envOf (a ++ 10 :: b), (envOf b).T.length, Sa.i, (a.length : Int) + 1, Sa.ex.length, Sa.st.length, Sa.fn.length, False⟩ := ⟨_, rfl⟩
  have ok : M.Ok := by
    rw [hM]
    refine ⟨fun i t hi ht => ?_, fun i x hi hx => ?_, Nat.le_refl _, ?_, fun e => e.elim⟩
    · show (envOf (a ++ 10 :: b)).T[i + Sa.i]? = _
      rw [hTb, show (envOf b).T[i]? = some t from ht]
      simp [Tk.shift]
    · obtain ⟨t, ht, rfl⟩ := env_WT hx
      have h1 : (envOf (a ++ 10 :: b)).T[i + Sa.i]? = some (Tk.shift (a.length + 1) t) := by rw [hTb, ht]; rfl
      have hb' := Tk.all_bounds (L := b) (t := t) (List.mem_of_getElem? ht)
      show (envOf (a ++ 10 :: b)).W[i + Sa.i]? = _
      rw [env_W h1]
      have e1 : (Tk.shift (a.length + 1) t).2.2.toNat = t.2.2.toNat + (a.length + 1) := by simp [Tk.shift]; omega
      have e2 : (Tk.shift (a.length + 1) t).2.1.toNat = t.2.1.toNat + (a.length + 1) := by simp [Tk.shift]; omega
      rw [e1, e2, take_shift]
    · show (envOf b).T.length ≤ (envOf b).W.length
      rw [env_len]; exact Nat.le_refl _
  have hS0 : M.S ⟨0, [], [], []⟩ Sa := by
    rw [hM]
    exact ⟨by simp, by simp, by simp, fun j x h => by simp at h, by simp, fun e => e.elim⟩
  have hm := fuel_le (L := b) (L' := a ++ 10 :: b) (by simp; omega)
  have h0 : ∀ s, kd M.E s = 0 → wd M.E s ≠ wFunc := by rw [hM]; exact no_func htb
  have hMf : M.fo = Sa.fn.length := by rw [hM]
  have hMs : M.so = Sa.st.length := by rw [hM]
  have hMx : M.xo = Sa.ex.length := by rw [hM]
  have hMo : M.o = (a.length : Int) + 1 := by rw [hM]
  have hMK : M.K = (envOf b).T.length := by rw [hM]
  have hME : M.E = envOf b := by rw [hM]
  have hME' : M.E' = envOf (a ++ 10 :: b) := by rw [hM]
  have hMm : M.m = Sa.i := by rw [hM]
  rw [← hME] at hfb
  have hF : fuel (a ++ 10 :: b) = 20 * (a.length + b.length + 101) := by unfold fuel; simp; omega
  have hne : ¬ (Tk.allT (a ++ 10 :: b)).2.2 ≠ 0 := by rw [hall]; simp
  have hrun := hr (fuel (a ++ 10 :: b) - j)
  rw [show j + (fuel (a ++ 10 :: b) - j) = fuel (a ++ 10 :: b) by omega] at hrun
  have hprs : prs (a ++ 10 :: b) = fcts (envOf (a ++ 10 :: b)) (fuel (a ++ 10 :: b)) (fuel (a ++ 10 :: b) - j) Sa := by
    unfold prs; rw [if_neg hne, hrun]
  rw [hprs, ← hME']
  constructor
  · intro hmany
    obtain ⟨k, p, hk, hr2⟩ := fcts_many ok h0 hm _ _ Sa _ _ hS0 hfb (by omega) (by omega) (by simp; omega) (by omega)
    refine ⟨p, ?_⟩
    have hk2 := hk.2
    simp only [List.length_nil, Nat.add_zero] at hk2
    have := hr2 (fuel (a ++ 10 :: b) - j - (k + 1))
    rw [show k + 1 + (fuel (a ++ 10 :: b) - j - (k + 1)) = fuel (a ++ 10 :: b) - j by omega] at this
    exact this
  · intro hfew
    obtain ⟨k, S', hk, hS', hr2⟩ := fcts_mv ok h0 hm _ _ Sa _ _ hS0 hfb (by omega) (by omega) (by omega)
    have hk2 := hk.2
    simp only [List.length_nil, Nat.add_zero] at hk2
    have := hr2 (fuel (a ++ 10 :: b) - j - k)
    rw [show k + (fuel (a ++ 10 :: b) - j - k) = fuel (a ++ 10 :: b) - j by omega] at this
    rw [this]
    obtain ⟨q, hq⟩ : ∃ q, fuel (a ++ 10 :: b) - j - k = q + 1 := ⟨fuel (a ++ 10 :: b) - j - k - 1, by omega⟩
    refine ⟨S', ?_, by rw [hS'.fn]; omega, by rw [hS'.st]; omega, by rw [hS'.x]; omega, fun i x hx => ?_⟩
    · rw [hq, fcts, if_pos]
      have hk0 := hS'.kd ok (by omega)
      refine ⟨fun e => ?_, ?_⟩
      · have := hS'.fn
        rw [e] at this
        have : Sb.fn.length = 0 := by simp at this; omega
        exact hfnb (List.length_eq_zero_iff.1 this)
      · rw [hk0, hME]
        exact (htb.last (by omega)).1
    · obtain ⟨y, hy, h1, h2, h3⟩ := hS'.ss i x hx
      exact ⟨y, by rw [Nat.add_comm, ← hMs]; exact hy, h1, by rw [h2, hMo]; omega, by rw [h3, hMo]; omega⟩
end Go.Proofs.YtgnkdeapifbgeaaDoor.Sy
