/- Tokens: plain laws of a text's all, of joined tokens, of a comment behind. -/
import Derived.Test.YtgnkdeapifbgeaaDoorTc
namespace Go.Proofs.YtgnkdeapifbgeaaDoor.Tk
open Go Fw
set_option linter.unusedVariables false
theorem sk_blanks (n : Nat) (L : List Int) (c : Int) (hc : blan c = true) : sk false (List.replicate n c ++ L) = n + sk false L := by
  induction n with
  | zero => simp
  | succ n ih => rw [List.replicate_succ, List.cons_append, sk, if_pos hc, ih]; omega
theorem two_no (L : List Int) (h : L.length < 2) : pairsL.any (fun p => p.isPrefixOf L) = false := by
  rw [Bool.eq_false_iff]
  intro hh
  obtain ⟨p, hp, hq⟩ := List.any_eq_true.1 hh
  have h2 : ∀ p ∈ pairsL, p.length = 2 := by decide
  have := (List.isPrefixOf_iff_prefix.1 hq).length_le
  have := h2 p hp
  omega
theorem als_zero (a : Nat) (L : List Int) : als 0 a L = ([], some (a : Int)) := rfl
theorem als_bad {f a : Nat} {L : List Int} (h : (nx L).ok = false) : als (f + 1) a L = ([], some ((a + (nx L).n : Nat) : Int)) := by
  rw [als, if_neg (by rw [h]; exact Bool.false_ne_true)]
theorem als_end {f a : Nat} {L : List Int} (h : (nx L).ok = true) (hk : (nx L).k = 0) : als (f + 1) a L = ([(0, ((a + (nx L).n : Nat) : Int), ((a + (nx L).n + (nx L).m : Nat) : Int))], none) := by
  rw [als, if_pos h, if_pos hk]
theorem als_more {f a : Nat} {L : List Int} (h : (nx L).ok = true) (hk : (nx L).k ≠ 0) :
    als (f + 1) a L = (((nx L).k, ((a + (nx L).n : Nat) : Int), ((a + (nx L).n + (nx L).m : Nat) : Int)) :: (als f (a + (nx L).n + (nx L).m) (L.drop ((nx L).n + (nx L).m))).1, (als f (a + (nx L).n + (nx L).m) (L.drop ((nx L).n + (nx L).m))).2) := by
  rw [als, if_pos h, if_neg hk]
/-- The first of all. -/
theorem als_cons {f a : Nat} {L : List Int} {x : T3} {r : List T3} (h : als f a L = (x :: r, none)) :
    (nx L).ok = true ∧ x = ((nx L).k, ((a + (nx L).n : Nat) : Int), ((a + (nx L).n + (nx L).m : Nat) : Int)) ∧
      ((nx L).k = 0 ∧ r = [] ∨ (nx L).k ≠ 0 ∧ ∃ g, f = g + 1 ∧ als g (a + (nx L).n + (nx L).m) (L.drop ((nx L).n + (nx L).m)) = (r, none)) := by
  cases f with
  | zero => rw [als_zero] at h; cases h
  | succ g =>
    by_cases hok : (nx L).ok = true
    · by_cases hk : (nx L).k = 0
      · rw [als_end hok hk] at h
        simp only [Prod.mk.injEq, List.cons.injEq, and_true] at h
        exact ⟨hok, by rw [hk]; exact h.1.symm, .inl ⟨hk, h.2.symm⟩⟩
      · rw [als_more hok hk] at h
        simp only [Prod.mk.injEq, List.cons.injEq] at h
        exact ⟨hok, h.1.1.symm, .inr ⟨hk, g, rfl, Prod.ext h.1.2 h.2⟩⟩
    · rw [als_bad (by simpa using hok)] at h; cases h
theorem als_ne {f a : Nat} {L : List Int} : als f a L ≠ ([], none) := by
  intro h
  cases f with
  | zero => rw [als_zero] at h; cases h
  | succ g =>
    by_cases hok : (nx L).ok = true
    · by_cases hk : (nx L).k = 0
      · rw [als_end hok hk] at h; cases h
      · rw [als_more hok hk] at h; cases h
    · rw [als_bad (by simpa using hok)] at h; cases h
/-- More fuel changes nothing. -/
theorem als_fuel : ∀ (f f' a : Nat) (L : List Int), L.length < f → L.length < f' → als f a L = als f' a L := by
  intro f
  induction f with
  | zero => intro f' a L h; omega
  | succ g ih =>
    intro f' a L h h'
    cases f' with
    | zero => omega
    | succ g' =>
      by_cases hok : (nx L).ok = true
      · by_cases hk : (nx L).k = 0
        · rw [als_end hok hk, als_end hok hk]
        · have h1 := nx_pos hok hk
          have h2 := nx_le L
          rw [als_more hok hk, als_more hok hk, ih g' _ _ (by rw [List.length_drop]; omega) (by rw [List.length_drop]; omega)]
      · rw [als_bad (by simpa using hok), als_bad (by simpa using hok)]
/-- All is good: what it says. -/
theorem all_ok {L : List Int} (h : (allT L).2.2 = 0) : L.length ≤ 20000 ∧ als (L.length + 1) 0 L = ((allT L).1, none) ∧ (allT L).2.1 = 0 := by
  unfold allT at h ⊢
  split
  · rename_i hb; rw [if_pos hb] at h; cases h
  · rename_i hb
    rw [if_neg hb] at h
    split
    · rename_i l he; exact ⟨by omega, by rw [he], rfl⟩
    · rename_i l p he; rw [he] at h; cases h
theorem all_bad {L : List Int} (h : (allT L).2.2 ≠ 0) : (allT L).1 = [] := by
  unfold allT at h ⊢
  split
  · rfl
  · rename_i hb
    rw [if_neg hb] at h
    split
    · rename_i l he; rw [he] at h; exact absurd rfl h
    · rfl
theorem all_of {L : List Int} {ts : List T3} {f : Nat} (h0 : L.length ≤ 20000) (hf : L.length < f) (h : als f 0 L = (ts, none)) : allT L = (ts, 0, 0) := by
  rw [allT, if_neg (by omega), als_fuel (L.length + 1) f 0 L (by omega) hf, h]
theorem all_len {L : List Int} (h : L.length ≤ 20000) : (allT L).1.length ≤ L.length + 1 := by
  have := als_len (L.length + 1) 0 L
  rw [allT, if_neg (by omega)]
  split
  · rename_i l he; rw [he] at this; exact this
  · simp
def shift (c : Nat) (t : T3) : T3 := (t.1, t.2.1 + c, t.2.2 + c)
theorem als_shift (c : Nat) : ∀ (f a : Nat) (L : List Int), als f (a + c) L = ((als f a L).1.map (shift c), (als f a L).2.map (· + (c : Int))) := by
  intro f
  induction f with
  | zero => intro a L; simp [als_zero]
  | succ g ih =>
    intro a L
    by_cases hok : (nx L).ok = true
    · by_cases hk : (nx L).k = 0
      · rw [als_end hok hk, als_end hok hk]
        simp only [List.map_cons, List.map_nil, shift, Option.map_none, Prod.mk.injEq, List.cons.injEq, true_and, and_true]
        omega
      · rw [als_more hok hk, als_more hok hk]
        have e : a + c + (nx L).n + (nx L).m = a + (nx L).n + (nx L).m + c := by omega
        rw [e, ih]
        simp only [List.map_cons, shift, Prod.mk.injEq, List.cons.injEq, true_and, and_true]
        omega
    · rw [als_bad (by simpa using hok), als_bad (by simpa using hok)]
      simp only [List.map_nil, Option.map_some, Prod.mk.injEq, Option.some.injEq, true_and]
      omega
theorem nx_blanks (c : Nat) (b : Int) (hb : blan b = true) (L : List Int) : nx (List.replicate c b ++ L) = ⟨(nx L).ok, (nx L).k, c + (nx L).n, (nx L).m⟩ := by
  have h := sk_blanks c L b hb
  have hd : (List.replicate c b ++ L).drop (c + sk false L) = L.drop (sk false L) := by
    rw [← List.drop_drop, List.drop_left' (by simp)]
  simp only [nx, h, hd]
theorem als_blanks (c : Nat) (b : Int) (hb : blan b = true) (f a : Nat) (L : List Int) : als (f + 1) a (List.replicate c b ++ L) = als (f + 1) (a + c) L := by
  have h := nx_blanks c b hb L
  have h1 : (nx (List.replicate c b ++ L)).ok = (nx L).ok := by rw [h]
  have h2 : (nx (List.replicate c b ++ L)).k = (nx L).k := by rw [h]
  have h3 : (nx (List.replicate c b ++ L)).n = c + (nx L).n := by rw [h]
  have h4 : (nx (List.replicate c b ++ L)).m = (nx L).m := by rw [h]
  by_cases hok : (nx L).ok = true
  · by_cases hk : (nx L).k = 0
    · rw [als_end (h1.trans hok) (h2.trans hk), als_end hok hk, h3, h4]
      simp only [Prod.mk.injEq, List.cons.injEq, true_and, and_true]; omega
    · have e : a + (c + (nx L).n) + (nx L).m = a + c + (nx L).n + (nx L).m := by omega
      have e2 : (List.replicate c b ++ L).drop (c + (nx L).n + (nx L).m) = L.drop ((nx L).n + (nx L).m) := by
        rw [show c + (nx L).n + (nx L).m = c + ((nx L).n + (nx L).m) from by omega, ← List.drop_drop, List.drop_left' (by simp)]
      rw [als_more (h1.trans hok) (by rw [h2]; exact hk), als_more hok hk, h2, h3, h4, e, e2]
      simp only [Prod.mk.injEq, List.cons.injEq, true_and, and_true]; omega
  · have hok' : (nx L).ok = false := by simpa using hok
    rw [als_bad (h1.trans hok'), als_bad hok', h3]
    simp only [Prod.mk.injEq, Option.some.injEq, true_and]; omega
theorem all_blanks_ahead (c : Nat) (L : List Int) (h0 : (allT L).2.2 = 0) (h : c + L.length ≤ 20000) : allT (List.replicate c 10 ++ L) = ((allT L).1.map (shift c), 0, 0) := by
  obtain ⟨_, h1, _⟩ := all_ok h0
  refine all_of (f := (c + L.length) + 1) (by simp; omega) (by simp) ?_
  rw [als_blanks c 10 rfl, als_shift, als_fuel _ (L.length + 1) 0 L (by omega) (by omega), h1]
  rfl
/-- Where tokens stand. -/
theorem als_bounds : ∀ (f a : Nat) (L : List Int) (t : T3), t ∈ (als f a L).1 → (a : Int) ≤ t.2.1 ∧ t.2.1 ≤ t.2.2 ∧ t.2.2 ≤ ((a + L.length : Nat) : Int) := by
  intro f
  induction f with
  | zero => intro a L t h; simp [als_zero] at h
  | succ g ih =>
    intro a L t h
    have hle := nx_le L
    by_cases hok : (nx L).ok = true
    · by_cases hk : (nx L).k = 0
      · rw [als_end hok hk] at h
        simp only [List.mem_singleton] at h
        subst h
        simp only
        omega
      · rw [als_more hok hk] at h
        simp only [List.mem_cons] at h
        rcases h with rfl | h
        · simp only; omega
        · have := ih _ _ t h
          rw [List.length_drop] at this
          omega
    · rw [als_bad (by simpa using hok)] at h; simp at h
theorem all_bounds {L : List Int} {t : T3} (h : t ∈ (allT L).1) : 0 ≤ t.2.1 ∧ t.2.1 ≤ t.2.2 ∧ t.2.2 ≤ (L.length : Int) := by
  by_cases h0 : (allT L).2.2 = 0
  · obtain ⟨_, h1, _⟩ := all_ok h0
    have := als_bounds (L.length + 1) 0 L t (by rw [h1]; exact h)
    omega
  · rw [all_bad h0] at h; simp at h
/-- A token's bytes. -/
def tx (s : ByteArray) (t : T3) : ByteArray := s.extract t.2.1.toNat t.2.2.toNat
theorem nx_end {L : List Int} (hok : (nx L).ok = true) (hk : (nx L).k = 0) : (nx L).m = 0 ∧ (nx L).n = L.length := by
  by_cases h0 : L.drop (sk false L) = []
  · have hn : (nx L).n = sk false L := rfl
    have hle := sk_le L false
    have := congrArg List.length h0
    rw [List.length_drop, List.length_nil] at this
    refine ⟨?_, by omega⟩
    have : (nx L).m = (body (L.drop (sk false L))).2.2 := rfl
    rw [this, h0]; rfl
  · exact absurd hk (body_pos (L := L.drop (sk false L)) hok h0).2
theorem nx_n (L : List Int) : (nx L).n = sk false L := rfl
theorem rn_append (p : Int → Bool) (x : Int) (hx : p x = false) (Y : List Int) : ∀ L : List Int, rn p (L ++ x :: Y) = rn p L := by
  intro L
  induction L with
  | nil =>
    show rn p (x :: Y) = 0
    rw [rn, if_neg (by rw [hx]; exact Bool.false_ne_true)]
  | cons c r ih => rw [List.cons_append, rn, rn, ih]
theorem rn_take (p : Int → Bool) : ∀ L : List Int, rn p (L.take (rn p L)) = rn p L := by
  intro L
  induction L with
  | nil => rfl
  | cons c r ih =>
    by_cases h : p c = true
    · rw [rn, if_pos h, List.take_succ_cons, rn, if_pos h, ih]
    · rw [rn, if_neg h, List.take_zero]; rfl
theorem pairs_any {L : List Int} : pairsL.any (fun p => p.isPrefixOf L) = true ↔ ∃ a b r, L = a :: b :: r ∧ [a, b] ∈ pairsL := by
  rw [List.any_eq_true]
  constructor
  · rintro ⟨p, hp, hq⟩
    have h2 : ∀ p ∈ pairsL, p.length = 2 := by decide
    have hl := h2 p hp
    obtain ⟨r, rfl⟩ := List.isPrefixOf_iff_prefix.1 hq
    match p, hl with
    | [a, b], _ => exact ⟨a, b, r, rfl, hp⟩
  · rintro ⟨a, b, r, rfl, h⟩
    exact ⟨[a, b], h, List.isPrefixOf_iff_prefix.2 ⟨r, rfl⟩⟩
theorem pairs_snd : ∀ p ∈ pairsL, ∀ a b, p = [a, b] → b ≠ 32 ∧ b ≠ 10 ∧ a ≠ 35 ∧ blan a = false := by
  have : ∀ p ∈ pairsL, (p.getD 1 0) ≠ 32 ∧ (p.getD 1 0) ≠ 10 ∧ (p.getD 0 0) ≠ 35 ∧ blan (p.getD 0 0) = false := by decide
  intro p hp a b e
  subst e
  exact this _ hp
theorem signs_ok : ∀ c ∈ signsL, c ≠ 35 ∧ blan c = false := by decide
theorem sk_0 {c : Int} {r : List Int} (h : blan c = false) (h35 : c ≠ 35) : sk false (c :: r) = 0 := by
  rw [sk, if_neg (by rw [h]; exact Bool.false_ne_true), if_neg h35]
theorem lett_ok {c : Int} (h : lett c = true) : blan c = false ∧ c ≠ 35 := by
  simp only [lett, Bool.or_eq_true, beq_iff_eq, Bool.and_eq_true, decide_eq_true_eq] at h
  refine ⟨?_, by omega⟩
  rw [Bool.eq_false_iff]
  simp only [blan, ne_eq, Bool.or_eq_true, beq_iff_eq]
  omega
theorem digi_ok {c : Int} (h : digi c = true) : blan c = false ∧ c ≠ 35 := by
  simp only [digi, Bool.and_eq_true, decide_eq_true_eq] at h
  refine ⟨?_, by omega⟩
  rw [Bool.eq_false_iff]
  simp only [blan, ne_eq, Bool.or_eq_true, beq_iff_eq]
  omega
/-- A byte behind which nothing that stands ahead goes on. -/
structure Stop (x : Int) : Prop where
  e : eith x = false
  l : lett x = false
  d : digi x = false
  p : ∀ p ∈ pairsL, ∀ a b, p = [a, b] → b ≠ x
theorem stop32 : Stop 32 := ⟨rfl, rfl, rfl, fun p hp a b e => (pairs_snd p hp a b e).1⟩
theorem stop10 : Stop 10 := ⟨rfl, rfl, rfl, fun p hp a b e => (pairs_snd p hp a b e).2.1⟩
theorem sg_append {x : Int} (hx : Stop x) (Y L : List Int) (h0 : L ≠ []) : sg (L ++ x :: Y) = sg L := by
  match L, h0 with
  | [c], _ =>
    have h1 : pairsL.any (fun p => p.isPrefixOf ([c] ++ x :: Y)) = false := by
      rw [Bool.eq_false_iff]
      intro h
      obtain ⟨a, b, r, e, hm⟩ := pairs_any.1 h
      simp only [List.cons_append, List.nil_append, List.cons.injEq] at e
      exact hx.p _ hm a b rfl e.2.1.symm
    have h2 : pairsL.any (fun p => p.isPrefixOf [c]) = false := two_no [c] (by simp)
    rw [List.cons_append] at h1 ⊢
    cases h3 : signsL.contains c
    · rw [sg_0 h2 h3, sg_0 h1 h3]
    · rw [sg_1 h2 h3, sg_1 h1 h3]
  | c :: d :: r, _ =>
    have h1 : pairsL.any (fun p => p.isPrefixOf (c :: d :: r ++ x :: Y)) = pairsL.any (fun p => p.isPrefixOf (c :: d :: r)) := by
      rw [Bool.eq_iff_iff, pairs_any, pairs_any]
      constructor
      · rintro ⟨a, b, s, e, hm⟩
        simp only [List.cons_append, List.cons.injEq] at e
        exact ⟨a, b, r, by rw [e.1, e.2.1], hm⟩
      · rintro ⟨a, b, s, e, hm⟩
        simp only [List.cons.injEq] at e
        exact ⟨a, b, r ++ x :: Y, by rw [e.1, e.2.1]; rfl, hm⟩
    cases h4 : pairsL.any (fun p => p.isPrefixOf (c :: d :: r))
    · rw [h4] at h1
      rw [List.cons_append] at h1 ⊢
      cases h3 : signsL.contains c
      · rw [sg_0 h4 h3, sg_0 h1 h3]
      · rw [sg_1 h4 h3, sg_1 h1 h3]
    · rw [sg_2 h4, sg_2 (h1.trans h4)]
/-- What stands behind such a byte changes no token. -/
theorem body_append {x : Int} (hx : Stop x) (Y L : List Int) (h0 : L ≠ []) : body (L ++ x :: Y) = body L := by
  cases L with
  | nil => exact absurd rfl h0
  | cons c r =>
    have e1 := rn_append eith x hx.e Y (c :: r)
    have e2 := rn_append digi x hx.d Y (c :: r)
    have l1 := rn_le eith (c :: r)
    have l2 := rn_le digi (c :: r)
    have e3 : ((c :: r) ++ x :: Y).take (rn eith (c :: r)) = (c :: r).take (rn eith (c :: r)) := List.take_append_of_le_length l1
    have e4 : ((c :: r) ++ x :: Y).drop (rn digi (c :: r)) = (c :: r).drop (rn digi (c :: r)) ++ x :: Y := List.drop_append_of_le_length l2
    have e5 := sg_append hx Y (c :: r) (by simp)
    rw [List.cons_append] at e1 e2 e3 e4 e5 ⊢
    rw [body, body, e1, e2, e3, e4, rn_append lett x hx.l, e5]
/-- A token's own bytes, and such a byte behind them, are that token. -/
theorem body_alone {x : Int} (hx : Stop x) (Y L : List Int) (hok : (body L).1 = true) (hk : (body L).2.1 ≠ 0) :
    body (L.take (body L).2.2 ++ x :: Y) = body L ∧ sk false (L.take (body L).2.2 ++ x :: Y) = 0 := by
  cases L with
  | nil => exact absurd rfl hk
  | cons c r =>
    by_cases hl : lett c = true
    · have hb : body (c :: r) = (true, (if wordsL.contains ((c :: r).take (rn eith (c :: r))) then 3 else 1), rn eith (c :: r)) := by rw [body, if_pos hl]
      have hpos : 0 < rn eith (c :: r) := rn_pos (by simp [eith, hl])
      have ht : (c :: r).take (rn eith (c :: r)) = c :: r.take (rn eith (c :: r) - 1) := by
        rw [show rn eith (c :: r) = (rn eith (c :: r) - 1) + 1 from by omega, List.take_succ_cons]; rfl
      have hlen : ((c :: r).take (rn eith (c :: r))).length = rn eith (c :: r) := by rw [List.length_take]; have := rn_le eith (c :: r); omega
      have hrn : rn eith ((c :: r).take (rn eith (c :: r)) ++ x :: Y) = rn eith (c :: r) := by rw [rn_append eith x hx.e, rn_take]
      have htk : ((c :: r).take (rn eith (c :: r)) ++ x :: Y).take (rn eith (c :: r)) = (c :: r).take (rn eith (c :: r)) := List.take_left' hlen
      rw [hb]
      simp only
      refine ⟨?_, ?_⟩
      · rw [ht] at hrn htk ⊢
        rw [List.cons_append] at hrn htk ⊢
        rw [body, if_pos hl, hrn, htk]
      · rw [ht, List.cons_append]; exact sk_0 (lett_ok hl).1 (lett_ok hl).2
    · by_cases hd : digi c = true
      · have hb : body (c :: r) = if rn digi (c :: r) ≤ 18 ∧ (rn digi (c :: r) = 1 ∨ c ≠ 48) ∧ rn lett ((c :: r).drop (rn digi (c :: r))) = 0 then (true, 2, rn digi (c :: r)) else (false, 0, 0) := by rw [body, if_neg hl, if_pos hd]
        have hif : rn digi (c :: r) ≤ 18 ∧ (rn digi (c :: r) = 1 ∨ c ≠ 48) ∧ rn lett ((c :: r).drop (rn digi (c :: r))) = 0 := by
          rw [hb] at hok
          split at hok
          · assumption
          · cases hok
        rw [if_pos hif] at hb
        have hpos : 0 < rn digi (c :: r) := rn_pos hd
        have ht : (c :: r).take (rn digi (c :: r)) = c :: r.take (rn digi (c :: r) - 1) := by
          rw [show rn digi (c :: r) = (rn digi (c :: r) - 1) + 1 from by omega, List.take_succ_cons]; rfl
        have hlen : ((c :: r).take (rn digi (c :: r))).length = rn digi (c :: r) := by rw [List.length_take]; have := rn_le digi (c :: r); omega
        have hrn : rn digi ((c :: r).take (rn digi (c :: r)) ++ x :: Y) = rn digi (c :: r) := by rw [rn_append digi x hx.d, rn_take]
        have hdr : ((c :: r).take (rn digi (c :: r)) ++ x :: Y).drop (rn digi (c :: r)) = x :: Y := List.drop_left' hlen
        have hl0 : rn lett (x :: Y) = 0 := by rw [rn, if_neg (by rw [hx.l]; exact Bool.false_ne_true)]
        rw [hb]
        simp only
        refine ⟨?_, ?_⟩
        · rw [ht] at hrn hdr ⊢
          rw [List.cons_append] at hrn hdr ⊢
          rw [body, if_neg hl, if_pos hd, hrn, hdr, if_pos ⟨hif.1, hif.2.1, hl0⟩]
        · rw [ht, List.cons_append]; exact sk_0 (digi_ok hd).1 (digi_ok hd).2
      · have hb : body (c :: r) = if sg (c :: r) = 0 then (false, 0, 0) else (true, 4, sg (c :: r)) := by rw [body, if_neg hl, if_neg hd]
        have hne : sg (c :: r) ≠ 0 := by
          intro h0
          rw [hb, if_pos h0] at hok
          cases hok
        rw [if_neg hne] at hb
        rw [hb]
        simp only
        cases hp : pairsL.any (fun p => p.isPrefixOf (c :: r))
        · cases hs : signsL.contains c
          · exact absurd (sg_0 hp hs) hne
          · have h1 := sg_1 hp hs
            have hso := signs_ok c (by simpa using hs)
            rw [h1]
            simp only [List.take_succ_cons, List.take_zero, List.cons_append, List.nil_append]
            have h2 := sg_append hx Y [c] (by simp)
            rw [sg_1 (two_no [c] (by simp)) hs] at h2
            simp only [List.cons_append, List.nil_append] at h2
            exact ⟨by rw [body, if_neg hl, if_neg hd, h2]; rfl, sk_0 hso.2 hso.1⟩
        · have h1 := sg_2 hp
          obtain ⟨a, b, s, e, hm⟩ := pairs_any.1 hp
          simp only [List.cons.injEq] at e
          obtain ⟨rfl, rfl⟩ := e
          have hpo := pairs_snd _ hm c b rfl
          rw [h1]
          simp only [List.take_succ_cons, List.take_zero, List.cons_append, List.nil_append]
          have h2 : sg (c :: b :: x :: Y) = 2 := sg_2 (pairs_any.2 ⟨c, b, _, rfl, hm⟩)
          exact ⟨by rw [body, if_neg hl, if_neg hd, h2]; rfl, sk_0 hpo.2.2.2 hpo.2.2.1⟩
theorem nx_alone {x : Int} (hx : Stop x) (Y L : List Int) (hok : (nx L).ok = true) (hk : (nx L).k ≠ 0) :
    nx ((L.drop (nx L).n).take (nx L).m ++ x :: Y) = ⟨true, (nx L).k, 0, (nx L).m⟩ := by
  obtain ⟨h1, h2⟩ := body_alone hx Y (L.drop (sk false L)) hok hk
  show nx ((L.drop (sk false L)).take (body (L.drop (sk false L))).2.2 ++ x :: Y) = _
  rw [nx, h2, List.drop_zero, h1]
  have : (body (L.drop (sk false L))).1 = true := hok
  rw [this]
  rfl
/-! ### joined tokens -/
def jn : List (List Int) → List Int
  | [] => []
  | [w] => w
  | w :: v :: r => w ++ 32 :: jn (v :: r)
/-- Where the joined ones stand: b blanks ahead of the next. -/
def re : Nat → Nat → List (Int × Nat) → List T3
  | _, _, [] => []
  | p, b, (k, m) :: r => (k, ((p + b : Nat) : Int), ((p + b + m : Nat) : Int)) :: re (p + b + m) 1 r
/-- A token's bytes. -/
def wd (L : List Int) (t : T3) : List Int := (L.take t.2.2.toNat).drop t.2.1.toNat
def km (L : List Int) (t : T3) : Int × Nat := (t.1, (wd L t).length)
theorem als_join (L : List Int) : ∀ (f a : Nat) (ts : List T3), als f a (L.drop a) = (ts, none) → ∀ (F p b : Nat), ts.length < F → als F p (List.replicate b 32 ++ jn (ts.map (wd L))) = (re p b (ts.map (km L)), none) := by
  intro f
  induction f with
  | zero => intro a ts h; rw [als_zero] at h; cases h
  | succ f ih =>
    intro a ts h F p b hF
    obtain ⟨G, rfl⟩ : ∃ G, F = G + 1 := ⟨F - 1, by omega⟩
    cases ts with
    | nil => exact absurd h als_ne
    | cons t r =>
      obtain ⟨hok, ht, hnext⟩ := als_cons h
      have hle := nx_le (L.drop a)
      rw [List.length_drop] at hle
      have hwd : wd L t = ((L.drop a).drop (nx (L.drop a)).n).take (nx (L.drop a)).m := by
        rw [wd, ht]
        simp only [Int.toNat_natCast]
        rw [List.drop_take, List.drop_drop]
        congr 1
        omega
      have hwl : (wd L t).length = (nx (L.drop a)).m := by
        rw [hwd, List.length_take, List.length_drop, List.length_drop]; omega
      rw [als_blanks b 32 rfl]
      rcases hnext with ⟨hk, hr⟩ | ⟨hk, g, hg, hr⟩
      · subst hr
        have hm := (nx_end hok hk).1
        have hw0 : wd L t = [] := List.eq_nil_of_length_eq_zero (by rw [hwl, hm])
        have hn0 : nx ([] : List Int) = ⟨true, 0, 0, 0⟩ := rfl
        have hk0 : t.1 = 0 := by rw [ht]; exact hk
        simp only [List.map_cons, List.map_nil, jn, hw0, re, km, List.length_nil, hk0]
        rw [als_end (by rw [hn0]) (by rw [hn0]), hn0]
        simp
      · cases r with
        | nil => exact absurd hr als_ne
        | cons u r =>
          have hal := nx_alone stop32 (jn ((u :: r).map (wd L))) (L.drop a) hok hk
          rw [← hwd] at hal
          have hj : jn ((t :: u :: r).map (wd L)) = wd L t ++ 32 :: jn ((u :: r).map (wd L)) := rfl
          rw [hj, als_more (by rw [hal]) (by rw [hal]; exact hk), hal]
          simp only [Nat.add_zero, Nat.zero_add]
          have hd : (wd L t ++ 32 :: jn ((u :: r).map (wd L))).drop (nx (L.drop a)).m = List.replicate 1 32 ++ jn ((u :: r).map (wd L)) := by
            rw [List.drop_left' hwl]; rfl
          have hr' : als f (a + (nx (L.drop a)).n + (nx (L.drop a)).m) (L.drop (a + (nx (L.drop a)).n + (nx (L.drop a)).m)) = (u :: r, none) := by
            cases hg
            rw [List.drop_drop] at hr
            rw [show a + (nx (L.drop a)).n + (nx (L.drop a)).m = a + ((nx (L.drop a)).n + (nx (L.drop a)).m) from by omega] at hr ⊢
            exact hr
          have hi := ih _ _ hr' G (p + b + (nx (L.drop a)).m) 1 (by simp only [List.length_cons] at hF ⊢; omega)
          rw [hd, hi]
          have hkt : t.1 = (nx (L.drop a)).k := by rw [ht]
          simp only [List.map_cons, re, km, hwl, hkt]
theorem re_len : ∀ (l : List (Int × Nat)) (p b : Nat), (re p b l).length = l.length := by
  intro l
  induction l with
  | nil => intro p b; rfl
  | cons x r ih => intro p b; obtain ⟨k, m⟩ := x; simp [re, ih]
/-- Each joined token's kind and bytes. -/
theorem re_get (L : List Int) : ∀ (ts : List T3) (p b i : Nat) (t : T3) (pre : List Int), pre.length = p → ts[i]? = some t →
    ∃ u, (re p b (ts.map (km L)))[i]? = some u ∧ u.1 = t.1 ∧ wd (pre ++ (List.replicate b 32 ++ jn (ts.map (wd L)))) u = wd L t := by
  intro ts
  induction ts with
  | nil => intro p b i t pre _ h; simp at h
  | cons x r ih =>
    intro p b i t pre hp h
    cases i with
    | zero =>
      simp only [List.getElem?_cons_zero, Option.some.injEq] at h
      subst h
      refine ⟨_, rfl, rfl, ?_⟩
      rw [wd]
      simp only [Int.toNat_natCast]
      have e : ∃ Z, jn ((x :: r).map (wd L)) = wd L x ++ Z := by
        cases r with
        | nil => exact ⟨[], by simp [jn]⟩
        | cons y r => exact ⟨_, rfl⟩
      obtain ⟨Z, hZ⟩ := e
      rw [hZ, ← List.append_assoc, ← List.append_assoc, List.take_append_of_le_length (by simp; omega), List.take_of_length_le (by simp; omega), List.drop_left' (by simp; omega)]
    | succ i =>
      simp only [List.getElem?_cons_succ] at h
      cases r with
      | nil => simp at h
      | cons y r =>
        obtain ⟨u, hu, hk, hw⟩ := ih (p + b + (wd L x).length) 1 i t (pre ++ List.replicate b 32 ++ wd L x) (by simp; omega) h
        refine ⟨u, ?_, hk, ?_⟩
        · simpa [re, km] using hu
        · have hj : jn ((x :: y :: r).map (wd L)) = wd L x ++ (List.replicate 1 32 ++ jn ((y :: r).map (wd L))) := rfl
          rw [← hw, hj]
          simp only [List.append_assoc]
/-! ### a comment behind -/
theorem sk_more {X : List Int} : ∀ (L : List Int) (b : Bool), sk b L < L.length → sk b (L ++ X) = sk b L := by
  intro L
  induction L with
  | nil => intro b h; simp at h
  | cons c r ih =>
    intro b h
    cases b with
    | false =>
      rw [List.cons_append, sk, sk] at *
      by_cases h1 : blan c = true
      · rw [if_pos h1] at h ⊢; rw [if_pos h1, ih false (by simp only [List.length_cons] at h; omega)]
      · rw [if_neg h1] at h ⊢; rw [if_neg h1]
        by_cases h2 : c = 35
        · rw [if_pos h2] at h ⊢; rw [if_pos h2, ih true (by simp only [List.length_cons] at h; omega)]
        · rw [if_neg h2, if_neg h2]
    | true =>
      rw [List.cons_append, sk, sk] at *
      by_cases h2 : c = 10
      · rw [if_pos h2] at h ⊢; rw [if_pos h2, ih false (by simp only [List.length_cons] at h; omega)]
      · rw [if_neg h2] at h ⊢; rw [if_neg h2, ih true (by simp only [List.length_cons] at h; omega)]
theorem sk_all {X : List Int} (hX : ∀ b, sk b X = X.length) : ∀ (L : List Int) (b : Bool), sk b L = L.length → sk b (L ++ X) = (L ++ X).length := by
  intro L
  induction L with
  | nil => intro b _; exact hX b
  | cons c r ih =>
    intro b h
    cases b with
    | false =>
      rw [List.cons_append, sk, List.length_cons]
      rw [sk, List.length_cons] at h
      by_cases h1 : blan c = true
      · rw [if_pos h1] at h ⊢; rw [ih false (by omega)]
      · rw [if_neg h1] at h ⊢
        by_cases h2 : c = 35
        · rw [if_pos h2] at h ⊢; rw [ih true (by omega)]
        · rw [if_neg h2] at h; omega
    | true =>
      rw [List.cons_append, sk, List.length_cons]
      rw [sk, List.length_cons] at h
      by_cases h2 : c = 10
      · rw [if_pos h2] at h ⊢; rw [ih false (by omega)]
      · rw [if_neg h2] at h ⊢; rw [ih true (by omega)]
theorem sk_line : ∀ cm : List Int, (∀ c ∈ cm, c ≠ 10) → sk true cm = cm.length := by
  intro cm
  induction cm with
  | nil => intro _; rfl
  | cons c r ih => intro h; rw [sk, if_neg (h c (List.mem_cons_self ..)), ih (fun x hx => h x (List.mem_cons_of_mem _ hx))]; rfl
theorem sk_cm {cm : List Int} (h : ∀ c ∈ cm, c ≠ 10) (b : Bool) : sk b (10 :: 35 :: cm) = (10 :: 35 :: cm).length := by
  have h1 : sk false (35 :: cm) = cm.length + 1 := by rw [sk, if_neg (by decide), if_pos rfl, sk_line cm h]
  cases b with
  | false => rw [sk, if_pos (show blan 10 = true from rfl), h1]; rfl
  | true => rw [sk, if_pos rfl, h1]; rfl
def fixT (T : Nat) (t : T3) : T3 := if t.1 = 0 then (0, (T : Int), (T : Int)) else t
theorem als_cm {cm : List Int} (hcm : ∀ c ∈ cm, c ≠ 10) : ∀ (f a : Nat) (L : List Int) (ts : List T3), als f a L = (ts, none) → als f a (L ++ 10 :: 35 :: cm) = (ts.map (fixT (a + L.length + cm.length + 2)), none) := by
  intro f
  induction f with
  | zero => intro a L ts h; rw [als_zero] at h; cases h
  | succ f ih =>
    intro a L ts h
    cases ts with
    | nil => exact absurd h als_ne
    | cons t r =>
      obtain ⟨hok, ht, hnext⟩ := als_cons h
      have hle := nx_le L
      rcases hnext with ⟨hk, hr⟩ | ⟨hk, g, hg, hr⟩
      · subst hr
        have hn := (nx_end hok hk).2
        have hsk := sk_all (sk_cm hcm) L false hn
        have hnx : nx (L ++ 10 :: 35 :: cm) = ⟨true, 0, (L ++ 10 :: 35 :: cm).length, 0⟩ := by
          rw [nx, hsk, List.drop_length]; rfl
        have hk0 : t.1 = 0 := by rw [ht]; exact hk
        rw [als_end (by rw [hnx]) (by rw [hnx]), hnx]
        simp only [List.map_cons, List.map_nil, fixT, hk0, if_true, List.length_append, List.length_cons, Prod.mk.injEq, List.cons.injEq, true_and, and_true]
        omega
      · have hm := nx_pos hok hk
        have hlt : sk false L < L.length := by have : (nx L).n = sk false L := rfl; omega
        have hsk := sk_more (X := 10 :: 35 :: cm) L false hlt
        have hnx : nx (L ++ 10 :: 35 :: cm) = nx L := by
          rw [nx, hsk, List.drop_append_of_le_length (by omega), body_append stop10 (35 :: cm) (L.drop (sk false L)) (by
            intro e
            have := congrArg List.length e
            rw [List.length_drop, List.length_nil] at this
            omega)]
          rfl
        cases hg
        have hd : (L ++ 10 :: 35 :: cm).drop ((nx L).n + (nx L).m) = L.drop ((nx L).n + (nx L).m) ++ 10 :: 35 :: cm := List.drop_append_of_le_length hle
        rw [als_more (by rw [hnx]; exact hok) (by rw [hnx]; exact hk), hnx, hd, ih _ _ _ hr]
        have hk0 : ¬ t.1 = 0 := by rw [ht]; exact hk
        have hT : a + (nx L).n + (nx L).m + (L.drop ((nx L).n + (nx L).m)).length + cm.length + 2 = a + L.length + cm.length + 2 := by
          rw [List.length_drop]; omega
        rw [hT]
        simp only [List.map_cons, fixT, if_neg hk0, ← ht]
theorem all_join {L : List Int} (h0 : (allT L).2.2 = 0) (hl : (jn ((allT L).1.map (wd L))).length ≤ 20000) : allT (jn ((allT L).1.map (wd L))) = (re 0 0 ((allT L).1.map (km L)), 0, 0) := by
  obtain ⟨_, h1, _⟩ := all_ok h0
  have h2 := als_join L (L.length + 1) 0 (allT L).1 (by simpa using h1) ((allT L).1.length + (jn ((allT L).1.map (wd L))).length + 1) 0 0 (by omega)
  simp only [List.replicate_zero, List.nil_append] at h2
  exact all_of hl (by omega) h2
theorem all_cm {L cm : List Int} (hcm : ∀ c ∈ cm, c ≠ 10) (h0 : (allT L).2.2 = 0) (hl : L.length + cm.length + 2 ≤ 20000) : allT (L ++ 10 :: 35 :: cm) = ((allT L).1.map (fixT (L.length + cm.length + 2)), 0, 0) := by
  obtain ⟨_, h1, _⟩ := all_ok h0
  have hf := als_fuel (L.length + 1) (L.length + cm.length + 3) 0 L (by omega) (by omega)
  rw [h1] at hf
  have h2 := als_cm hcm (L.length + cm.length + 3) 0 L _ hf.symm
  rw [Nat.zero_add] at h2
  exact all_of (by simp; omega) (by simp; omega) h2
theorem als_sum (L : List Int) : ∀ (f a : Nat) (ts : List T3), a ≤ L.length → als f a (L.drop a) = (ts, none) → (jn (ts.map (wd L))).length + 1 ≤ (L.length - a) + ts.length := by
  intro f
  induction f with
  | zero => intro a ts _ h; rw [als_zero] at h; cases h
  | succ f ih =>
    intro a ts ha h
    cases ts with
    | nil => exact absurd h als_ne
    | cons t r =>
      obtain ⟨hok, ht, hnext⟩ := als_cons h
      have hle := nx_le (L.drop a)
      rw [List.length_drop] at hle
      have hwl : (wd L t).length = (nx (L.drop a)).m := by
        rw [wd, ht]
        simp only [Int.toNat_natCast]
        rw [List.length_drop, List.length_take]; omega
      rcases hnext with ⟨hk, hr⟩ | ⟨hk, g, hg, hr⟩
      · subst hr
        have hm := (nx_end hok hk).1
        simp only [List.map_cons, List.map_nil, jn, hwl, hm, List.length_cons, List.length_nil]
        omega
      · cases r with
        | nil => exact absurd hr als_ne
        | cons u r =>
          cases hg
          have hr' : als f (a + (nx (L.drop a)).n + (nx (L.drop a)).m) (L.drop (a + (nx (L.drop a)).n + (nx (L.drop a)).m)) = (u :: r, none) := by
            rw [List.drop_drop] at hr
            rw [show a + (nx (L.drop a)).n + (nx (L.drop a)).m = a + ((nx (L.drop a)).n + (nx (L.drop a)).m) from by omega] at hr ⊢
            exact hr
          have hi := ih _ _ (by omega) hr'
          have hj : jn ((t :: u :: r).map (wd L)) = wd L t ++ 32 :: jn ((u :: r).map (wd L)) := rfl
          rw [hj, List.length_append, List.length_cons, hwl]
          simp only [List.length_cons] at hi ⊢
          omega
theorem jn_snoc : ∀ (ws : List (List Int)) (w : List Int), ws ≠ [] → jn (ws ++ [w]) = jn ws ++ 32 :: w := by
  intro ws
  induction ws with
  | nil => intro w h; exact absurd rfl h
  | cons v r ih =>
    intro w _
    cases r with
    | nil => rfl
    | cons u r =>
      have := ih w (by simp)
      show v ++ 32 :: jn (u :: r ++ [w]) = (v ++ 32 :: jn (u :: r)) ++ 32 :: w
      rw [this]
      simp
theorem B_tx (s : ByteArray) (t : T3) : B (tx s t) = wd (B s) t := by rw [tx, B_extract, wd]
end Go.Proofs.YtgnkdeapifbgeaaDoor.Tk
