/- Programs of tokens: the fuel is enough. No program. -/
import Derived.Test.YtgnkdeapifbgeaaDoorGj
namespace Go.Proofs.YtgnkdeapifbgeaaDoor.Sy
open Go
set_option linter.unusedVariables false
theorem bind_out_ne {α β : Type} {r : Rs α} {g : α → PS → Rs β} (h : r ≠ .out) (k : ∀ x t, r = .ok x t → g x t ≠ .out) : r.bind g ≠ .out := by
  cases r with
  | ok x t => exact k x t rfl
  | er c p => exact fun e => by cases e
  | out => exact (h rfl).elim
section
variable {E : Env} {N : Nat}
theorem wd_lt (hW : E.W.length = N) {s : PS} (h : wd E s ≠ []) : s.i < N := by
  rcases Nat.lt_or_ge s.i N with h1 | h1
  · exact h1
  · exact (h (by simp [wd, List.getElem?_eq_none (show E.W.length ≤ s.i by omega)])).elim
theorem kd_lt (hT : E.T.length = N) {s : PS} (h : kd E s ≠ 0) : s.i < N := by
  rcases Nat.lt_or_ge s.i N with h1 | h1
  · exact h1
  · exact (h (by simp [kd, List.getElem?_eq_none (show E.T.length ≤ s.i by omega)])).elim
theorem want_lt (hW : E.W.length = N) {w : List Int} (hw : w ≠ []) {s t : PS} {x : Unit} (h : want E w s = .ok x t) : s.i < N := by
  unfold want at h
  split at h
  · rename_i e; exact wd_lt hW (by rw [e]; exact hw)
  · cases h
theorem knd_lt (hT : E.T.length = N) {k : Int} (hk : k ≠ 0) {s t : PS} {x : List Int} (h : knd E k s = .ok x t) : s.i < N := by
  unfold knd at h
  split at h
  · rename_i e; exact kd_lt hT (by rw [e]; exact hk)
  · cases h
theorem want_no {w : List Int} {s : PS} : want E w s ≠ .out := by
  unfold want; split <;> exact fun e => by cases e
theorem knd_no {k : Int} {s : PS} : knd E k s ≠ .out := by
  unfold knd; split <;> exact fun e => by cases e
theorem deep_no {d : Int} {s : PS} : deep E d s ≠ .out := by
  unfold deep; split <;> exact fun e => by cases e
theorem put_no {fr : Int} {x : Ex} {s : PS} : put E fr x s ≠ .out := fun e => by cases e
theorem add_no {fr : Int} {x : St} {s : PS} : add E fr x s ≠ .out := by
  unfold add; split <;> exact fun e => by cases e
theorem endS_no {fr : Int} {x : St} {s : PS} : endS E fr x s ≠ .out := bind_out_ne want_no fun _ _ _ => add_no
end
/-- What is parsed begins with a token. -/
structure Fst (N : Nat) (L : Lv) : Prop where
  row : ∀ v d s a t, L.row v d s = .ok a t → s.i < N
  expr : ∀ d s a t, L.expr d s = .ok a t → s.i < N
  unary : ∀ d s a t, L.unary d s = .ok a t → s.i < N
  prim : ∀ d s a t, L.prim d s = .ok a t → s.i < N
  stmts : ∀ d l s a t, L.stmts d l s = .ok a t → s.i < N
  stmt : ∀ d s a t, L.stmt d s = .ok a t → s.i < N
  branch : ∀ fr d s a t, L.branch fr d s = .ok a t → s.i < N
section
variable {E : Env} {N : Nat} {L : Lv}
theorem sNamed_lt (hT : E.T.length = N) {d : Int} {s t : PS} {a : St} (h : sNamed E L d s = .ok a t) : s.i < N := by
  obtain ⟨_, s1, h1, h2⟩ := bind_inv h
  exact knd_lt hT (by decide) h1
theorem fst_step (hW : E.W.length = N) (hT : E.T.length = N) (hB : Fst N L) : Fst N (stepL E L) := by
  constructor
  · intro v d s a t h
    have h : sRow E L v d s = .ok a t := h
    unfold sRow at h
    split at h
    · exact hB.unary _ _ _ _ h
    · obtain ⟨_, s1, h1, h2⟩ := bind_inv h
      exact hB.row _ _ _ _ _ h1
  · intro d s a t h
    obtain ⟨_, s1, h1, h2⟩ := bind_inv (show sExpr E L d s = .ok a t from h)
    have e := deep_up h1
    subst e
    exact hB.row _ _ _ _ _ h2
  · intro d s a t h
    have h : sUnary E L d s = .ok a t := h
    unfold sUnary at h
    split at h
    · rename_i q
      exact wd_lt hW (by rcases q with q | q <;> (rw [q]; decide))
    · exact hB.prim _ _ _ _ h
  · intro d s a t h
    have h : sPrim E L d s = .ok a t := h
    unfold sPrim at h
    split at h
    · rename_i q; exact kd_lt hT (by rw [q]; decide)
    split at h
    · rename_i q; exact wd_lt hW (by rw [q]; decide)
    split at h
    · rename_i q; exact wd_lt hW (by rw [q]; decide)
    split at h
    · rename_i q; exact wd_lt hW (by rw [q]; decide)
    split at h
    · rename_i q; exact wd_lt hW (by rw [q]; decide)
    · obtain ⟨_, s1, h1, h2⟩ := bind_inv h
      exact knd_lt hT (by decide) h1
  · intro d l s a t h
    have h : sStmts E L d l s = .ok a t := h
    unfold sStmts at h
    split at h
    · rename_i q; exact wd_lt hW (by rw [q]; decide)
    · obtain ⟨_, s1, h1, h2⟩ := bind_inv h
      exact hB.stmt _ _ _ _ h1
  · intro d s a t h
    have h : sStmt E L d s = .ok a t := h
    unfold sStmt at h
    split at h
    · rename_i q; exact wd_lt hW (by rw [q]; decide)
    split at h
    · rename_i q; exact wd_lt hW (by rw [q]; decide)
    split at h
    · rename_i q; exact wd_lt hW (by rw [q]; decide)
    split at h
    · rename_i q; exact wd_lt hW (by rw [q]; decide)
    split at h
    · rename_i q; exact wd_lt hW (by rw [q]; decide)
    split at h
    · rename_i q; exact wd_lt hW (by rw [q]; decide)
    split at h
    · rename_i q; exact wd_lt hW (by rw [q]; decide)
    · obtain ⟨_, s1, h1, h2⟩ := bind_inv h
      exact sNamed_lt hT h1
  · intro fr d s a t h
    obtain ⟨_, s1, h1, h2⟩ := bind_inv (show sBranch E L fr d s = .ok a t from h)
    exact hB.expr _ _ _ _ h1
end
theorem fst_lv {E : Env} {N : Nat} (hW : E.W.length = N) (hT : E.T.length = N) : ∀ n, Fst N (lv E n)
  | 0 => ⟨fun _ _ _ _ _ h => (by cases h), fun _ _ _ _ h => (by cases h), fun _ _ _ _ h => (by cases h), fun _ _ _ _ h => (by cases h), fun _ _ _ _ _ h => (by cases h), fun _ _ _ _ h => (by cases h), fun _ _ _ _ _ h => (by cases h)⟩
  | n + 1 => fst_step hW hT (fst_lv hW hT n)
/-- How much fuel is needed. -/
def Mn (N : Nat) (s : PS) : Nat := 20 * (N - s.i)
theorem Mn.lt {N : Nat} {s t : PS} (h : s.i < N) (k : s.i + 1 ≤ t.i) : Mn N t + 20 ≤ Mn N s := by unfold Mn; omega
theorem Mn.le {N : Nat} {s t : PS} (k : s.i ≤ t.i) : Mn N t ≤ Mn N s := by unfold Mn; omega
structure Fu (N : Nat) (L : Lv) (n : Nat) : Prop where
  row : ∀ v d s, v ≤ 5 → Mn N s + (8 - v) ≤ n → L.row v d s ≠ .out
  rows : ∀ v d fr a s, v ≤ 4 → Mn N s + 1 ≤ n → L.rows v d fr a s ≠ .out
  expr : ∀ d s, Mn N s + 9 ≤ n → L.expr d s ≠ .out
  unary : ∀ d s, Mn N s + 2 ≤ n → L.unary d s ≠ .out
  prim : ∀ d s, Mn N s + 1 ≤ n → L.prim d s ≠ .out
  args : ∀ fr nm d l s, Mn N s + 10 ≤ n → L.args fr nm d l s ≠ .out
  stmts : ∀ d l s, Mn N s + 12 ≤ n → L.stmts d l s ≠ .out
  stmt : ∀ d s, Mn N s + 11 ≤ n → L.stmt d s ≠ .out
  branch : ∀ fr d s, Mn N s + 10 ≤ n → L.branch fr d s ≠ .out
section
variable {E : Env} {N : Nat} {L : Lv} {n : Nat}
theorem call_no (hW : E.W.length = N) (hF : Fu N L n) {fr : Int} {nm : List Int} {d : Int} {s : PS} (h : Mn N s ≤ n + 10) : call E L fr nm d s ≠ .out := by
  refine bind_out_ne want_no fun _ s1 h1 => hF.args _ _ _ _ _ ?_
  have := Mn.lt (want_lt hW (by decide) h1) (want_up h1).1
  omega
theorem block_no (hW : E.W.length = N) (hF : Fu N L n) {d : Int} {s : PS} (h : Mn N s ≤ n + 8) : block E L d s ≠ .out := by
  refine bind_out_ne (by split <;> first | exact deep_no | exact fun e => (by cases e)) fun _ s1 h1 => ?_
  have e : s1 = s := by
    split at h1
    · exact deep_up h1
    · cases h1; rfl
  subst e
  refine bind_out_ne want_no fun _ s2 h3 => hF.stmts _ _ _ ?_
  have := Mn.lt (want_lt hW (by decide) h3) (want_up h3).1
  omega
theorem sDecl_no (hW : E.W.length = N) (hT : E.T.length = N) (hF : Fu N L n) {d : Int} {s : PS} (h : Mn N s ≤ n) : sDecl E L d s ≠ .out := by
  refine bind_out_ne knd_no fun _ s1 h1 => ?_
  have a1 := Mn.lt (knd_lt hT (by decide) h1) (knd_up h1).1
  split
  · exact bind_out_ne knd_no fun _ _ _ => bind_out_ne want_no fun _ _ _ e => by cases e
  · refine bind_out_ne want_no fun _ s2 h2 => bind_out_ne (hF.expr _ _ ?_) fun _ _ _ e => by cases e
    have := Mn.le (N := N) (Nat.le_of_succ_le (want_up h2).1)
    omega
theorem sNamed_no (hW : E.W.length = N) (hT : E.T.length = N) (hB : Bd L) (hF : Fu N L n) {d : Int} {s : PS} (h : Mn N s ≤ n + 10) : sNamed E L d s ≠ .out := by
  refine bind_out_ne knd_no fun _ s1 h1 => ?_
  have a1 := Mn.lt (knd_lt hT (by decide) h1) (knd_up h1).1
  split
  · exact bind_out_ne (call_no hW hF (by omega)) fun _ _ _ e => by cases e
  split
  · have a2 := Mn.le (N := N) (Nat.le_of_succ_le (adv_up s1).1)
    refine bind_out_ne (hF.expr _ _ (by omega)) fun _ s2 h2 => bind_out_ne want_no fun _ s3 h3 => bind_out_ne want_no fun _ s4 h4 => bind_out_ne (hF.expr _ _ ?_) fun _ _ _ e => by cases e
    have b1 := Mn.le (N := N) (Nat.le_of_succ_le (hB.expr _ _ _ _ h2).1)
    have b2 := Mn.le (N := N) (Nat.le_of_succ_le (want_up h3).1)
    have b3 := Mn.le (N := N) (Nat.le_of_succ_le (want_up h4).1)
    omega
  · refine bind_out_ne want_no fun _ s2 h2 => bind_out_ne (hF.expr _ _ ?_) fun _ _ _ e => by cases e
    have := Mn.le (N := N) (Nat.le_of_succ_le (want_up h2).1)
    omega
theorem fu_step (hW : E.W.length = N) (hT : E.T.length = N) (hB : Bd L) (hS : Fst N L) (hF : Fu N L n) : Fu N (stepL E L) (n + 1) := by
  constructor
  · intro v d s hv hm
    show sRow E L v d s ≠ .out
    unfold sRow
    split
    · exact hF.unary _ _ (by omega)
    · refine bind_out_ne (hF.row _ _ _ (by omega) (by omega)) fun a s1 h1 => hF.rows _ _ _ _ _ (by omega) ?_
      have := Mn.lt (hS.row _ _ _ _ _ h1) (hB.row _ _ _ _ _ h1).1
      omega
  · intro v d fr a s hv hm
    show sRows E L v d fr a s ≠ .out
    unfold sRows
    split
    · rename_i q
      have hs : s.i < N := wd_lt hW (by
        intro e; rw [e] at q
        match v, hv, q with
        | 0, _, q => exact absurd q (by decide)
        | 1, _, q => exact absurd q (by decide)
        | 2, _, q => exact absurd q (by decide)
        | 3, _, q => exact absurd q (by decide)
        | 4, _, q => exact absurd q (by decide))
      have a1 := Mn.lt hs (adv_up s).1
      refine bind_out_ne (hF.row _ _ _ (by omega) (by omega)) fun b s1 h1 => bind_out_ne put_no fun c s2 h2 => ?_
      split
      · exact fun e => by cases e
      · refine hF.rows _ _ _ _ _ hv ?_
        have b1 := Mn.le (N := N) (Nat.le_of_succ_le (hB.row _ _ _ _ _ h1).1)
        have b2 : s2.i = s1.i := by cases h2; rfl
        have b3 : Mn N s2 = Mn N s1 := by unfold Mn; rw [b2]
        omega
    · exact fun e => by cases e
  · intro d s hm
    refine bind_out_ne deep_no fun _ s1 h1 => ?_
    have e := deep_up h1
    subst e
    exact hF.row _ _ _ (by omega) (by omega)
  · intro d s hm
    show sUnary E L d s ≠ .out
    unfold sUnary
    split
    · rename_i q
      have a1 := Mn.lt (wd_lt hW (s := s) (by rcases q with q | q <;> (rw [q]; decide))) (adv_up s).1
      refine bind_out_ne deep_no fun _ s1 h1 => ?_
      have e := deep_up h1
      subst e
      exact bind_out_ne (hF.unary _ _ (by omega)) fun _ _ _ => put_no
    · exact hF.prim _ _ (by omega)
  · intro d s hm
    show sPrim E L d s ≠ .out
    unfold sPrim
    split
    · exact put_no
    split
    · exact put_no
    split
    · exact put_no
    split
    · exact put_no
    split
    · rename_i q
      have a1 := Mn.lt (wd_lt hW (s := s) (by rw [q]; decide)) (adv_up s).1
      exact bind_out_ne (hF.expr _ _ (by omega)) fun _ _ _ => bind_out_ne want_no fun _ _ _ e => by cases e
    · refine bind_out_ne knd_no fun _ s1 h1 => ?_
      have a1 := Mn.lt (knd_lt hT (by decide) h1) (knd_up h1).1
      split
      · have a2 := Mn.le (N := N) (Nat.le_of_succ_le (adv_up s1).1)
        exact bind_out_ne (hF.expr _ _ (by omega)) fun _ _ _ => bind_out_ne want_no fun _ _ _ => put_no
      split
      · exact call_no hW hF (by omega)
      · exact put_no
  · intro fr nm d l s hm
    show sArgs E L fr nm d l s ≠ .out
    unfold sArgs
    split
    · exact put_no
    · refine bind_out_ne (by split <;> first | exact want_no | exact fun e => (by cases e)) fun _ s1 h1 => ?_
      have u : s.i ≤ s1.i := by
        split at h1
        · cases h1; exact Nat.le_refl _
        · exact Nat.le_of_succ_le (want_up h1).1
      have a1 := Mn.le (N := N) u
      refine bind_out_ne (hF.expr _ _ (by omega)) fun _ s2 h2 => ?_
      have a2 := Mn.lt (hS.expr _ _ _ _ h2) (hB.expr _ _ _ _ h2).1
      split
      · exact hF.args _ _ _ _ _ (by omega)
      · exact fun e => by cases e
  · intro d l s hm
    show sStmts E L d l s ≠ .out
    unfold sStmts
    split
    · exact fun e => by cases e
    · refine bind_out_ne (hF.stmt _ _ (by omega)) fun _ s1 h1 => hF.stmts _ _ _ ?_
      have a2 := Mn.lt (hS.stmt _ _ _ _ h1) (hB.stmt _ _ _ _ h1).1
      omega
  · intro d s hm
    show sStmt E L d s ≠ .out
    unfold sStmt
    split
    · rename_i q
      have a1 := Mn.lt (wd_lt hW (s := s) (by rw [q]; decide)) (adv_up s).1
      exact bind_out_ne (sDecl_no hW hT hF (by omega)) fun _ _ _ => endS_no
    split
    · rename_i q
      have a1 := Mn.lt (wd_lt hW (s := s) (by rw [q]; decide)) (adv_up s).1
      exact hF.branch _ _ _ (by omega)
    split
    · rename_i q
      have a1 := Mn.lt (wd_lt hW (s := s) (by rw [q]; decide)) (adv_up s).1
      refine bind_out_ne (hF.expr _ _ (by omega)) fun _ s1 h1 => ?_
      have a2 := Mn.le (N := N) (Nat.le_of_succ_le (hB.expr _ _ _ _ h1).1)
      exact bind_out_ne (block_no hW hF (by omega)) fun _ _ _ => add_no
    split
    · exact endS_no
    split
    · exact endS_no
    split
    · split
      · exact endS_no
      · rename_i q _
        have a1 := Mn.lt (wd_lt hW (s := s) (by rw [q]; decide)) (adv_up s).1
        exact bind_out_ne (hF.expr _ _ (by omega)) fun _ _ _ => endS_no
    split
    · rename_i q
      have a1 := Mn.lt (wd_lt hW (s := s) (by rw [q]; decide)) (adv_up s).1
      exact bind_out_ne (hF.expr _ _ (by omega)) fun _ _ _ => endS_no
    · exact bind_out_ne (sNamed_no hW hT hB hF (by omega)) fun _ _ _ => endS_no
  · intro fr d s hm
    refine bind_out_ne (hF.expr _ _ (by omega)) fun _ s1 h1 => ?_
    have a1 := Mn.lt (hS.expr _ _ _ _ h1) (hB.expr _ _ _ _ h1).1
    refine bind_out_ne (block_no hW hF (by omega)) fun _ s2 h2 => ?_
    have a2 := Mn.le (N := N) (Nat.le_of_succ_le (Nat.le_of_succ_le (block_up hB h2).1))
    split
    · have a3 := Mn.le (N := N) (Nat.le_of_succ_le (adv_up s2).1)
      split
      · refine bind_out_ne deep_no fun _ s3 h3 => ?_
        have e := deep_up h3
        subst e
        have a4 := Mn.le (N := N) (Nat.le_of_succ_le (adv_up (adv s2)).1)
        exact bind_out_ne (hF.branch _ _ _ (by omega)) fun _ _ _ => add_no
      · exact bind_out_ne (block_no hW hF (by omega)) fun _ _ _ => add_no
    · exact add_no
end
theorem fu_lv {E : Env} {N : Nat} (hW : E.W.length = N) (hT : E.T.length = N) : ∀ n, Fu N (lv E n) n
  | 0 => ⟨fun _ _ _ _ h => by omega, fun _ _ _ _ _ _ h => by omega, fun _ _ h => by omega, fun _ _ h => by omega, fun _ _ h => by omega, fun _ _ _ _ _ h => by omega, fun _ _ _ h => by omega, fun _ _ h => by omega, fun _ _ _ h => by omega⟩
  | n + 1 => fu_step hW hT (bd_lv n) (fst_lv hW hT n) (fu_lv hW hT n)
section
variable {E : Env} {N : Nat}
theorem prms_no (hW : E.W.length = N) (hT : E.T.length = N) : ∀ n l s, Mn N s + 1 ≤ n → prms E n l s ≠ .out := by
  intro n
  induction n with
  | zero => intro l s h; omega
  | succ n ih =>
    intro l s h
    unfold prms
    split
    · exact fun e => by cases e
    · refine bind_out_ne (by split <;> first | exact want_no | exact fun e => (by cases e)) fun _ s1 h1 => ?_
      have u : s.i ≤ s1.i := by
        split at h1
        · cases h1; exact Nat.le_refl _
        · exact Nat.le_of_succ_le (want_up h1).1
      have a1 := Mn.le (N := N) u
      refine bind_out_ne knd_no fun _ s2 h2 => ?_
      have a2 := Mn.lt (knd_lt hT (by decide) h2) (knd_up h2).1
      split
      · exact ih _ _ (by omega)
      · exact fun e => by cases e
theorem prms_up : ∀ n l s x t, prms E n l s = .ok x t → Up 1 1 1 s t := by
  intro n
  induction n with
  | zero => intro l s x t h; cases h
  | succ n ih =>
    intro l s x t h
    unfold prms at h
    split at h
    · cases h; exact adv_up s
    · obtain ⟨_, s1, h1, h2⟩ := bind_inv h
      have u : Up 0 0 0 s s1 := by
        split at h1
        · cases h1; exact Up.refl _
        · exact (want_up h1).le (by omega) (by omega) (by omega)
      obtain ⟨_, s2, h3, h4⟩ := bind_inv h2
      split at h4
      · exact ((u.trans (knd_up h3)).trans (ih _ _ _ _ h4)).le (by omega) (by omega) (by omega)
      · cases h4
/-- What a function's head takes. -/
theorem fct_inv {n : Nat} {s t : PS} {x : Unit} (h : fct E n s = .ok x t) : s.fn.length < 32 ∧ ∃ nm s2 s3 ps s4 ty s5 bd s6, knd E 1 (adv s) = .ok nm s2 ∧ want E wLpar s2 = .ok () s3 ∧ prms E n [] s3 = .ok ps s4 ∧
    ((wd E s4 = wInt ∧ ty = 1 ∧ s5 = adv s4) ∨ (wd E s4 ≠ wInt ∧ ty = 4 ∧ s5 = s4)) ∧ wd E s = wFunc ∧ block E (lv E n) 1 s5 = .ok bd s6 ∧ t = { s6 with fn := s6.fn ++ [{ nm := nm, f := hr E s, e := pe E s6, ps := ps, ty := ty, bd := bd }] } := by
  obtain ⟨_, s0, h0, h⟩ := bind_inv h
  obtain ⟨_, s1, h1, h⟩ := bind_inv h
  have q : wd E s0 = wFunc ∧ s1 = adv s0 := by
    unfold want at h1
    split at h1
    · rename_i q; cases h1; exact ⟨q, rfl⟩
    · cases h1
  obtain ⟨q, rfl⟩ := q
  have e : s0 = s ∧ s.fn.length < 32 := by
    split at h0
    · cases h0
    · rename_i hq
      cases h0
      exact ⟨rfl, Nat.lt_of_not_le fun hl => hq ⟨q, hl⟩⟩
  obtain ⟨rfl, hl⟩ := e
  obtain ⟨nm, s2, h2, h⟩ := bind_inv h
  obtain ⟨_, s3, h3, h⟩ := bind_inv h
  obtain ⟨ps, s4, h4, h⟩ := bind_inv h
  obtain ⟨ty, s5, h5, h⟩ := bind_inv h
  obtain ⟨bd, s6, h6, h⟩ := bind_inv h
  cases h
  refine ⟨hl, nm, s2, s3, ps, s4, ty, s5, bd, s6, h2, h3, h4, ?_, q, h6, rfl⟩
  split at h5
  · rename_i q5; cases h5; exact .inl ⟨q5, rfl, rfl⟩
  · rename_i q5; cases h5; exact .inr ⟨q5, rfl, rfl⟩
theorem fct_up {n : Nat} {s t : PS} {x : Unit} (h : fct E n s = .ok x t) : s.i + 1 ≤ t.i ∧ t.ex.length + s.i ≤ s.ex.length + t.i ∧ t.fn.length = s.fn.length + 1 ∧ t.st.length + s.i + 1 ≤ s.st.length + t.i := by
  obtain ⟨hl, nm, s2, s3, ps, s4, ty, s5, bd, s6, h2, h3, h4, h5, q, h6, rfl⟩ := fct_inv h
  have u := ((((adv_up s).trans (knd_up h2)).trans (want_up h3)).trans (prms_up _ _ _ _ _ h4))
  have u5 : Up 0 0 0 s4 s5 := by
    rcases h5 with ⟨_, _, rfl⟩ | ⟨_, _, rfl⟩
    · exact (adv_up _).le (by omega) (by omega) (by omega)
    · exact Up.refl _
  obtain ⟨u6, u7, u8, u9, u10⟩ := (u.trans u5).trans (block_up (bd_lv n) h6)
  exact ⟨by simp only; omega, by simp only; omega, by simp [u8], by simp only; omega⟩
theorem fct_no (hW : E.W.length = N) (hT : E.T.length = N) {n : Nat} {s : PS} (h : Mn N s + 12 ≤ n) : fct E n s ≠ .out := by
  refine bind_out_ne (by split <;> exact fun e => by cases e) fun _ s0 h0 => ?_
  have e : s0 = s := by
    split at h0
    · cases h0
    · cases h0; rfl
  subst e
  refine bind_out_ne want_no fun _ s1 h1 => ?_
  have a1 := Mn.le (N := N) (Nat.le_of_succ_le (want_up h1).1)
  refine bind_out_ne knd_no fun _ s2 h2 => ?_
  have a2 := Mn.le (N := N) (Nat.le_of_succ_le (knd_up h2).1)
  refine bind_out_ne want_no fun _ s3 h3 => ?_
  have a3 := Mn.le (N := N) (Nat.le_of_succ_le (want_up h3).1)
  refine bind_out_ne (prms_no hW hT _ _ _ (by omega)) fun _ s4 h4 => ?_
  have a4 := Mn.le (N := N) (Nat.le_of_succ_le (prms_up _ _ _ _ _ h4).1)
  refine bind_out_ne (by split <;> exact fun e => by cases e) fun _ s5 h5 => ?_
  have a5 : Mn N s5 ≤ Mn N s4 := by
    split at h5
    · cases h5; exact Mn.le (N := N) (Nat.le_of_succ_le (adv_up _).1)
    · cases h5; exact Nat.le_refl _
  exact bind_out_ne (block_no hW (fu_lv hW hT n) (by omega)) fun _ _ _ e => by cases e
theorem fcts_no (hW : E.W.length = N) (hT : E.T.length = N) {m : Nat} : ∀ n s, Mn N s + 1 ≤ n → Mn N s + 12 ≤ m → fcts E m n s ≠ .out := by
  intro n
  induction n with
  | zero => intro s h; omega
  | succ n ih =>
    intro s h hm
    unfold fcts
    split
    · exact fun e => by cases e
    · refine bind_out_ne (fct_no hW hT hm) fun _ s1 h1 => ?_
      have hs : s.i < N := by
        obtain ⟨hl, nm, s2, s3, ps, s4, ty, s5, bd, s6, h2, h3, h4, h5, q, h6, rfl⟩ := fct_inv h1
        exact wd_lt hW (by rw [q]; decide)
      have a1 := Mn.lt hs (fct_up h1).1
      exact ih _ (by omega) (by omega)
end
theorem env_T (L : List Int) : (envOf L).T.length ≤ L.length + 1 := by
  show (Tk.allT L).1.length ≤ _
  unfold Tk.allT
  split
  · simp
  · have := Tk.als_len (L.length + 1) 0 L
    split <;> rename_i e <;> rw [e] at this <;> simp at this ⊢ <;> omega
/-- A text is parsed, or something is wrong. -/
theorem prs_no (L : List Int) : prs L ≠ .out := by
  unfold prs
  split
  · exact fun e => by cases e
  · have hW : (envOf L).W.length = (envOf L).T.length := by simp [envOf]
    have := env_T L
    refine fcts_no hW rfl _ _ ?_ ?_ <;> (unfold Mn fuel; simp only; omega)
end Go.Proofs.YtgnkdeapifbgeaaDoor.Sy
