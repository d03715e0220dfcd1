/- Code: good code's text is parsed as it; its lines. No program. -/
import Derived.Test.YtpamkidcmjfieaaDoorCt
namespace Go.Proofs.YtpamkidcmjfieaaDoor
open Go Go.RowKit Fw Nu
set_option linter.unusedVariables false
set_option maxRecDepth 20000
namespace Cd
theorem rn_all {p : Int → Bool} : ∀ {L : List Int}, Tk.rn p L = L.length → ∀ c ∈ L, p c = true := by
  intro L
  induction L with
  | nil => intro _ c hc; cases hc
  | cons x r ih =>
    intro h c hc
    rw [Tk.rn] at h
    split at h
    · rename_i hx
      rw [List.length_cons] at h
      rcases List.mem_cons.1 hc with rfl | hc
      · exact hx
      · exact ih (by omega) c hc
    · simp at h
theorem nm_chars {L : List Int} (h : nm L = true) : L ≠ [] ∧ ∀ c ∈ L, Tk.eith c = true := by
  unfold nm at h
  simp only [Bool.and_eq_true, beq_iff_eq] at h
  obtain ⟨hcode, hlen, hm⟩ := h
  have hal : Tk.als (L.length + 1) 0 L = ((Tk.allT L).1, none) := by
    unfold Tk.allT at hcode ⊢
    split
    · rename_i h2; rw [if_pos h2] at hcode; simp at hcode
    · rename_i h2
      rw [if_neg h2] at hcode
      split
      · rename_i l hl; exact hl
      · rename_i l p hl
        rw [hl] at hcode
        simp at hcode
  match hts : (Tk.allT L).1, hlen with
  | [t0, t1], _ =>
    rw [hts] at hm hal
    simp only [List.getElem?_cons_zero, Bool.and_eq_true, beq_iff_eq] at hm
    obtain ⟨m1, m2, m3⟩ := hm
    rw [Tk.als] at hal
    split at hal
    · rename_i hok
      split at hal
      · simp at hal
      · rename_i hk
        obtain ⟨l, e, hle⟩ : ∃ l e, Tk.als L.length (0 + (Tk.nx L).n + (Tk.nx L).m) (L.drop ((Tk.nx L).n + (Tk.nx L).m)) = (l, e) := ⟨_, _, rfl⟩
        rw [hle] at hal
        simp only [Prod.mk.injEq, List.cons.injEq] at hal
        obtain ⟨⟨rfl, _⟩, _⟩ := hal
        simp only at m1 m2 m3
        have hn0 : (Tk.nx L).n = 0 := by omega
        have hmL : (Tk.nx L).m = L.length := by omega
        have hsk : Tk.sk false L = 0 := hn0
        have hb : (Tk.nx L).m = (Tk.body L).2.2 := by show (Tk.body (L.drop (Tk.sk false L))).2.2 = _; rw [hsk, List.drop_zero]
        have hk1 : (Tk.body L).2.1 = 1 := by have : (Tk.nx L).k = (Tk.body (L.drop (Tk.sk false L))).2.1 := rfl; rw [hsk, List.drop_zero] at this; rw [← this]; exact m1
        rw [hb] at hmL
        cases L with
        | nil => simp [Tk.body] at hk1
        | cons c r =>
          refine ⟨by simp, ?_⟩
          rw [Tk.body] at hk1 hmL
          split at hk1
          · rename_i hl
            rw [if_pos hl] at hmL
            exact rn_all hmL
          · rename_i hl
            rw [if_neg hl] at hmL
            split at hk1
            · split at hk1
              · simp at hk1
              · simp at hk1
            · split at hk1
              · simp at hk1
              · simp at hk1
    · simp at hal
theorem eith_ok {c : Int} (h : Tk.eith c = true) : c ≠ 32 ∧ c ≠ 10 := by
  simp [Tk.eith, Tk.lett, Tk.digi] at h
  omega
theorem dc_ok (n : Int) : ∀ c ∈ dc n, c ≠ 32 ∧ c ≠ 10 := fun c hc => by
  have := dc_chars n c hc
  omega
theorem sh_ok0 : ∀ i : Nat, i < 29 → (sh ((i : Int) + 1)).1.all (fun c => decide (c ≠ 32 ∧ c ≠ 10)) = true ∧ opOf (sh ((i : Int) + 1)).1 = some (i + 1) ∧ (sh ((i : Int) + 1)).1 ≠ procL ∧ (sh ((i : Int) + 1)).1.length ≤ 7 := by decide +kernel
theorem sh_ok {op : Int} (h : 1 ≤ op ∧ op ≤ 29) : (∀ c ∈ (sh op).1, c ≠ 32 ∧ c ≠ 10) ∧ opOf (sh op).1 = some op.toNat ∧ (sh op).1 ≠ procL ∧ (sh op).1.length ≤ 7 := by
  have := sh_ok0 (op - 1).toNat (by omega)
  rw [show (((op - 1).toNat : Nat) : Int) + 1 = op from by omega, show (op - 1).toNat + 1 = op.toNat from by omega] at this
  exact ⟨fun c hc => of_decide_eq_true (List.all_eq_true.1 this.1 c hc), this.2⟩
theorem jnc_ok {ws : List (List Int)} (h : ∀ w ∈ ws, ∀ c ∈ w, c ≠ 32 ∧ c ≠ 10) : ∀ c ∈ Sp.jnc 32 ws, c ≠ 10 := by
  induction ws with
  | nil => intro c hc; cases hc
  | cons w r ih =>
    intro c hc
    cases r with
    | nil => exact (h w (by simp) c hc).2
    | cons v r =>
      rw [Sp.jnc_cons 32 w (by simp)] at hc
      rcases List.mem_append.1 hc with hc | hc
      · exact (h w (by simp) c hc).2
      · rcases List.mem_cons.1 hc with rfl | hc
        · decide
        · exact ih (fun x hx => h x (List.mem_cons_of_mem _ hx)) c hc
theorem procF_ok {p : Prc} (hn : nm (B p.nm) = true) : ∀ w ∈ [procL, B p.nm, dc p.pa, dc p.sl, dc p.ty], ∀ c ∈ w, c ≠ 32 ∧ c ≠ 10 := by
  intro w hw c hc
  simp only [List.mem_cons, List.not_mem_nil, or_false] at hw
  rcases hw with rfl | rfl | rfl | rfl | rfl
  · revert c; decide
  · exact eith_ok ((nm_chars hn).2 c hc)
  · exact dc_ok _ c hc
  · exact dc_ok _ c hc
  · exact dc_ok _ c hc
theorem fld_ok {i : Ins} (h : 1 ≤ i.op ∧ i.op ≤ 29) : ∀ w ∈ fld i, ∀ c ∈ w, c ≠ 32 ∧ c ≠ 10 := by
  intro w hw c hc
  unfold fld at hw
  rcases List.mem_cons.1 hw with rfl | hw
  · exact (sh_ok h).1 c hc
  rcases List.mem_append.1 hw with hw | hw
  · split at hw
    · cases hw
    · rw [List.mem_singleton] at hw; subst hw; exact dc_ok _ c hc
  · split at hw
    · rw [List.mem_singleton] at hw; subst hw; exact dc_ok _ c hc
    · cases hw
theorem addL_proc (c : Cde) {p : Prc} (hn : nm (B p.nm) = true) (hi : I64 p.pa ∧ I64 p.sl ∧ I64 p.ty) : addL c (procLn p) = some ⟨c.ps ++ [⟨p.nm, c.is.length, 0, p.pa, p.sl, p.ty⟩], c.is⟩ := by
  unfold addL procLn
  rw [Sp.spl_jnc 32 _ (by simp) (fun w hw x hx => (procF_ok hn w hw x hx).1)]
  simp only [if_true]
  unfold addP
  have e4 : [B p.nm, dc p.pa, dc p.sl, dc p.ty].length = 4 := rfl
  rw [if_pos e4]
  have e : nms ([B p.nm, dc p.pa, dc p.sl, dc p.ty].drop 1) = some [p.pa, p.sl, p.ty] := by
    simp only [List.drop_succ_cons, List.drop_zero, nms, num_dc hi.1, num_dc hi.2.1, num_dc hi.2.2]
  rw [e]
  simp only [List.getD_cons_zero, List.getD_cons_succ]
  rw [if_pos hn, nums_B]
theorem addL_ins (c : Cde) {q : Cde} {p : Prc} {i : Ins} (hps : c.ps ≠ []) (hf : fit q p i) (hi : I64 i.arg ∧ I64 i.more) : addL c (insLn i) = some ⟨c.ps, c.is ++ [i]⟩ := by
  obtain ⟨h1, h2, h3⟩ := hf
  obtain ⟨s1, s2, s3, _⟩ := sh_ok h1
  unfold addL insLn
  rw [Sp.spl_jnc 32 _ (by simp [fld]) (fun w hw x hx => (fld_ok h1 w hw x hx).1)]
  have hop : ((i.op.toNat : Nat) : Int) = i.op := by omega
  have h0 : ¬ (c.ps.length = 0) := fun e => hps (List.length_eq_zero_iff.1 e)
  unfold fitM at h3
  by_cases k0 : (sh i.op).2.1 = 0
  · have n7 : ¬ i.op = 7 := fun e => by rw [e] at k0; exact absurd k0 (by decide)
    have ha : i.arg = 0 := by unfold fitA at h2; rw [k0] at h2; simpa using h2
    rw [if_neg n7] at h3
    have hfl : fld i = [(sh i.op).1] := by unfold fld; rw [if_pos k0, if_neg n7]; rfl
    rw [hfl]
    simp only [if_neg s3]
    unfold addI
    rw [s2]
    simp only [nms, List.nil_append, List.getD_cons_zero, List.getD_cons_succ, List.length_nil]
    rw [if_neg (by omega), hop]
    have hi' : (⟨i.op, 0, 0⟩ : Ins) = i := by cases i; simp only at ha h3; subst ha h3; rfl
    rw [hi', if_pos hfl]
  · by_cases n7 : i.op = 7
    · have hfl : fld i = [(sh i.op).1, dc i.arg, dc i.more] := by unfold fld; rw [if_neg k0, if_pos n7]; rfl
      rw [hfl]
      simp only [if_neg s3]
      unfold addI
      rw [s2]
      have e : nms [dc i.arg, dc i.more] = some [i.arg, i.more] := by simp only [nms, num_dc hi.1, num_dc hi.2]
      rw [e]
      simp only [List.cons_append, List.nil_append, List.getD_cons_zero, List.getD_cons_succ, List.length_cons, List.length_nil]
      rw [if_neg (by omega), hop, if_pos hfl]
    · rw [if_neg n7] at h3
      have hfl : fld i = [(sh i.op).1, dc i.arg] := by unfold fld; rw [if_neg k0, if_neg n7]; rfl
      rw [hfl]
      simp only [if_neg s3]
      unfold addI
      rw [s2]
      have e : nms [dc i.arg] = some [i.arg] := by simp only [nms, num_dc hi.1]
      rw [e]
      simp only [List.cons_append, List.nil_append, List.getD_cons_zero, List.getD_cons_succ, List.length_cons, List.length_nil]
      have hi' : (⟨i.op, i.arg, 0⟩ : Ins) = i := by cases i; simp only at h3; subst h3; rfl
      rw [if_neg (by omega), hop, hi', if_pos hfl]
/-- All lines, one by one. -/
def addAll : Cde → List (List Int) → Option Cde
  | c, [] => some c
  | c, l :: r => match addL c l with
    | none => none
    | some d => addAll d r
theorem addAll_append : ∀ (a b : List (List Int)) (c d : Cde), addAll c a = some d → addAll c (a ++ b) = addAll d b := by
  intro a
  induction a with
  | nil => intro b c d h; simp only [addAll, Option.some.injEq] at h; subst h; rfl
  | cons l r ih =>
    intro b c d h
    rw [addAll] at h
    split at h
    · cases h
    · rename_i e he
      rw [List.cons_append, addAll, he]
      exact ih b e d h
theorem pgo_all : ∀ (ls : List (List Int)) (c d : Cde) (n : Nat), addAll c ls = some d → pgo c n (ls ++ [[]]) = .inl d := by
  intro ls
  induction ls with
  | nil => intro c d n h; simp only [addAll, Option.some.injEq] at h; subst h; rfl
  | cons l r ih =>
    intro c d n h
    rw [addAll] at h
    split at h
    · cases h
    · rename_i e he
      have := ih e d (n + 1) h
      cases hr : r ++ [[]] with
      | nil => simp at hr
      | cons m s =>
        rw [List.cons_append, hr, pgo, he]
        rw [hr] at this
        exact this
/-- A procedure as it stands while lines come. -/
def z0 (p : Prc) : Prc := (Prc.wt p (0))
theorem addAll_ins {q : Cde} {p : Prc} : ∀ (is : List Ins) (c : Cde), c.ps ≠ [] → (∀ i ∈ is, fit q p i ∧ I64 i.arg ∧ I64 i.more) → addAll c (is.map insLn) = some ⟨c.ps, c.is ++ is⟩ := by
  intro is
  induction is with
  | nil => intro c _ _; simp [addAll]
  | cons i r ih =>
    intro c hc h
    obtain ⟨h1, h2⟩ := h i (by simp)
    rw [List.map_cons, addAll, addL_ins c hc h1 h2]
    simp only
    rw [ih ⟨c.ps, c.is ++ [i]⟩ hc (fun x hx => h x (List.mem_cons_of_mem _ hx)), List.append_assoc]
    rfl
/-- The numbers of good code are of 64 bits. -/
def WN (c : Cde) : Prop := (∀ p ∈ c.ps, I64 p.pa ∧ I64 p.sl ∧ I64 p.ty) ∧ ∀ i ∈ c.is, I64 i.arg ∧ I64 i.more
theorem part_mem {c : Cde} {p : Prc} {i : Ins} (h : i ∈ part c p) : i ∈ c.is := List.mem_of_mem_take (List.mem_of_mem_drop h)
theorem addAll_lns {c : Cde} (hf : form c) (hw : WN c) : ∀ k, k ≤ c.ps.length → addAll ⟨[], []⟩ ((c.ps.take k).flatMap fun p => procLn p :: (part c p).map insLn) = some ⟨(c.ps.take k).map z0, c.is.take (cum c.ps k).toNat⟩ := by
  intro k
  induction k with
  | zero => intro _; simp [addAll, cum]
  | succ k ih =>
    intro hk
    obtain ⟨p, hp⟩ : ∃ p, c.ps[k]? = some p := ⟨_, List.getElem?_eq_getElem (by omega)⟩
    have hpm := List.mem_of_getElem? hp
    obtain ⟨f1, f2, f3, f4, f5, f6, f7⟩ := hf.1 k p hp
    have h0 := cum_nn (c := c) (n := c.ps.length) (fun j p _ h => hf.1 j p h) k (by omega)
    rw [List.take_add_one, hp, Option.toList_some, List.flatMap_append, addAll_append _ _ _ _ (ih (by omega)), List.flatMap_cons, List.flatMap_nil, List.append_nil, addAll, addL_proc _ f7 (hw.1 p hpm)]
    simp only
    rw [addAll_ins (q := c) (p := p) (part c p) _ (by simp) (fun i hi => ⟨hf.2.1 p hpm i hi, hw.2 i (part_mem hi)⟩)]
    have e1 : ((c.is.take (cum c.ps k).toNat).length : Int) = p.fr := by rw [List.length_take]; omega
    have e2 : c.is.take (cum c.ps k).toNat ++ part c p = c.is.take (cum c.ps (k + 1)).toNat := by
      rw [cum_succ hp]
      unfold part
      rw [f1]
      have : c.is.take (cum c.ps k).toNat = (c.is.take p.to.toNat).take (cum c.ps k).toNat := by rw [List.take_take, Nat.min_eq_left (by omega)]
      rw [this, List.take_append_drop]
    rw [e2, List.map_append]
    simp only [e1]
    rfl
theorem tosL_z0 : ∀ (ps : List Prc) (n : Int), (∀ (j : Nat) p q, ps[j]? = some p → ps[j + 1]? = some q → p.to = q.fr) → (∀ p, ps.getLast? = some p → p.to = n) → tosL (ps.map z0) n = ps := by
  intro ps
  induction ps with
  | nil => intro n _ _; rfl
  | cons p r ih =>
    intro n h1 h2
    cases r with
    | nil =>
      have := h2 p rfl
      show [(Prc.wt (z0 p) (n))] = [p]
      rw [← this]; rfl
    | cons q r =>
      have := h1 0 p q rfl rfl
      have hr := ih n (fun j a b ha hb => h1 (j + 1) a b ha hb) (fun a ha => h2 a (by rw [List.getLast?_cons_cons]; exact ha))
      show (Prc.wt (z0 p) ((z0 q).fr)) :: tosL ((q :: r).map z0) n = _
      rw [hr]
      congr 1
      show (Prc.wt (z0 p) (q.fr)) = p
      rw [← this]; rfl
theorem form_tos {c : Cde} (hf : form c) : tosL (c.ps.map z0) c.is.length = c.ps := by
  refine tosL_z0 _ _ (fun j p q hp hq => ?_) (fun p hp => ?_)
  · have := (hf.1 (j + 1) q hq).1
    rw [cum_succ hp] at this
    exact this.symm
  · rw [List.getLast?_eq_getElem?] at hp
    have h0 := hf.2.2.1
    have := cum_succ hp
    rw [show c.ps.length - 1 + 1 = c.ps.length from by omega, hf.2.2.2] at this
    exact this.symm
theorem lns_ok {c : Cde} (hf : form c) : ∀ l ∈ lns c, ∀ x ∈ l, x ≠ 10 := by
  intro l hl
  unfold lns at hl
  rw [List.mem_flatMap] at hl
  obtain ⟨p, hp, hl⟩ := hl
  rcases List.mem_cons.1 hl with rfl | hl
  · obtain ⟨j, hj⟩ := List.mem_iff_getElem?.1 hp
    exact jnc_ok (procF_ok (hf.1 j p hj).2.2.2.2.2.2)
  · rw [List.mem_map] at hl
    obtain ⟨i, hi, rfl⟩ := hl
    exact jnc_ok (fld_ok (hf.2.1 p hp i hi).1)
theorem spl_txt {c : Cde} (hf : form c) : Sp.spl 10 (txt c) = lns c ++ [[]] := by
  unfold txt
  rw [← unl_jnc]
  refine Sp.spl_jnc 10 _ (by simp) (fun w hw x hx => ?_)
  rcases List.mem_append.1 hw with hw | hw
  · exact lns_ok hf w hw x hx
  · rw [List.mem_singleton] at hw; subst hw; cases hx
/-- Good code's text is parsed as it. -/
theorem back {c : Cde} (hg : Gd c) (hw : WN c) (hl : (txt c).length ≤ 200000) : PR (txt c) c 0 0 := by
  have hf := hg.1
  have h := addAll_lns hf hw c.ps.length (Nat.le_refl _)
  rw [List.take_length] at h
  have hall := pgo_all _ _ _ 0 h
  have ht : c.is.take (cum c.ps c.ps.length).toNat = c.is := by rw [hf.2.2.2, List.take_of_length_le (by omega)]
  rw [ht] at hall
  have hto : tos ⟨c.ps.map z0, c.is⟩ = c := by unfold tos; simp only; rw [form_tos hf]
  refine .inr ⟨hl, .inr ⟨⟨c.ps.map z0, c.is⟩, ?_, .inl ⟨by rw [hto]; exact hg, hto.symm, rfl, rfl⟩⟩⟩
  rw [spl_txt hf]
  exact hall
theorem lns_length {c : Cde} (hf : form c) : (lns c).length = c.ps.length + c.is.length := by
  have key : ∀ k, k ≤ c.ps.length → (((c.ps.take k).flatMap fun p => procLn p :: (part c p).map insLn).length : Int) = k + cum c.ps k := by
    intro k
    induction k with
    | zero => intro _; simp [cum]
    | succ k ih =>
      intro hk
      obtain ⟨p, hp⟩ : ∃ p, c.ps[k]? = some p := ⟨_, List.getElem?_eq_getElem (by omega)⟩
      obtain ⟨f1, f2, f3, _⟩ := hf.1 k p hp
      have h0 := cum_nn (c := c) (n := c.ps.length) (fun j p _ h => hf.1 j p h) k (by omega)
      have := ih (by omega)
      rw [List.take_add_one, hp, Option.toList_some, List.flatMap_append, List.length_append, List.flatMap_cons, List.flatMap_nil, List.append_nil, List.length_cons, List.length_map, cum_succ hp]
      have hpl : ((part c p).length : Int) = p.to - p.fr := by unfold part; rw [List.length_drop, List.length_take]; omega
      omega
  have := key c.ps.length (Nat.le_refl _)
  rw [List.take_length, hf.2.2.2] at this
  show (c.ps.flatMap _).length = _
  omega
/-- How many line ends a text has. -/
theorem count_unl : ∀ ls : List (List Int), (∀ l ∈ ls, ∀ x ∈ l, x ≠ 10) → (unl ls).countP (· == 10) = ls.length := by
  intro ls
  induction ls with
  | nil => intro _; rfl
  | cons l r ih =>
    intro h
    have h1 : l.countP (· == 10) = 0 := by
      rw [List.countP_eq_zero]
      intro x hx
      have := h l (by simp) x hx
      simpa using this
    rw [show unl (l :: r) = (l ++ [10]) ++ unl r from rfl, List.countP_append, List.countP_append, h1, ih (fun x hx => h x (List.mem_cons_of_mem _ hx))]
    simp
    omega
theorem pgo_last : ∀ (ls : List (List Int)) (c d : Cde) (n : Nat), ls ≠ [] → pgo c n ls = .inl d → ls.getLast? = some [] := by
  intro ls
  induction ls with
  | nil => intro c d n h; exact (h rfl).elim
  | cons l r ih =>
    intro c d n _ hp
    cases r with
    | nil =>
      rw [pgo] at hp
      split at hp
      · rename_i hl; subst hl; rfl
      · cases hp
    | cons m r =>
      rw [pgo] at hp
      split at hp
      · cases hp
      · rename_i e he
        rw [List.getLast?_cons_cons]
        exact ih e d (n + 1) (by simp) hp
theorem jnc_last : ∀ (ls : List (List Int)), ls.getLast? = some [] → Sp.jnc 10 ls = [] ∨ (Sp.jnc 10 ls).getLast? = some 10 := by
  intro ls
  induction ls with
  | nil => intro h; cases h
  | cons l r ih =>
    intro h
    cases r with
    | nil => simp at h; subst h; exact .inl rfl
    | cons m r =>
      rw [List.getLast?_cons_cons] at h
      rw [Sp.jnc_cons 10 l (by simp)]
      refine .inr ?_
      rcases ih h with e | e
      · rw [e]; simp
      · rw [List.getLast?_append, List.getLast?_cons, e]; simp
/-- A text that is not empty and has no line end behind it is no code's. -/
theorem PR.cut {L : List Int} {c : Cde} {n e : Int} (h : PR L c n e) (hl : L.length ≤ 200000) (hne : ∀ x, L.getLast? = some x → x ≠ 10) : e = 3 := by
  rcases h with ⟨h0, _⟩ | ⟨_, ⟨_, _, _, _, h⟩ | ⟨d, hd, h⟩⟩
  · omega
  · exact h
  · rcases h with ⟨hg, hc, hn, he⟩ | ⟨_, _, _, h⟩
    · exfalso
      have := jnc_last _ (pgo_last _ _ _ _ (Sp.spl_ne 10 L) hd)
      rw [Sp.jnc_spl] at this
      rcases this with rfl | h10
      · have : d = ⟨[], []⟩ := by
          have hd' : pgo ⟨[], []⟩ 0 [[]] = .inl d := hd
          rw [pgo, if_pos rfl] at hd'
          cases hd'; rfl
        subst this
        exact absurd hg.1.2.2.1 (by decide)
      · exact hne 10 h10 rfl
    · exact h
/-- A text's length. -/
theorem jnc_length : ∀ ws : List (List Int), (Sp.jnc 32 ws).length ≤ (ws.map fun w => w.length + 1).sum := by
  intro ws
  induction ws with
  | nil => simp [Sp.jnc]
  | cons w r ih =>
    cases r with
    | nil => simp [Sp.jnc]
    | cons v r =>
      rw [Sp.jnc_cons 32 w (by simp), List.length_append, List.length_cons, List.map_cons, List.sum_cons]
      omega
theorem procLn_length {p : Prc} {m : Nat} (hn : p.nm.size ≤ m) (hi : I64 p.pa ∧ I64 p.sl ∧ I64 p.ty) : (procLn p).length ≤ m + 69 := by
  have := jnc_length [procL, B p.nm, dc p.pa, dc p.sl, dc p.ty]
  have h1 := dc_len hi.1
  have h2 := dc_len hi.2.1
  have h3 := dc_len hi.2.2
  have h4 : procL.length = 4 := rfl
  simp only [List.map_cons, List.map_nil, List.sum_cons, List.sum_nil, B_len] at this
  unfold procLn
  omega
theorem insLn_length {i : Ins} (h1 : 1 ≤ i.op ∧ i.op ≤ 29) (hi : I64 i.arg ∧ I64 i.more) : (insLn i).length ≤ 50 := by
  have := jnc_length (fld i)
  have h2 := (sh_ok h1).2.2.2
  have h3 := dc_len hi.1
  have h4 := dc_len hi.2
  unfold insLn
  have : ((fld i).map fun w => w.length + 1).sum ≤ 50 := by
    unfold fld
    split <;> split <;> simp <;> omega
  omega
theorem unl_length : ∀ {ls : List (List Int)} {m : Nat}, (∀ l ∈ ls, l.length ≤ m) → (unl ls).length ≤ ls.length * (m + 1) := by
  intro ls m
  induction ls with
  | nil => intro _; simp [unl]
  | cons l r ih =>
    intro h
    have h1 := h l (by simp)
    have h2 := ih (fun x hx => h x (List.mem_cons_of_mem _ hx))
    rw [show unl (l :: r) = (l ++ [10]) ++ unl r from rfl, List.length_append, List.length_append]
    have : (l :: r).length * (m + 1) = r.length * (m + 1) + (m + 1) := by rw [List.length_cons, Nat.succ_mul]
    rw [this]
    simp only [List.length_cons, List.length_nil]
    omega
theorem txt_length {c : Cde} (hf : form c) (hw : WN c) {m k : Nat} (hn : ∀ p ∈ c.ps, p.nm.size ≤ m) (hk : c.ps.length + c.is.length ≤ k) : (txt c).length ≤ k * (m + 70) := by
  have h1 : ∀ l ∈ lns c, l.length ≤ m + 69 := by
    intro l hl
    unfold lns at hl
    rw [List.mem_flatMap] at hl
    obtain ⟨p, hp, hl⟩ := hl
    rcases List.mem_cons.1 hl with rfl | hl
    · exact procLn_length (hn p hp) (hw.1 p hp)
    · rw [List.mem_map] at hl
      obtain ⟨i, hi, rfl⟩ := hl
      have := insLn_length (hf.2.1 p hp i hi).1 (hw.2 i (part_mem hi))
      omega
  have h2 := unl_length h1
  rw [lns_length hf] at h2
  exact Nat.le_trans h2 (Nat.mul_le_mul hk (Nat.le_refl _))
end Cd
end Go.Proofs.YtpamkidcmjfieaaDoor
