/- Code: a code's text; what a text is parsed as; plain laws. -/
import Derived.Test.YtpamkidcmjfieaaDoorCv
import Derived.Test.YtpamkidcmjfieaaDoorCe
namespace Go.Proofs.YtpamkidcmjfieaaDoor
open Go Go.RowKit Fw Nu
set_option linter.unusedVariables false
set_option maxRecDepth 20000
namespace Cd
/-- Another end. -/
abbrev Prc.wt (p : Prc) (n : Int) : Prc := ⟨p.nm, p.fr, n, p.pa, p.sl, p.ty⟩
def procLn (p : Prc) : List Int := Sp.jnc 32 [procL, B p.nm, dc p.pa, dc p.sl, dc p.ty]
def insLn (i : Ins) : List Int := Sp.jnc 32 (fld i)
/-- A code's lines. -/
def lns (c : Cde) : List (List Int) := c.ps.flatMap fun p => procLn p :: (part c p).map insLn
/-- Lines, as a text. -/
def unl (ls : List (List Int)) : List Int := ls.flatMap (· ++ [10])
def txt (c : Cde) : List Int := unl (lns c)
theorem unl_append (a b : List (List Int)) : unl (a ++ b) = unl a ++ unl b := by unfold unl; rw [List.flatMap_append]
theorem unl_jnc : ∀ ls : List (List Int), Sp.jnc 10 (ls ++ [[]]) = unl ls := by
  intro ls
  induction ls with
  | nil => rfl
  | cons l r ih => rw [List.cons_append, Sp.jnc_cons 10 l (by simp), ih]; simp [unl]
/-- Each procedure ends where the next one begins. -/
def tosL : List Prc → Int → List Prc
  | [], _ => []
  | [p], n => [(Prc.wt p (n))]
  | p :: q :: r, n => (Prc.wt p (q.fr)) :: tosL (q :: r) n
def tos (c : Cde) : Cde := ⟨tosL c.ps c.is.length, c.is⟩
/-- Line by line; or how many lines, with the first wrong one. -/
def pgo : Cde → Nat → List (List Int) → Sum Cde Nat
  | c, n, [] => .inl c
  | c, n, [l] => if l = [] then .inl c else .inr (n + 1)
  | c, n, l :: m :: r => match addL c l with
    | none => .inr (n + 1)
    | some d => pgo d (n + 1) (m :: r)
/-- What a text is parsed as. -/
def PR (L : List Int) (c : Cde) (n e : Int) : Prop :=
  (200000 < L.length ∧ c = ⟨[], []⟩ ∧ n = 0 ∧ e = 1) ∨ (L.length ≤ 200000 ∧ ((∃ k : Nat, pgo ⟨[], []⟩ 0 (Sp.spl 10 L) = .inr k ∧ c = ⟨[], []⟩ ∧ n = k ∧ e = 3) ∨
    (∃ d, pgo ⟨[], []⟩ 0 (Sp.spl 10 L) = .inl d ∧ ((Gd (tos d) ∧ c = tos d ∧ n = 0 ∧ e = 0) ∨ (¬ Gd (tos d) ∧ c = ⟨[], []⟩ ∧ n = ((Sp.spl 10 L).length : Int) ∧ e = 3)))))
theorem PR.one {L : List Int} {c c' : Cde} {n n' e e' : Int} (h : PR L c n e) (k : PR L c' n' e') : c = c' ∧ n = n' ∧ e = e' := by
  rcases h with ⟨h0, rfl, rfl, rfl⟩ | ⟨h0, h⟩
  · rcases k with ⟨k0, rfl, rfl, rfl⟩ | ⟨k0, k⟩
    · exact ⟨rfl, rfl, rfl⟩
    · omega
  · rcases k with ⟨k0, rfl, rfl, rfl⟩ | ⟨k0, k⟩
    · omega
    · rcases h with ⟨i, h, rfl, rfl, rfl⟩ | ⟨d, h, h2⟩
      · rcases k with ⟨j, k, rfl, rfl, rfl⟩ | ⟨d', k, k2⟩
        · rw [h] at k; cases k; exact ⟨rfl, rfl, rfl⟩
        · rw [h] at k; cases k
      · rcases k with ⟨j, k, rfl, rfl, rfl⟩ | ⟨d', k, k2⟩
        · rw [h] at k; cases k
        · rw [h] at k; cases k
          rcases h2 with ⟨g, rfl, rfl, rfl⟩ | ⟨g, rfl, rfl, rfl⟩
          · rcases k2 with ⟨g', rfl, rfl, rfl⟩ | ⟨g', rfl, rfl, rfl⟩
            · exact ⟨rfl, rfl, rfl⟩
            · exact (g' g).elim
          · rcases k2 with ⟨g', rfl, rfl, rfl⟩ | ⟨g', rfl, rfl, rfl⟩
            · exact (g g').elim
            · exact ⟨rfl, rfl, rfl⟩
/-! ### what is parsed has its text -/
/-- The lines of procedures, each up to where the next one begins. -/
def txl : List Prc → List Ins → List (List Int)
  | [], _ => []
  | [p], is => procLn p :: (is.drop p.fr.toNat).map insLn
  | p :: q :: r, is => (procLn p :: ((is.take q.fr.toNat).drop p.fr.toNat).map insLn) ++ txl (q :: r) is
theorem lns_tos (is : List Ins) : ∀ (ps : List Prc) (qs : List Prc), (tosL ps is.length).flatMap (fun p => procLn p :: (part ⟨qs, is⟩ p).map insLn) = txl ps is := by
  intro ps qs
  induction ps with
  | nil => rfl
  | cons p r ih =>
    cases r with
    | nil =>
      simp only [tosL, txl, part, procLn, List.flatMap_cons, List.flatMap_nil, List.append_nil, Int.toNat_natCast, List.take_length]
    | cons q r => rw [tosL, txl, List.flatMap_cons, ih]; rfl
theorem lns_txl (c : Cde) : lns (tos c) = txl c.ps c.is := lns_tos c.is c.ps _
/-- Procedures begin within the row. -/
def Wf (c : Cde) : Prop := ∀ p ∈ c.ps, 0 ≤ p.fr ∧ p.fr ≤ c.is.length
theorem txl_proc (n : Prc) (is : List Ins) (hn : n.fr = is.length) : ∀ ps : List Prc, txl (ps ++ [n]) is = txl ps is ++ [procLn n] := by
  intro ps
  have hn' : n.fr.toNat = is.length := by omega
  induction ps with
  | nil => simp [txl, hn']
  | cons p r ih =>
    cases r with
    | nil => simp [txl, hn']
    | cons q r =>
      rw [List.cons_append, List.cons_append, txl, txl, ← List.cons_append, ih, List.append_assoc]
theorem txl_ins (i : Ins) (is : List Ins) : ∀ ps : List Prc, ps ≠ [] → (∀ p ∈ ps, 0 ≤ p.fr ∧ p.fr ≤ is.length) → txl ps (is ++ [i]) = txl ps is ++ [insLn i] := by
  intro ps
  induction ps with
  | nil => intro h; exact (h rfl).elim
  | cons p r ih =>
    intro _ h
    have hp := h p (List.mem_cons_self ..)
    cases r with
    | nil =>
      rw [txl, txl, List.drop_append_of_le_length (by omega)]
      simp
    | cons q r =>
      have hq := h q (by simp)
      rw [txl, txl, ih (by simp) (fun x hx => h x (List.mem_cons_of_mem _ hx)), List.take_append_of_le_length (by omega), List.append_assoc]
theorem num_dc_eq {L : List Int} {n : Int} (h : num L = some n) : dc n = L := (num_eq h).symm
theorem nms_eq : ∀ {ps : List (List Int)} {zs : List Int}, nms ps = some zs → ps = zs.map dc ∧ ∀ z ∈ zs, I64 z := by
  intro ps
  induction ps with
  | nil => intro zs h; simp only [nms, Option.some.injEq] at h; subst h; simp
  | cons p r ih =>
    intro zs h
    rw [nms] at h
    split at h
    · rename_i n l h1 h2
      simp only [Option.some.injEq] at h
      subst h
      obtain ⟨e, hl⟩ := ih h2
      refine ⟨by rw [List.map_cons, num_dc_eq h1, ← e], fun z hz => ?_⟩
      rcases List.mem_cons.1 hz with rfl | hz
      · exact Lb.num_I64 h1
      · exact hl z hz
    · cases h
/-- Numbers of 64 bits. -/
def WI (c : Cde) : Prop := (∀ p ∈ c.ps, I64 p.pa ∧ I64 p.sl ∧ I64 p.ty ∧ nm (B p.nm) = true) ∧ ∀ i ∈ c.is, 0 ≤ i.op ∧ i.op ≤ 29 ∧ I64 i.arg ∧ I64 i.more
theorem opOf_some {h : List Int} {op : Nat} (e : opOf h = some op) : op ≤ 29 ∧ (sh op).1 = h ∧ h ≠ [] := by
  unfold opOf at e
  rw [List.findIdx?_eq_some_iff_getElem] at e
  obtain ⟨hlt, hp, _⟩ := e
  have hlen : shL.length = 30 := rfl
  have := of_decide_eq_true hp
  refine ⟨by omega, ?_, ?_⟩
  · unfold sh
    rw [Int.toNat_natCast, List.getElem?_eq_getElem hlt]
    exact this.1
  · rw [← this.1]; exact this.2
theorem addL_spec {c d : Cde} {L : List Int} (hb : InB L) (hL : addL c L = some d) (hw : Wf c) (hi : WI c) : Wf d ∧ WI d ∧ lns (tos d) = lns (tos c) ++ [L] := by
  rw [lns_txl, lns_txl]
  unfold addL at hL
  have hj := Sp.jnc_spl 32 L
  have hsub := Sp.spl_sub 32 L
  split at hL
  · cases hL
  · rename_i h r hsp
    rw [hsp] at hj hsub
    split at hL
    · rename_i hproc
      unfold addP at hL
      split at hL
      · rename_i h4
        split at hL
        · rename_i l hl
          split at hL
          · rename_i hnm
            simp only [Option.some.injEq] at hL
            subst hL
            obtain ⟨el, hz⟩ := nms_eq hl
            match r, h4 with
            | [a, x, y, z], _ =>
              simp only [List.drop_succ_cons, List.drop_zero] at el
              match l, el with
              | [n0, n1, n2], el =>
                simp only [List.map_cons, List.map_nil, List.cons.injEq, and_true] at el
                obtain ⟨e0, e1, e2⟩ := el
                have ha : InB a := fun q hq => hb q ((hsub a (by simp)).2 q hq)
                simp only [List.getD_cons_zero, List.getD_cons_succ] at hnm ⊢
                refine ⟨fun p hp => ?_, ⟨fun p hp => ?_, hi.2⟩, ?_⟩
                · rcases List.mem_append.1 hp with hp | hp
                  · exact hw p hp
                  · rw [List.mem_singleton] at hp; subst hp; exact ⟨by show (0 : Int) ≤ (c.is.length : Int); omega, Int.le_refl _⟩
                · rcases List.mem_append.1 hp with hp | hp
                  · exact hi.1 p hp
                  · rw [List.mem_singleton] at hp; subst hp
                    exact ⟨hz n0 (by simp), hz n1 (by simp), hz n2 (by simp), by show nm (B (strOfNums a)) = true; rw [B_str ha]; exact hnm⟩
                · rw [txl_proc _ _ rfl]
                  congr 2
                  show Sp.jnc 32 [procL, B (strOfNums a), dc n0, dc n1, dc n2] = L
                  rw [B_str ha, ← e0, ← e1, ← e2, ← hproc]
                  exact hj
          · cases hL
        · cases hL
      · cases hL
    · unfold addI at hL
      split at hL
      · rename_i l op hl hop
        split at hL
        · cases hL
        · rename_i hne
          split at hL
          · rename_i hfl
            simp only [Option.some.injEq] at hL
            subst hL
            obtain ⟨el, hz⟩ := nms_eq hl
            obtain ⟨o1, o2, o3⟩ := opOf_some hop
            have hps : c.ps ≠ [] := fun e => hne (.inl (by rw [e]; rfl))
            have hI : ∀ k, I64 ((l ++ [0, 0]).getD k 0) := fun k => by
              rw [List.getD_eq_getElem?_getD]
              cases hg : (l ++ [0, 0])[k]? with
              | none => exact ⟨by decide, by decide⟩
              | some z =>
                have := List.mem_of_getElem? hg
                rcases List.mem_append.1 this with h | h
                · exact hz z h
                · have : z = 0 := by simpa using h
                  subst this; exact ⟨by decide, by decide⟩
            refine ⟨fun p hp => ?_, ⟨hi.1, fun i hm => ?_⟩, ?_⟩
            · have := hw p hp
              refine ⟨this.1, ?_⟩
              have h2 := this.2
              show p.fr ≤ ((c.is ++ [_]).length : Int)
              rw [List.length_append]; simp; omega
            · rcases List.mem_append.1 hm with hm | hm
              · exact hi.2 i hm
              · rw [List.mem_singleton] at hm; subst hm
                exact ⟨by show (0 : Int) ≤ (op : Int); omega, by show (op : Int) ≤ 29; omega, hI 0, hI 1⟩
            · rw [txl_ins _ _ _ hps hw]
              congr 2
              show Sp.jnc 32 (fld _) = L
              rw [hfl]; exact hj
          · cases hL
      · cases hL
theorem pgo_spec : ∀ (ls : List (List Int)) (c d : Cde) (n : Nat), ls ≠ [] → (∀ l ∈ ls, InB l) → pgo c n ls = .inl d → Wf c → WI c → Wf d ∧ WI d ∧ unl (lns (tos d)) = unl (lns (tos c)) ++ Sp.jnc 10 ls ∧ ls.getLast? = some [] := by
  intro ls
  induction ls with
  | nil => intro c d n h; exact (h rfl).elim
  | cons l r ih =>
    intro c d n _ hb hp hw hi
    cases r with
    | nil =>
      rw [pgo] at hp
      split at hp
      · rename_i hl
        cases hp
        subst hl
        exact ⟨hw, hi, by simp [Sp.jnc], rfl⟩
      · cases hp
    | cons m r =>
      rw [pgo] at hp
      split at hp
      · cases hp
      · rename_i e he
        obtain ⟨w1, i1, t1⟩ := addL_spec (hb l (by simp)) he hw hi
        obtain ⟨w2, i2, t2, t3⟩ := ih e d (n + 1) (by simp) (fun x hx => hb x (List.mem_cons_of_mem _ hx)) hp w1 i1
        refine ⟨w2, i2, ?_, by rw [List.getLast?_cons_cons]; exact t3⟩
        rw [t2, t1, unl_append, Sp.jnc_cons 10 l (by simp), List.append_assoc]
        simp [unl]
/-- What is parsed has that text. -/
theorem PR.text {L : List Int} {c : Cde} {n : Int} (hb : InB L) (h : PR L c n 0) : Gd c ∧ txt c = L ∧ (∀ p ∈ c.ps, I64 p.pa ∧ I64 p.sl ∧ I64 p.ty) ∧ (∀ i ∈ c.is, I64 i.arg ∧ I64 i.more) := by
  rcases h with ⟨_, _, _, h⟩ | ⟨_, ⟨_, _, _, _, h⟩ | ⟨d, hd, ⟨g, rfl, _, _⟩ | ⟨_, _, _, h⟩⟩⟩
  · cases h
  · cases h
  · obtain ⟨w, i, t, _⟩ := pgo_spec (Sp.spl 10 L) ⟨[], []⟩ d 0 (Sp.spl_ne 10 L) (spl_inB hb 10) hd (fun p hp => by cases hp) ⟨fun p hp => (by cases hp), fun p hp => (by cases hp)⟩
    refine ⟨g, ?_, ?_, fun x hx => (i.2 x hx).2.2⟩
    · show unl (lns (tos d)) = L
      rw [t, Sp.jnc_spl]; rfl
    · have key : ∀ (ps : List Prc) (n : Int), (∀ p ∈ ps, I64 p.pa ∧ I64 p.sl ∧ I64 p.ty ∧ nm (B p.nm) = true) → ∀ p ∈ tosL ps n, I64 p.pa ∧ I64 p.sl ∧ I64 p.ty := by
        intro ps n
        induction ps with
        | nil => intro _ p hp; cases hp
        | cons q r ih =>
          intro h p hp
          have hq := h q (List.mem_cons_self ..)
          cases r with
          | nil =>
            simp only [tosL, List.mem_singleton] at hp
            subst hp; exact ⟨hq.1, hq.2.1, hq.2.2.1⟩
          | cons q' r =>
            rw [tosL] at hp
            rcases List.mem_cons.1 hp with rfl | hp
            · exact ⟨hq.1, hq.2.1, hq.2.2.1⟩
            · exact ih (fun x hx => h x (List.mem_cons_of_mem _ hx)) p hp
      exact key d.ps _ i.1
  · cases h
end Cd
end Go.Proofs.YtpamkidcmjfieaaDoor
