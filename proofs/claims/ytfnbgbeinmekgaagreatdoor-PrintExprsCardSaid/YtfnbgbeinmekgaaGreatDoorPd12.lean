/- What the proofs of this seat lean on, part 12. -/
import Derived.Test.YtfnbgbeinmekgaaGreatDoorPd11
namespace Go.Proofs.YtfnbgbeinmekgaaGreatDoor.Rf
open Go Go.RowKit Fw Sy
set_option linter.unusedVariables false
set_option maxRecDepth 20000
structure PaS where
  m : Nat
  q : Q
/-- What the document's parser answers. -/
def ParR (s : ByteArray) (w : World) (v : Value) (w1 : World) : Prop := ∃ ux us uf a c, v = .tuple #[.agg #[ux, us, uf], .int .i64 a, .int .i64 c] ∧ Kp No w w1 ∧ ((∃ S, prs (B s) = .ok () S ∧ c = 0 ∧ Tr w1 ux us uf S ∧ S.ex.length ≤ 1000001 ∧ S.st.length ≤ 1000 ∧ S.fn.length ≤ 32) ∨ ((∀ S, prs (B s) ≠ .ok () S) ∧ c ≠ 0 ∧ ux = nilS ∧ us = nilS ∧ uf = nilS))
theorem Gd.tr {w : World} {q : Q} (h : Gd w q) : Tr w q.x.v q.y.v q.z.v q.s := by
  obtain ⟨⟨rx, e1, o1, l1⟩, ⟨ry, e2, o2, l2⟩, ⟨rz, e3, o3, l3⟩, _⟩ := h
  exact ⟨⟨rx, e1, o1, fun r hr => ⟨(l1 r hr).1, fun _ _ => trivial⟩⟩, ⟨ry, e2, o2, fun r hr => ⟨⟨(l2 r hr).1.1, fun _ _ => trivial⟩, (l2 r hr).2.1, fun _ _ => trivial⟩⟩, ⟨rz, e3, o3, fun r hr => ⟨⟨(l3 r hr).1.1, fun _ _ => trivial⟩, (l3 r hr).2.1, fun _ _ => trivial⟩⟩⟩
set_option maxHeartbeats 4000000 in
theorem parseF (s : ByteArray) (w0 : World) (hs : s.size ≤ 1000000) : Ret Tryz.prog 12 [.string s] w0 (ParR s w0) := by
  refine ret_enter Tryz.func12 rfl Tryz.ntmps12 rfl ?_
  (repeat refine Zlr ?_)
  refine s_al rfl (fun b2 w n2 => ?_)
  (repeat refine Zlr ?_)
  refine s_call (us := []) (zs := []) (by kernel_rfl) rfl rfl (Tk.rAll s w hs) ?_
  rintro _ w4 ⟨u, rfl, own4, k4⟩
  have k04 := n2.kp.no k4
  have hb2 := k4.get0 n2.blk
  obtain ⟨ua, uc, rfl, _, u0, ur⟩ := own_read own4
  (repeat refine Zlr ?_)
  refine c_ne rfl (fun hbad => ?_) (fun hgood => ?_)
  · have ep : Sy.prs (B s) = .er (Tk.allT (B s)).2.2 (Tk.allT (B s)).2.1 := by unfold Sy.prs; rw [if_pos hbad]
    (repeat refine Zlr ?_)
    refine s_stw (vs := [nilS, nilS, nilS]) rfl rfl rfl rfl rfl hb2 rfl (fun w5 s5 => ?_)
    (repeat refine Zlr ?_)
    exact ret_c3 rfl (rv_agw rfl s5.blk rfl rfl) (rv_t rfl) (rv_t rfl) ⟨_, _, _, _, _, rfl, k04.from0' s5.kp fun i hi e => by (have := n2.ge; omega), .inr ⟨fun S e => (by rw [ep] at e; cases e), hbad, rfl, rfl, rfl⟩⟩
  have ok := tok_of hgood
  have own0 : w4.ownsRow 0 64 3 (.slice ua (Tk.allT (B s)).1.length uc) (Tk.allT (B s)).1.length (Tk.tc (Tk.allT (B s)).1) := by
    refine ⟨own4.1, ?_⟩
    rcases own4.2 with h | ⟨g, cap, cur, e1, _, e3⟩
    · exact .inl h
    · exact .inr ⟨g, cap, cur, e1, Nat.zero_le _, e3⟩
  obtain ⟨g, rfl⟩ : ∃ g, ua = some ⟨g, 0, none⟩ := by
    cases ua with
    | none => exact (ok.ne (List.length_eq_zero_iff.1 (u0 rfl))).elim
    | some ad =>
      obtain ⟨g, rfl, _⟩ := ur _ rfl
      exact ⟨g, rfl⟩
  obtain ⟨X, hX⟩ : ∃ X : Cr, (⟨s, g, uc⟩ : Cr) = X := ⟨_, rfl⟩
  obtain ⟨q, hq⟩ : ∃ q : Q, (⟨⟨0, [], [], []⟩, ⟨none, 0, 0⟩, ⟨none, 0, 0⟩, ⟨none, 0, 0⟩, 0, 0, fun _ => False⟩ : Q) = q := ⟨_, rfl⟩
  have hc : q.c = 0 := by rw [← hq]
  have A4 : Aq X w4 q := by
    rw [← hX, ← hq]
    refine ⟨hgood, own0, ?_, fun _ => ⟨⟨[], rfl, nilown, fun r hr => (by cases hr)⟩, ⟨[], rfl, nilown, fun r hr => (by cases hr)⟩, ⟨[], rfl, nilown, fun r hr => (by cases hr)⟩, Nat.le_refl _, Nat.zero_le _, Nat.zero_le _, fun b hb => hb.elim⟩⟩
    exact List.length_pos_iff.2 ok.ne
  have nsx : ∀ b, ¬ Sx q b := fun b hb => by
    rw [← hq] at hb
    rcases hb.2 with h | h | h <;> cases h
  have no : ∀ b, ¬ q.o b := fun b hb => by rw [← hq] at hb; exact hb
  have G : Wb X w0 q w4 q [(b2, _, 27)] := ⟨⟨A4, k04.mono fun _ _ h => h.elim, fun _ _ h => h, fun b _ _ ho => (no b ho).elim⟩, fun i b cs T hi => by
    cases i with
    | zero => cases hi; exact ⟨n2.ge, hb2, nsx _⟩
    | succ i => simp at hi, fun i j b cs cs' T T' hi hj => by
    cases i with
    | zero => cases j with
      | zero => rfl
      | succ j => simp at hj
    | succ i => simp at hi⟩
  have hsX : X.t = s := by rw [← hX]
  (repeat refine Zlr ?_)
  refine s_al rfl (fun b8 w n8 => ?_)
  have G := G.new n8
  have h0 := G.blk 0 rfl; try have h1 := G.blk 1 rfl; try have h2 := G.blk 2 rfl; try have h3 := G.blk 3 rfl; try have h4 := G.blk 4 rfl; try have h5 := G.blk 5 rfl
  (repeat refine Zlr ?_)
  refine s_stw (vs := qc X q) rfl (by rw [← hX, ← hq]; rfl) rfl rfl rfl h0 rfl (fun w s' => ?_)
  have G := G.put 0 rfl s' rfl
  clear h0 h1
  have ep : Sy.prs (B s) = fcts X.E (fuel (B s)) (fuel (B s)) q.s := by rw [← hX, ← hq]; unfold Sy.prs; rw [if_neg (fun h => h hgood)]
  obtain ⟨R, hR⟩ : ∃ R, Sy.prs (B s) = R := ⟨_, rfl⟩
  have hno : R ≠ .out := by rw [← hR]; exact prs_no _
  rw [ep] at hR
  have hI : ∀ q', Res (On q (fcts X.E (fuel (B s)) (fuel (B s)))) q' () → Res R q' () := fun q' r => by rw [← hR]; exact r.on hc
  have hN : On q (fcts X.E (fuel (B s)) (fuel (B s))) ≠ .out := On_ne fun _ => by rw [hR]; exact hno
  have fin : ∀ {v : Value} {q' : Q} {w1 : World}, Res R q' () → Sg X w0 q w1 q' → (∃ ux us uf a c, v = .tuple #[.agg #[ux, us, uf], .int .i64 a, .int .i64 c] ∧ c = q'.c ∧ (q'.c = 0 → ux = q'.x.v ∧ us = q'.y.v ∧ uf = q'.z.v) ∧ (q'.c ≠ 0 → ux = nilS ∧ us = nilS ∧ uf = nilS)) → ParR s w0 v w1 := by
    rintro v q' w1 r g ⟨ux, us, uf, a, c, rfl, hcc, hu, he⟩
    refine ⟨ux, us, uf, a, c, rfl, g.gs.kp.mono fun i _ h => nsx i h, ?_⟩
    by_cases h : q'.c = 0
    · obtain ⟨rfl, rfl, rfl⟩ := hu h
      exact .inl ⟨q'.s, by rw [ep, hR]; exact r.ok h, hcc.trans h, (g.at_.gd h).tr, by have := (g.at_.gd h).xl; have := g.at_.lt; have := g.at_.small; omega, (g.at_.gd h).sl, (g.at_.gd h).fl⟩
    · refine .inr ⟨fun S e => ?_, by rw [hcc]; exact h, he h⟩
      rw [ep, hR] at e
      rw [e] at r
      exact h r.1
  clear ep hR hno own4 own0 k4 hb2 n2 k04 A4
  (repeat refine Zlr ?_)
  refine k_loop (σ := PaS) (fun x => [(2, .pointer (some ⟨b2, 0, none⟩)), (8, .pointer (some ⟨b8, 0, none⟩))])
    (fun x w' => (∃ cs, cs.length = 3 ∧ Wb X w0 q w' x.q [(b8, qc X x.q, Tp), (b2, cs, 27)]) ∧ (∀ q', Res (On x.q (fcts X.E (fuel (B s)) x.m)) q' () → Res R q' ()) ∧ On x.q (fcts X.E (fuel (B s)) x.m) ≠ .out) (fun x => if x.q.c = 0 then x.m + 1 else 0) ⟨fuel (B s), q⟩ ⟨rfl, rfl, trivial⟩ ⟨⟨_, rfl, G⟩, hI, hN⟩ ?_
  clear hI hN G
  rintro ⟨m, q3⟩ lx w ⟨⟨cs, hcs, G⟩, hI, hN⟩
  simp only at G hI hN
  have h0 := G.blk 0 rfl; try have h1 := G.blk 1 rfl; try have h2 := G.blk 2 rfl; try have h3 := G.blk 3 rfl; try have h4 := G.blk 4 rfl; try have h5 := G.blk 5 rfl
  (repeat (first | refine k_nil ?_ | refine k_n ?_ | refine k_r ?_ | refine k_x ?_ | refine b_n ?_ | refine b_r ?_ | refine b_y rfl ?_ | refine b_z rfl ?_ | refine l_r ?_ | refine l_x ?_ | refine k_seq ?_ | refine k_blk ?_ | refine k_ret ?_ | refine k_exit ?_ | refine k_skip ?_ | refine Zs ?_ | refine Zl ?_))
  refine k_cutc (σ := Unit) (fun _ => [(2, .pointer (some ⟨b2, 0, none⟩)), (8, .pointer (some ⟨b8, 0, none⟩)), (42, .bool (decide (q3.c = 0 ∧ ¬ (q3.s.fn ≠ [] ∧ kd X.E q3.s = 0))))])
    (fun _ w' => Wb X w0 q w' q3 [(b8, qc X q3, Tp), (b2, cs, 27)]) ?_ ?_
  · (repeat refine Zlr ?_)
    by_cases hc : q3.c = 0
    · obtain ⟨_, _, hzn⟩ := (G.at_.gd hc).ny
      obtain ⟨t, ht, e1, e2, e3⟩ := G.at_.tok
      have hlt := G.at_.lt
      obtain ⟨c1, c2, c3⟩ := G.at_.tokens _ _ ht
      refine s_set 26 true rfl (beq_iff_eq.2 hc) ?_
      (repeat (first | refine Zlr ?_ | refine Zn ?_ | refine Zu ?_ | refine Zg ?_ | refine Zgl ?_))
      by_cases hf : q3.s.fn = []
      · refine s_set 32 true rfl (beq_iff_eq.2 (by rw [hzn, hf]; rfl)) ?_
        (repeat (first | refine Zlr ?_ | refine Zn ?_ | refine Zu ?_ | refine Zg ?_ | refine Zgl ?_))
        refine l_cut () ⟨rfl, rfl, ?_, trivial⟩ G
        show Value.bool true = Value.bool _
        congr 1
        simp [hc, hf]
      · refine s_set 32 false rfl (beq_eq_false_iff_ne.2 (by rw [hzn]; have := List.length_pos_iff.2 hf; omega)) ?_
        (repeat (first | refine Zlr ?_ | refine Zn ?_ | refine Zu ?_ | refine Zg ?_ | refine Zgl ?_))
        refine s_gv rfl (r_ia rfl rfl rfl rfl (by omega) (by omega)) ?_
        (repeat (first | refine Zlr ?_ | refine Zn ?_ | refine Zu ?_ | refine Zg ?_ | refine Zgl ?_))
        refine l_cut () ⟨rfl, rfl, ?_, trivial⟩ G
        show Value.bool (t.1 != 0) = Value.bool _
        congr 1
        rw [e1]
        by_cases hk : t.1 = 0 <;> simp [hc, hf, hk]
    · refine s_set 26 false rfl (beq_eq_false_iff_ne.2 hc) ?_
      (repeat (first | refine Zlr ?_ | refine Zn ?_ | refine Zu ?_ | refine Zg ?_ | refine Zgl ?_))
      refine l_cut () ⟨rfl, rfl, ?_, trivial⟩ G
      show Value.bool false = Value.bool _
      congr 1
      simp [hc]
  clear G h0 h1
  rintro _ lx w G
  have h0 := G.blk 0 rfl; try have h1 := G.blk 1 rfl; try have h2 := G.blk 2 rfl; try have h3 := G.blk 3 rfl; try have h4 := G.blk 4 rfl; try have h5 := G.blk 5 rfl
  (repeat refine Zlr ?_)
  by_cases hgo : q3.c = 0 ∧ ¬ (q3.s.fn ≠ [] ∧ kd X.E q3.s = 0)
  · obtain ⟨hc, hgo⟩ := hgo
    refine c_t (congrArg Value.bool (decide_eq_true ⟨hc, hgo⟩)) ?_
    (repeat refine Zlr ?_)
    cases m with
    | zero => exact (hN (by rw [On_c hc]; rfl)).elim
    | succ m =>
    have eA : fcts X.E (fuel (B s)) (m + 1) q3.s = (fct X.E (fuel (B s)) q3.s).bind fun _ s1 => fcts X.E (fuel (B s)) m s1 := if_neg hgo
    rw [On_c hc, eA] at hN
    refine s_call (us := []) (zs := []) (by kernel_rfl) rfl rfl (functionF (fuel (B s)) q3 _ hc G.at_ (bind_ne' hN)) ?_
    rintro _ w ⟨q4, rfl, g, r4⟩
    have G := G.call g
    have h0 := G.blk 0 rfl; try have h1 := G.blk 1 rfl; try have h2 := G.blk 2 rfl; try have h3 := G.blk 3 rfl; try have h4 := G.blk 4 rfl; try have h5 := G.blk 5 rfl
    (repeat refine Zlr ?_)
    refine s_stw (vs := qc X q4) rfl rfl rfl rfl rfl h0 rfl (fun w s' => ?_)
    have G := G.put 0 rfl s' rfl
    (repeat refine Zlr ?_)
    refine l_next ⟨m, q4⟩ ⟨rfl, rfl, trivial⟩ ⟨⟨cs, hcs, G⟩, fun q' r => hI _ (Res.of_c hc ?_), On_ne fun h4 => r4.next hN h4⟩ ?_
    · rw [eA]; exact r4.bind (fun h => r.on h) fun h => r.on_er h
    · simp only [if_pos hc]
      split <;> omega
  · refine c_f (congrArg Value.bool (decide_eq_false hgo)) ?_
    have r3 : Res R q3 () := hI q3 (by
      by_cases hc : q3.c = 0
      · have hx : q3.s.fn ≠ [] ∧ kd X.E q3.s = 0 := Decidable.byContradiction fun h => hgo ⟨hc, h⟩
        cases m with
        | zero => exact (hN (by rw [On_c hc]; rfl)).elim
        | succ m =>
          refine Res.of_c hc ?_
          show Res (if _ then _ else _) _ _
          rw [if_pos hx]; exact ⟨hc, rfl, rfl⟩
      · exact Res.of_er hc hc)
    (repeat refine Zlr ?_)
    by_cases hc : q3.c = 0
    · refine c_f (by show Value.bool (q3.c != 0) = _; rw [bne_eq_false_iff_eq.2 hc]) ?_
      (repeat refine Zlr ?_)
      refine s_v (r_ldb (vs := [.slice q3.x.a q3.x.n q3.x.c, .slice q3.y.a q3.y.n q3.y.c, .slice q3.z.a q3.z.n q3.z.c]) rfl rfl rfl h0 rfl rfl) ?_
      refine s_stw (vs := [.slice q3.x.a q3.x.n q3.x.c, .slice q3.y.a q3.y.n q3.y.c, .slice q3.z.a q3.z.n q3.z.c]) rfl rfl rfl rfl rfl h1 hcs (fun w s' => ?_)
      have G := G.put 1 rfl s' rfl
      have h0 := G.blk 0 rfl; try have h1 := G.blk 1 rfl; try have h2 := G.blk 2 rfl; try have h3 := G.blk 3 rfl; try have h4 := G.blk 4 rfl; try have h5 := G.blk 5 rfl
      (repeat refine Zlr ?_)
      exact ret_c3 rfl (rv_agw rfl h1 rfl rfl) (rv_t rfl) (rv_t rfl) (fin r3 G.sg ⟨_, _, _, _, _, rfl, hc.symm, fun _ => ⟨rfl, rfl, rfl⟩, fun h => (h hc).elim⟩)
    · refine c_t (by show Value.bool (q3.c != 0) = _; rw [bne_iff_ne.2 hc]) ?_
      have n82 : b8 ≠ b2 := fun e => by
        have := G.nd 0 1 b8 _ _ _ _ rfl (by rw [e]; rfl)
        omega
      (repeat refine Zlr ?_)
      refine k_h (fun w' => Kp (fun i => i = b2) w w') [(0, false), (1, false), (2, false), (3, false), (4, false), (5, true), (6, false), (7, false)] 8 (by kernel_rfl) (waits_none) (by kernel_rfl) (by kernel_rfl) (by kernel_rfl) rfl (fun w4 k4 q4' => ?_)
      have k4' : Kp (fun i => i = b2) w w4 := k4.mono fun _ _ h => h.elim
      have hd := fun (w' : World) (hw : Kp (fun i => i = b2) w w') => hw.get h0 n82
      have G := G.no k4
      refine h_v k4' (fun w' hw => r_bd rfl) ?_
      refine h_v k4' (fun w' hw => r_fa rfl rfl) ?_
      refine h_v k4' (fun w' hw => r_ld rfl rfl (cell_of_blk (hd w' hw) rfl)) ?_
      refine h_v k4' (fun w' hw => r_fa rfl rfl) ?_
      refine h_v k4' (fun w' hw => r_ld rfl rfl (cell_of_blk (hd w' hw) rfl)) ?_
      have g1 := G.blk 1 rfl
      refine h_st (vs := [nilS, nilS, nilS]) rfl rfl rfl rfl rfl g1 (by rw [hcs]; exact Nat.le_refl _) (fun w7 s7 => ⟨fun _ => k4'.trans s7.kp fun _ _ h => h, ?_⟩)
      rw [setAt_all (by rw [hcs]; rfl)] at s7
      have G := G.put 1 rfl s7 rfl
      have k7 : Kp (fun i => i = b2) _ w7 := k4'.trans s7.kp fun _ _ h => h
      refine h_v k7 (fun w' hw => r_as rfl) ?_
      refine h_v k7 (fun w' hw => r_as rfl) ?_
      refine h_nil ?_
      have g1 := G.blk 1 rfl
      (repeat refine Zlr ?_)
      exact ret_c3 rfl (rv_agw rfl g1 rfl rfl) (rv_t rfl) (rv_t rfl) (fin r3 G.sg ⟨_, _, _, _, _, rfl, rfl, fun h => (hc h).elim, fun _ => ⟨rfl, rfl, rfl⟩⟩)
end Go.Proofs.YtfnbgbeinmekgaaGreatDoor.Rf
namespace Go.Proofs.YtfnbgbeinmekgaaGreatDoor.Tk
open Go
theorem als_rise : ∀ (ts : List T3) (f a : Nat) (L : List Int), als f a L = (ts, none) → ∀ (i : Nat) (t u : T3), ts[i]? = some t → ts[i + 1]? = some u → t.2.2 ≤ u.2.1 := by
  intro ts
  induction ts with
  | nil => intro f a L h i t u ht; simp at ht
  | cons x r ih =>
    intro f a L h i t u ht hu
    obtain ⟨h1, h2, h3⟩ := als_cons h
    rw [List.getElem?_cons_succ] at hu
    rcases h3 with ⟨_, rfl⟩ | ⟨_, g, _, h4⟩
    · simp at hu
    · cases i with
      | zero =>
        rw [List.getElem?_cons_zero] at ht
        cases ht
        have := als_bounds g _ _ u (by rw [h4]; exact List.mem_of_getElem? hu)
        rw [h2]
        exact this.1
      | succ i =>
        rw [List.getElem?_cons_succ] at ht
        exact ih _ _ _ h4 i t u ht hu
end Go.Proofs.YtfnbgbeinmekgaaGreatDoor.Tk
namespace Go.Proofs.YtfnbgbeinmekgaaGreatDoor.Sy
open Go
set_option linter.unusedVariables false
theorem mono_env {L : List Int} (h : Txt L) : Mono (envOf L) (Tk.allT L).1.length := by
  refine ⟨by simp [envOf], rfl, fun i hi => ?_, fun i hi => ?_⟩
  · have e : (envOf L).T[i]? = some (Tk.allT L).1[i] := List.getElem?_eq_getElem hi
    unfold hI eI
    rw [e]
    exact (Tk.als_bounds _ _ _ _ (by rw [h.als]; exact List.getElem_mem hi)).2.1
  · have e : (envOf L).T[i]? = some ((Tk.allT L).1[i]'(by omega)) := List.getElem?_eq_getElem (by show i < (Tk.allT L).1.length; omega)
    have e' : (envOf L).T[i + 1]? = some (Tk.allT L).1[i + 1] := List.getElem?_eq_getElem hi
    unfold hI eI
    rw [e, e']
    exact Tk.als_rise _ _ _ _ h.als i _ _ (List.getElem?_eq_getElem (by omega)) (List.getElem?_eq_getElem hi)
/-- Expressions leave the statements. -/
def Kst {α : Type} (l : List St) (r : Rs α) : Prop := ∀ a t, r = .ok a t → t.st = l
section
variable {E : Env} {α β : Type} {l : List St}
theorem Kst.ok {x : α} {s : PS} (h : s.st = l) : Kst l (.ok x s) := fun a t e => by cases e; exact h
theorem Kst.out : Kst l (.out : Rs α) := fun a t e => by cases e
theorem Kst.er {c : Int} {s : PS} : Kst l (Sy.er E c s : Rs α) := fun a t e => by cases e
theorem Kst.bind {r : Rs α} {g : α → PS → Rs β} (h : Kst l r) (k : ∀ x s, s.st = l → Kst l (g x s)) : Kst l (r.bind g) := by
  intro a t e
  obtain ⟨x, s, e1, e2⟩ := bind_inv e
  exact k x s (h x s e1) a t e2
theorem Kst.want {w : List Int} {s : PS} (h : s.st = l) : Kst l (want E w s) := fun a t e => by rw [(want_ex e).2.2]; exact h
theorem Kst.knd {k : Int} {s : PS} (h : s.st = l) : Kst l (knd E k s) := fun a t e => by rw [(knd_ex e).2.2]; exact h
theorem Kst.deep {d : Int} {s : PS} (h : s.st = l) : Kst l (deep E d s) := fun a t e => by rw [deep_up e]; exact h
theorem Kst.put {fr : Int} {x : Ex} {s : PS} (h : s.st = l) : Kst l (put E fr x s) := fun a t e => by cases e; exact h
end
/-- All that is in a statement's lists. -/
def own (st : List St) : List Int := st.flatMap fun y => y.th ++ y.el
def GdS (st : List St) (j : Nat) (x : St) : Prop := ∀ k ∈ x.th ++ x.el, ∃ (m : Nat) (y : St), k = (m : Int) ∧ m < j ∧ st[m]? = some y ∧ x.f ≤ y.f ∧ y.e ≤ x.e
/-- Statements were put, good ones; these are in no list yet. -/
structure Ss (s t : PS) (o : List Int) : Prop where
  xs : Xs s t
  pre : ∃ n, t.st = s.st ++ n
  gd : ∀ j x, s.st.length ≤ j → t.st[j]? = some x → GdS t.st j x
  cn : ∀ k : Nat, (own t.st).count (k : Int) + o.count (k : Int) = (own s.st).count (k : Int) + (if s.st.length ≤ k ∧ k < t.st.length then 1 else 0)
def Op (t : PS) (f e : Int) (o : List Int) : Prop := ∀ k ∈ o, ∃ (m : Nat) (y : St), k = (m : Int) ∧ t.st[m]? = some y ∧ f ≤ y.f ∧ y.e ≤ e
section
variable {s t u : PS} {o o' : List Int}
theorem Ss.of (h : Xs s t) (e : t.st = s.st) : Ss s t [] :=
  ⟨h, ⟨[], by rw [e]; simp⟩, fun j x hj hx => (by rw [e, List.getElem?_eq_none hj] at hx; cases hx), fun k => by rw [e, if_neg (by omega)]; simp⟩
theorem pre_st (h : ∃ n, t.st = s.st ++ n) {m : Nat} {y : St} (hy : s.st[m]? = some y) : t.st[m]? = some y := by
  obtain ⟨n, e⟩ := h
  rw [e, List.getElem?_append_left (List.getElem?_eq_some_iff.1 hy).1]; exact hy
theorem pre_le (h : ∃ n, t.st = s.st ++ n) : s.st.length ≤ t.st.length := by obtain ⟨n, e⟩ := h; rw [e]; simp
theorem Ss.trans (h : Ss s t o) (g : Ss t u o') : Ss s u (o ++ o') := by
  refine ⟨h.xs.trans g.xs, ?_, fun j x hj hx => ?_, fun k => ?_⟩
  · obtain ⟨n, e⟩ := h.pre
    obtain ⟨n', e'⟩ := g.pre
    exact ⟨n ++ n', by rw [e', e, List.append_assoc]⟩
  · rcases Nat.lt_or_ge j t.st.length with h1 | h1
    · obtain ⟨y, hy⟩ : ∃ y, t.st[j]? = some y := ⟨_, List.getElem?_eq_getElem h1⟩
      have := pre_st g.pre hy
      rw [this] at hx
      cases hx
      intro k hk
      obtain ⟨m, z, a, b, c, d⟩ := h.gd j _ hj hy k hk
      exact ⟨m, z, a, b, pre_st g.pre c, d⟩
    · exact g.gd j x h1 hx
  · have h1 := h.cn k
    have h2 := g.cn k
    have h3 := pre_le h.pre
    have h4 := pre_le g.pre
    rw [List.count_append]
    by_cases a : s.st.length ≤ k ∧ k < t.st.length
    · rw [if_pos a] at h1
      rw [if_neg (by omega)] at h2
      rw [if_pos (by omega)]
      omega
    · rw [if_neg a] at h1
      by_cases b : t.st.length ≤ k ∧ k < u.st.length
      · rw [if_pos b] at h2; rw [if_pos (by omega)]; omega
      · rw [if_neg b] at h2; rw [if_neg (by omega)]; omega
theorem Ss.nil (h : Ss s t []) (g : Ss t u o) : Ss s u o := h.trans g
theorem Op.up {f f' e e' : Int} (h : Op s f e o) (g : ∃ n, t.st = s.st ++ n) (hf : f' ≤ f) (he : e ≤ e') : Op t f' e' o := by
  intro k hk
  obtain ⟨m, y, a, b, c, d⟩ := h k hk
  exact ⟨m, y, a, pre_st g b, by omega, by omega⟩
theorem Op.app {f e : Int} (h : Op t f e o) (g : Op t f e o') : Op t f e (o ++ o') := fun k hk => (List.mem_append.1 hk).elim (h k) (g k)
end
/-- A program: parts are ahead, within; each statement is in one list. -/
structure Whole (s : PS) : Prop where
  ex : ∀ j x, s.ex[j]? = some x → GdE s.ex j x
  st : ∀ j x, s.st[j]? = some x → GdS s.st j x
  cn : ∀ k : Nat, (own s.st).count (k : Int) + (s.fn.flatMap Fn.bd).count (k : Int) = if k < s.st.length then 1 else 0
  fn : ∀ f ∈ s.fn, Op s f.f f.e f.bd
end Go.Proofs.YtfnbgbeinmekgaaGreatDoor.Sy
namespace Go.Proofs.YtfnbgbeinmekgaaGreatDoor.Pt
open Go Sy Nu
set_option linter.unusedVariables false
/-- How long what is put at a place is. -/
def wx (x : Ex) : Int := (x.nm.length : Int) + x.op.length + (if x.k = 1 then ((dc x.n).length : Int) else 0)
def mu (l : List Ex) : Int := (l.map wx).sum
theorem mu_app (a b : List Ex) : mu (a ++ b) = mu a + mu b := by simp [mu]
theorem mu_bx (l : List Ex) : mu (l.map bx) = mu l := by
  unfold mu; rw [List.map_map]; rfl
section
variable {E : Env} {N : Nat}
theorem wd_len (M : Mono E N) {s : PS} (hW : ∀ (i : Nat) (t : Tk.T3), E.T[i]? = some t → ∀ w : List Int, E.W[i]? = some w → (w.length : Int) ≤ t.2.2 - t.2.1) (h : s.i < N) : ((Sy.wd E s).length : Int) ≤ eI E s.i - hI E s.i := by
  obtain ⟨t, ht⟩ : ∃ t, E.T[s.i]? = some t := ⟨_, List.getElem?_eq_getElem (by rw [M.T]; exact h)⟩
  obtain ⟨w, hw⟩ : ∃ w, E.W[s.i]? = some w := ⟨_, List.getElem?_eq_getElem (by rw [M.W]; exact h)⟩
  have := hW _ _ ht _ hw
  unfold Sy.wd eI hI
  rw [ht, hw]; exact this
/-- What is known of the tokens. -/
structure Lw (E : Env) (N : Nat) : Prop where
  mo : Mono E N
  nu : Tkn E
  wl : ∀ (i : Nat) (t : Tk.T3), E.T[i]? = some t → ∀ w : List Int, E.W[i]? = some w → (w.length : Int) ≤ t.2.2 - t.2.1
def q_ (E : Env) (s : PS) : Int := eI E (s.i - 1)
/-- What is put is no longer than what was taken. -/
def Qw (E : Env) (m : Int) (s t : PS) : Prop := s.i ≤ t.i ∧ mu t.ex + q_ E s ≤ mu s.ex + q_ E t + m
theorem Qw.refl (s : PS) : Qw E 0 s s := ⟨Nat.le_refl _, by omega⟩
theorem Qw.trans {m m' : Int} {s t u : PS} (h : Qw E m s t) (g : Qw E m' t u) : Qw E (m + m') s u := ⟨Nat.le_trans h.1 g.1, by have := h.2; have := g.2; omega⟩
theorem Qw.le {m m' : Int} {s t : PS} (h : Qw E m s t) (hm : m ≤ m') : Qw E m' s t := ⟨h.1, by have := h.2; omega⟩
theorem adv_q (H : Lw E N) {s : PS} (h1 : 1 ≤ s.i) (h : s.i < N) : Qw E (-((Sy.wd E s).length : Int)) s (Sy.adv s) := by
  refine ⟨Nat.le_succ _, ?_⟩
  have h2 := wd_len H.mo H.wl h
  have h3 := H.mo.nx (s.i - 1) (by omega)
  rw [show s.i - 1 + 1 = s.i by omega] at h3
  show mu s.ex + eI E (s.i - 1) ≤ mu s.ex + eI E (s.i + 1 - 1) + _
  rw [Nat.add_sub_cancel]
  omega
theorem want_q (H : Lw E N) {w : List Int} (hw : w ≠ []) {s t : PS} {x : Unit} (h1 : 1 ≤ s.i) (h : want E w s = .ok x t) : Qw E 0 s t ∧ 1 ≤ t.i := by
  have hl := want_lt H.mo.W hw h
  obtain ⟨rfl, _⟩ := want_gr h
  exact ⟨(adv_q H h1 hl).le (by omega), by show 1 ≤ s.i + 1; omega⟩
theorem knd_q (H : Lw E N) {k : Int} (hk : k ≠ 0) {s t : PS} {x : List Int} (h1 : 1 ≤ s.i) (h : knd E k s = .ok x t) : Qw E (-(x.length : Int)) s t ∧ 1 ≤ t.i := by
  have hl := knd_lt H.mo.T hk h
  obtain ⟨rfl, rfl, _⟩ := knd_gr h
  exact ⟨adv_q H h1 hl, by show 1 ≤ s.i + 1; omega⟩
theorem put_q {fr : Int} {x : Ex} {s t : PS} {a : Int} (h : put E fr x s = .ok a t) : Qw E (wx x) s t := by
  cases h
  refine ⟨Nat.le_refl _, ?_⟩
  show mu (s.ex ++ [{ x with f := fr, e := pe E s }]) + _ ≤ _
  rw [mu_app]
  have : mu [{ x with f := fr, e := pe E s }] = wx x := by simp [mu, wx]
  rw [this]
  show _ + q_ E s ≤ mu s.ex + q_ E s + wx x
  omega
structure WtL (E : Env) (L : Lv) : Prop where
  row : ∀ v d s a t, 1 ≤ s.i → L.row v d s = .ok a t → Qw E 0 s t
  rows : ∀ v d fr a s b t, 1 ≤ s.i → L.rows v d fr a s = .ok b t → Qw E 0 s t
  expr : ∀ d s a t, 1 ≤ s.i → L.expr d s = .ok a t → Qw E 0 s t
  unary : ∀ d s a t, 1 ≤ s.i → L.unary d s = .ok a t → Qw E 0 s t
  prim : ∀ d s a t, 1 ≤ s.i → L.prim d s = .ok a t → Qw E 0 s t
  args : ∀ fr nm d l s a t, 1 ≤ s.i → L.args fr nm d l s = .ok a t → Qw E (nm.length : Int) s t
theorem wt_step (H : Lw E N) {L : Lv} (hL : WtL E L) : WtL E (stepL E L) := by
  constructor
  · intro v d s a t h1 h
    have h : sRow E L v d s = .ok a t := h
    unfold sRow at h
    split at h
    · exact hL.unary _ _ _ _ h1 h
    · obtain ⟨b, s1, e1, e2⟩ := bind_inv h
      have g := hL.row _ _ _ _ _ h1 e1
      exact (g.trans (hL.rows _ _ _ _ _ _ _ (by have := g.1; omega) e2)).le (by omega)
  · intro v d fr a s b t h1 h
    have h : sRows E L v d fr a s = .ok b t := h
    unfold sRows at h
    split at h
    · rename_i hop
      have hne : Sy.wd E s ≠ [] := fun e => by
        rw [e] at hop
        have : ∀ v, [] ∉ sgs v := fun v => by match v with | 0 => decide | 1 => decide | 2 => decide | 3 => decide | n + 4 => (show [] ∉ sgs 4; decide)
        exact this v hop
      have hl := wd_lt H.mo.W hne
      have ga := adv_q H h1 hl
      obtain ⟨c, s1, e1, e2⟩ := bind_inv h
      obtain ⟨p, s2, e3, e4⟩ := bind_inv e2
      have g1 := hL.row _ _ _ _ _ (by show 1 ≤ s.i + 1; omega) e1
      have g2 := put_q e3
      have hw : wx { k := 9, op := Sy.wd E s, a := a, b := c } = ((Sy.wd E s).length : Int) := by simp [wx]
      rw [hw] at g2
      have g := ((ga.trans g1).trans g2).le (m' := 0) (by omega)
      split at e4
      · cases e4; exact g
      · exact (g.trans (hL.rows _ _ _ _ _ _ _ (by have := g.1; omega) e4)).le (by omega)
    · cases h
      exact Qw.refl s
  · intro d s a t h1 h
    obtain ⟨_, s1, e1, e2⟩ := bind_inv (show sExpr E L d s = .ok a t from h)
    obtain ⟨rfl, _⟩ := deep_gr e1
    exact hL.row _ _ _ _ _ h1 e2
  · intro d s a t h1 h
    have h : sUnary E L d s = .ok a t := h
    unfold sUnary at h
    split at h
    · rename_i hop
      have hne : Sy.wd E s ≠ [] := fun e => by rw [e] at hop; rcases hop with h | h <;> cases h
      have hl := wd_lt H.mo.W hne
      have ga := adv_q H h1 hl
      obtain ⟨_, s1, e1, e2⟩ := bind_inv h
      obtain ⟨rfl, _⟩ := deep_gr e1
      obtain ⟨b, s2, e3, e4⟩ := bind_inv e2
      have g1 := hL.unary _ _ _ _ (by show 1 ≤ s.i + 1; omega) e3
      have g2 := put_q e4
      have hw : wx { k := 8, op := Sy.wd E s, a := b } = ((Sy.wd E s).length : Int) := by simp [wx]
      rw [hw] at g2
      exact ((ga.trans g1).trans g2).le (by omega)
    · exact hL.prim _ _ _ _ h1 h
  · intro d s a t h1 h
    have h : sPrim E L d s = .ok a t := h
    unfold sPrim at h
    have leaf : ∀ (y : Ex), s.i < N → wx y ≤ ((Sy.wd E s).length : Int) → put E (hr E s) y (Sy.adv s) = .ok a t → Qw E 0 s t := fun y hl hw hp => ((adv_q H h1 hl).trans (put_q hp)).le (by omega)
    have h0 : wx { k := 2 } = 0 ∧ wx { k := 3 } = 0 ∧ wx { k := 7 } = 0 := ⟨rfl, rfl, rfl⟩
    split at h
    · rename_i hk
      have hn := num_wf (H.nu.nu _ hk)
      refine leaf _ (kd_lt H.mo.T (by rw [hk]; decide)) ?_ h
      simp [wx, hn.2]
    split at h
    · rename_i hw
      exact leaf _ (wd_lt H.mo.W (by rw [hw]; decide)) (by rw [h0.1]; omega) h
    split at h
    · rename_i hw
      exact leaf _ (wd_lt H.mo.W (by rw [hw]; decide)) (by rw [h0.2.1]; omega) h
    split at h
    · rename_i hw
      exact leaf _ (wd_lt H.mo.W (by rw [hw]; decide)) (by rw [h0.2.2]; omega) h
    split at h
    · rename_i hw
      have hl := wd_lt H.mo.W (s := s) (by rw [hw]; decide)
      obtain ⟨b, s1, e1, e2⟩ := bind_inv h
      obtain ⟨_, s2, e3, e4⟩ := bind_inv e2
      cases e4
      have ga := (adv_q H h1 hl).le (m' := 0) (by omega)
      have g1 := hL.expr _ _ _ _ (by show 1 ≤ s.i + 1; omega) e1
      have g2 := (want_q H (by decide) (by have := g1.1; have h : (Sy.adv s).i = s.i + 1 := rfl; omega) e3).1
      exact ((ga.trans g1).trans g2).le (by omega)
    obtain ⟨nm, s1, e1, e2⟩ := bind_inv h
    have gk := knd_q H (by decide) h1 e1
    split at e2
    · rename_i hw
      have hl := wd_lt H.mo.W (s := s1) (by rw [hw]; decide)
      obtain ⟨b, s2, e3, e4⟩ := bind_inv e2
      obtain ⟨_, s3, e5, e6⟩ := bind_inv e4
      have ga := (adv_q H gk.2 hl).le (m' := 0) (by omega)
      have g1 := hL.expr _ _ _ _ (by show 1 ≤ s1.i + 1; omega) e3
      have g2 := (want_q H (by decide) (by have := g1.1; have h : (Sy.adv s1).i = s1.i + 1 := rfl; omega) e5).1
      have g3 := put_q e6
      have hw : wx { k := 5, nm := nm, a := b } = (nm.length : Int) := by simp [wx]
      rw [hw] at g3
      exact ((((gk.1.trans ga).trans g1).trans g2).trans g3).le (by omega)
    · split at e2
      · obtain ⟨_, s2, e3, e4⟩ := bind_inv e2
        have g2 := want_q H (by decide) gk.2 e3
        have g1 := hL.args _ _ _ _ _ _ _ g2.2 e4
        exact ((gk.1.trans g2.1).trans g1).le (by omega)
      · have g3 := put_q e2
        have hw : wx { k := 4, nm := nm } = (nm.length : Int) := by simp [wx]
        rw [hw] at g3
        exact (gk.1.trans g3).le (by omega)
  · intro fr nm d l s a t h1 h
    have h : sArgs E L fr nm d l s = .ok a t := h
    unfold sArgs at h
    split at h
    · rename_i hw
      have hl := wd_lt H.mo.W (s := s) (by rw [hw]; decide)
      have ga := (adv_q H h1 hl).le (m' := 0) (by omega)
      have g3 := put_q h
      have hw : wx { k := 6, nm := nm, l := l } = (nm.length : Int) := by simp [wx]
      rw [hw] at g3
      exact (ga.trans g3).le (by omega)
    · obtain ⟨_, s1, e1, e2⟩ := bind_inv h
      have gs : Qw E 0 s s1 ∧ 1 ≤ s1.i := by
        split at e1
        · cases e1; exact ⟨Qw.refl _, h1⟩
        · exact want_q H (by decide) h1 e1
      obtain ⟨b, s2, e3, e4⟩ := bind_inv e2
      have g1 := hL.expr _ _ _ _ gs.2 e3
      split at e4
      · exact ((gs.1.trans g1).trans (hL.args _ _ _ _ _ _ _ (by have := g1.1; have := gs.2; omega) e4)).le (by omega)
      · unfold Sy.er at e4; cases e4
theorem wt_lv (H : Lw E N) : ∀ n, WtL E (lv E n)
  | 0 => ⟨fun _ _ _ _ _ _ h => (by cases h), fun _ _ _ _ _ _ _ _ h => (by cases h), fun _ _ _ _ _ h => (by cases h), fun _ _ _ _ _ h => (by cases h), fun _ _ _ _ _ h => (by cases h), fun _ _ _ _ _ _ _ _ h => (by cases h)⟩
  | n + 1 => wt_step H (wt_lv H n)
end
theorem lw_of {L : List Int} (ht : Txt L) : Lw (envOf L) (Tk.allT L).1.length := by
  refine ⟨mono_env ht, tkn_of ht, fun i t hT w hw => ?_⟩
  have hw : (List.map (fun t : Tk.T3 => (L.take t.2.2.toNat).drop t.2.1.toNat) (Tk.allT L).1)[i]? = some w := hw
  have hT : (Tk.allT L).1[i]? = some t := hT
  rw [List.getElem?_map, hT] at hw
  simp only [Option.map_some, Option.some.injEq] at hw
  subst hw
  have hb := Tk.als_bounds _ _ _ _ (by rw [ht.als]; exact List.mem_of_getElem? hT)
  rw [List.length_drop, List.length_take]
  have := hb.2.1
  omega
/-- An expression's text, by its weight. -/
theorem eT_wt : ∀ (x : X) (lo : Nat), wf x → ((eT x).length : Int) + (if isX x then 2 else 0) ≤ mu (fl lo x) + 8 * (sz x : Int) := by
  intro x
  induction x with
  | num n => intro lo h; simp [eT, fl, mu, wx, sz, isX]
  | tt => intro lo _; simp [eT, fl, mu, wx, sz, isX, wTrue]
  | ff => intro lo _; simp [eT, fl, mu, wx, sz, isX, wFalse]
  | rd => intro lo _; simp [eT, fl, mu, wx, sz, isX, wRead]
  | nm w => intro lo h; simp [eT, fl, mu, wx, sz, isX]
  | idx w a ih =>
    intro lo h
    have := ih lo h.2.2
    rw [if_pos h.2.1] at this
    have e : mu [{ k := 5, nm := w, a := rt lo a }] = (w.length : Int) := by simp [mu, wx]
    simp only [eT, fl, mu_app, e, sz, isX, if_true, List.length_append, List.length_cons, List.length_nil]; omega
  | call w l ih =>
    intro lo h
    have := ih lo h.2.2
    rw [h.2.1] at this
    have e : mu [{ k := 6, nm := w, l := rts lo l }] = (w.length : Int) := by simp [mu, wx]
    simp only [Bool.false_eq_true, if_false] at this
    simp only [eT, fl, mu_app, e, sz, isX, if_true, List.length_append, List.length_cons, List.length_nil]; omega
  | un op a ih =>
    intro lo h
    have := ih lo h.2.2
    rw [if_pos h.2.1] at this
    have hb := br_len (decide (lvX a < 5)) (eT a)
    have e : mu [{ k := 8, op := op, a := rt lo a }] = (op.length : Int) := by simp [mu, wx]
    simp only [eT, fl, mu_app, e, sz, isX, if_true, List.length_append]; omega
  | pr op a b iha ihb =>
    intro lo h
    obtain ⟨_, h1, h2, h3, h4⟩ := h
    have a1 := iha lo h3
    have b1 := ihb (lo + sz a) h4
    rw [if_pos h1] at a1
    rw [if_pos h2] at b1
    have hb := br_len (decide (lvX a < lf (lvO op))) (eT a)
    have hc := br_len (decide (lvX b < lvO op + 1)) (eT b)
    have e : mu [{ k := 9, op := op, a := rt lo a, b := rt (lo + sz a) b }] = (op.length : Int) := by simp [mu, wx]
    simp only [eT, fl, mu_app, e, sz, isX, if_true, List.length_append, List.length_cons]; omega
  | nil => intro lo _; simp [eT, fl, mu, sz, isX]
  | cons x l ihx ihl =>
    intro lo h
    have a1 := ihx lo h.2.2.1
    have b1 := ihl (lo + sz x) h.2.2.2
    rw [if_pos h.1] at a1
    rw [h.2.1] at b1
    have hs : (sepC l).length ≤ 2 := by cases l <;> simp [sepC]
    simp only [Bool.false_eq_true, if_false] at b1
    simp only [eT, fl, mu_app, sz, isX, Bool.false_eq_true, if_false, List.length_append]; omega
end Go.Proofs.YtfnbgbeinmekgaaGreatDoor.Pt
namespace Go.Proofs.YtfnbgbeinmekgaaGreatDoor.Pt
open Go Sy Nu
set_option linter.unusedVariables false
set_option maxRecDepth 20000
/-- What stands ahead of the expression. -/
def preP : List Int := [102, 117, 110, 99, 32, 102, 40, 41, 32, 123, 32, 112, 114, 105, 110, 116, 32]
def preR : List Int := [102, 117, 110, 99, 32, 102, 40, 41, 32, 123, 32, 114, 101, 116, 117, 114, 110, 32]
theorem als_peel {f a : Nat} {L : List Int} {T : List Tk.T3} {k : Int} {n m : Nat} (h : Tk.als f a L = (T, none)) (hn : Tk.nx L = ⟨true, k, n, m⟩) (hk : k ≠ 0) :
    ∃ r g, T = (k, ((a + n : Nat) : Int), ((a + n + m : Nat) : Int)) :: r ∧ Tk.als g (a + n + m) (L.drop (n + m)) = (r, none) := by
  cases f with
  | zero => simp [Tk.als] at h
  | succ f =>
    rw [Tk.als_more (by rw [hn]) (by rw [hn]; exact hk), hn] at h
    simp only [Prod.mk.injEq] at h
    exact ⟨_, f, h.1.symm, Prod.ext rfl h.2⟩
/-- The first words. -/
theorem pre_words {X : List Int} (ht : Txt (preP ++ X)) : ∃ r, (envOf (preP ++ X)).W = wFunc :: [102] :: wLpar :: wRpar :: wLcur :: wPrint :: r := by
  obtain ⟨r1, g1, e1, h1⟩ := als_peel (k := 3) (n := 0) (m := 4) ht.als rfl (by decide)
  obtain ⟨r2, g2, e2, h2⟩ := als_peel (k := 1) (n := 1) (m := 1) h1 rfl (by decide)
  obtain ⟨r3, g3, e3, h3⟩ := als_peel (k := 4) (n := 0) (m := 1) h2 rfl (by decide)
  obtain ⟨r4, g4, e4, h4⟩ := als_peel (k := 4) (n := 0) (m := 1) h3 rfl (by decide)
  obtain ⟨r5, g5, e5, h5⟩ := als_peel (k := 4) (n := 1) (m := 1) h4 rfl (by decide)
  obtain ⟨r6, g6, e6, h6⟩ := als_peel (k := 3) (n := 1) (m := 5) h5 rfl (by decide)
  refine ⟨r6.map fun t => ((preP ++ X).take t.2.2.toNat).drop t.2.1.toNat, ?_⟩
  show (Tk.allT (preP ++ X)).1.map _ = _
  rw [e1, e2, e3, e4, e5, e6]
  rfl
theorem zy_pos {s : Y} (h : isY s = true) : 1 ≤ zy s := by
  cases s <;> first | (simp only [zy]; omega) | cases h
theorem row_no {y : Y} (h : isY y = false) (hw : wfY y) (hz : zy y = 0) : zx y = 0 := by
  cases y with
  | nil => rfl
  | cons s l => have := zy_pos hw.1; simp only [zy] at hz; omega
  | _ => cases h
theorem fs_no : ∀ fs : List F, (∀ f ∈ fs, wfF f) → pz fs = 0 → px fs = 0 := by
  intro fs
  induction fs with
  | nil => intro _ _; rfl
  | cons f r ih =>
    intro h hz
    have e1 : px (f :: r) = zx f.bd + px r := by simp [px]
    have e2 : pz (f :: r) = zy f.bd + pz r := by simp [pz]
    have hf := h f (by simp)
    rw [e1, row_no hf.is hf.wf (by omega), ih (fun g hg => h g (by simp [hg])) (by omega)]
theorem eI_le {L : List Int} (ht : Txt L) (i : Nat) : 0 ≤ eI (envOf L) i ∧ eI (envOf L) i ≤ (L.length : Int) := by
  unfold eI
  cases h : (envOf L).T[i]? with
  | none => simp
  | some t =>
    have hT : (Tk.allT L).1[i]? = some t := h
    have hb := Tk.als_bounds _ _ _ _ (by rw [ht.als]; exact List.mem_of_getElem? hT)
    simp only
    have h1 := hb.1
    have h2 := hb.2.1
    have h3 := hb.2.2
    simp only [Nat.zero_add] at *
    omega
/-- A program that begins so: its first statement prints the expression. -/
theorem first_print {X : List Int} {S : PS} (h : prs (preP ++ X) = .ok () S) : ∃ x xs ys, isX x = true ∧ wf x ∧ (1 : Int) + dp x ≤ 64 ∧ S.ex.map bx = fl 0 x ++ xs ∧ S.st.map bs = { k := 10, a := rt 0 x } :: ys ∧ (ys = [] → xs = []) ∧ mu (fl 0 x) ≤ ((preP ++ X).length : Int) := by
  obtain ⟨ht, h0, hf⟩ := txt_of h
  obtain ⟨r, hW⟩ := pre_words ht
  have H := lw_of ht
  obtain ⟨E, hE⟩ : ∃ E, envOf (preP ++ X) = E := ⟨_, rfl⟩
  have hei := fun i => eI_le ht i
  rw [hE] at hf hW H hei
  have hT := H.nu
  obtain ⟨k, hk⟩ : ∃ k, fuel (preP ++ X) = k + 5 := ⟨fuel (preP ++ X) - 5, by unfold fuel; omega⟩
  rw [hk] at hf
  have wd_at : ∀ (s : PS) (j : Nat) (w : List Int), s.i = j → E.W[j]? = some w → Sy.wd E s = w := fun s j w h1 h2 => by unfold Sy.wd; rw [h1, h2]; rfl
  unfold fcts at hf
  rw [if_neg (fun h => h.1 rfl)] at hf
  obtain ⟨_, t1, hf1, hf2⟩ := bind_inv hf
  obtain ⟨hl, nm, s2, s3, ps, s4, ty, s5, bd, s6, h2, h3, h4, h5, q, h6, rfl⟩ := fct_inv hf1
  obtain ⟨rfl, rfl, _⟩ := knd_gr h2
  obtain ⟨rfl, _⟩ := want_gr h3
  unfold prms at h4
  rw [if_pos (wd_at _ 3 wRpar rfl (by rw [hW]; rfl))] at h4
  cases h4
  have h5 : s5 = Sy.adv (Sy.adv (Sy.adv (Sy.adv ⟨0, [], [], []⟩))) := by
    rcases h5 with ⟨hi, _, _⟩ | ⟨_, _, rfl⟩
    · rw [wd_at _ 4 wLcur rfl (by rw [hW]; rfl)] at hi; exact absurd hi (by decide)
    · rfl
  subst h5
  obtain ⟨_, u1, b1, b2⟩ := bind_inv h6
  obtain ⟨_, u2, b3, b4⟩ := bind_inv b2
  obtain ⟨rfl, hw4⟩ := want_gr b3
  have hu1 : u1 = Sy.adv (Sy.adv (Sy.adv (Sy.adv ⟨0, [], [], []⟩))) := by
    split at b1
    · exact (deep_gr b1).1
    · cases b1; rfl
  subst hu1
  have hwp : Sy.wd E (Sy.adv (Sy.adv (Sy.adv (Sy.adv (Sy.adv ⟨0, [], [], []⟩))))) = wPrint := wd_at _ 5 wPrint rfl (by rw [hW]; rfl)
  have b4 : sStmts E (lv E (k + 4)) 1 [] _ = .ok bd s6 := b4
  unfold sStmts at b4
  rw [if_neg (by rw [hwp]; decide)] at b4
  obtain ⟨a, v1, c1, c2⟩ := bind_inv b4
  have c1 : sStmt E (lv E (k + 3)) 1 _ = .ok a v1 := c1
  unfold sStmt at c1
  rw [hwp, if_neg (by decide), if_neg (by decide), if_neg (by decide), if_neg (by decide), if_neg (by decide), if_neg (by decide), if_pos rfl] at c1
  obtain ⟨ax, v2, d1, d2⟩ := bind_inv c1
  obtain ⟨⟨x, x1, x2, x3, x4, x5⟩, _⟩ := (ax_lv hT (k + 3)).expr _ _ _ _ d1
  rw [pd_0] at x3
  have hwt := (wt_lv H (k + 3)).expr _ _ _ _ (by show 1 ≤ 6; omega) d1
  obtain ⟨g, _⟩ := endS_gy d2
  obtain ⟨y, y1, y2, y3, y4, y5⟩ := (ay_lv hT (k + 4)).stmts _ _ _ _ _ (by omega) c2
  obtain ⟨fs, z1, z2, z3, z4, z5⟩ := fcts_ax hT _ _ _ _ (by rw [(fct_up hf1).2.2.1]; decide) hf2
  have x4e : v2.ex.map bx = fl 0 x := by have := x4.ex; simpa [Sy.adv] using this
  have x4s : v2.st = [] := by have := x4.st; simpa [Sy.adv] using this
  have x5 : ax = rt 0 x := x5
  have ge : v1.ex.map bx = fl 0 x := by have := g.ex; rw [x4e] at this; simpa using this
  have gs : v1.st.map bs = [{ k := 10, a := rt 0 x }] := by have := g.st; rw [x4s] at this; simpa [bs, x5] using this
  refine ⟨x, fx v1.ex.length y ++ pX s6.ex.length fs, fy v1.ex.length v1.st.length y ++ pS s6.ex.length s6.st.length fs, x1, x2, x3, ?_, ?_, fun e => ?_, ?_⟩
  · rw [z2]
    show s6.ex.map bx ++ pX s6.ex.length fs = _
    rw [y4.ex, ge, List.append_assoc]
  · rw [z3]
    show s6.st.map bs ++ pS s6.ex.length s6.st.length fs = _
    rw [y4.st, gs]; rfl
  · obtain ⟨ea, eb⟩ := List.append_eq_nil_iff.1 e
    have h1 := congrArg List.length ea
    have h2 := congrArg List.length eb
    rw [fy_len, List.length_nil] at h1
    rw [pS_len, List.length_nil] at h2
    have h3 := row_no y1 y2 h1
    have h4 := fs_no fs z1 h2
    refine List.append_eq_nil_iff.2 ⟨List.length_eq_zero_iff.1 ?_, List.length_eq_zero_iff.1 ?_⟩
    · rw [fx_len]; exact h3
    · rw [pX_len]; exact h4
  · have h1 := hwt.2
    rw [← x4e, mu_bx]
    have h2 := (hei (v2.i - 1)).2
    have h3 := (hei (6 - 1)).1
    have h4 : mu ([] : List Ex) = 0 := rfl
    have h1 : mu v2.ex + eI E (6 - 1) ≤ mu ([] : List Ex) + eI E (v2.i - 1) + 0 := h1
    rw [h4] at h1
    omega
/-- An expression's text as a part of another program. -/
theorem ret_parse {x : X} (hx : isX x = true) (hw : wf x) (hd : (1 : Int) + dp x ≤ 64) (hl : (eT x).length ≤ 19900) : ∃ S, prs (preR ++ (eT x ++ [59, 32, 125])) = .ok () S ∧ S.ex.map bx = fl 0 x ∧ S.st.map bs = [{ k := 9, a := rt 0 x }] := by
  have hnf : NmW [102] := ⟨by decide, by decide⟩
  have hwf : wfF ⟨[102], [], 4, .cons (.ret x) .nil⟩ := ⟨hnf, fun p hp => (by cases hp), Nat.zero_le _, .inr rfl, rfl, ⟨rfl, rfl, ⟨hx, hw⟩, trivial⟩, ⟨hd, trivial⟩⟩
  have f32 : ∀ {K : List Int}, Fs (32 :: K) := Fs.of (st 32 (by decide))
  have hL : Lx (preR ++ (eT x ++ [59, 32, 125])) (wP [⟨[102], [], 4, .cons (.ret x) .nil⟩]) := by
    have l1 : Lx [59, 32, 125] [wSemi, wRcur] := ((Lx.nil.sign (c := 125) (by decide)).blank (c := 32) rfl).sign (c := 59) (by decide)
    have l2 := lexX x hw _ _ (Fs.of (st 59 (by decide))) l1
    have l3 := (l2.blank (c := 32) rfl).wd (kw wReturn (by decide)) f32
    have l4 := (l3.blank (c := 32) rfl).sign (c := 123) (by decide)
    have l5 := ((l4.blank (c := 32) rfl).sign (c := 41) (by decide)).sign (c := 40) (by decide)
    have l6 := l5.wd (nm_wd hnf) (Fs.of (st 40 (by decide)))
    have l7 := (l6.blank (c := 32) rfl).wd (kw wFunc (by decide)) f32
    have e : wP [⟨[102], [], 4, .cons (.ret x) .nil⟩] = wFunc :: [102] :: [40] :: [41] :: [123] :: wReturn :: (eW x ++ [wSemi, wRcur]) := by
      simp [wP, wF, jnW, blkW, wY, wLpar, wRpar, wLcur]
    rw [e]
    exact l7
  obtain ⟨S, e1, e2, e3, _⟩ := prsB hL (by simp [preR]; omega) (fun f hf => by rw [List.mem_singleton.1 hf]; exact hwf) (by simp) (by simp) (by simp [pz, zy])
  exact ⟨S, e1, by rw [e2]; simp [pX, fx], by rw [e3]; simp [pS, fy]⟩
end Go.Proofs.YtfnbgbeinmekgaaGreatDoor.Pt
