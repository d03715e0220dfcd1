/- What the proofs of this seat lean on, part 6. -/
import Derived.Test.YtkllhfajldnpoaaPk5
namespace Go.Proofs.Ytkllhfajldnpoaa.Rf
open Go Go.RowKit Fw Sy
set_option linter.unusedVariables false
set_option maxRecDepth 20000
section
variable {X : Cr} {w0 : World} {q : Q}
theorem isE {y : List Int} (hc : q.c ≠ 0) : isQ X y q = false := decide_eq_false fun h => hc h.1
abbrev Er (X : Cr) (w : World) (q : Q) (v : Value) (w' : World) : Prop := ∃ a, v = .tuple #[qv X q, .int .i64 a] ∧ Sg X w q w' q
theorem exprE (hc : q.c ≠ 0) (d : Int) (h : Aq X w0 q) : Ret Try.prog 89 [qv X q, .int .i64 d] w0 (Er X w0 q) := by
  refine ret_enter Try.func89 rfl Try.ntmps89 rfl ?_
  (repeat refine Zlr ?_)
  refine s_box (cs := qc X q) rfl rfl (fun b w n => ?_)
  have G := (Wb.start h).new n
  (repeat refine Zlr ?_)
  refine s_al rfl (fun b2 w n2 => ?_)
  have G := G.new n2
  have h0 := G.blk 0 rfl; try have h1 := G.blk 1 rfl; try have h2 := G.blk 2 rfl; try have h3 := G.blk 3 rfl; try have h4 := G.blk 4 rfl; try have h5 := G.blk 5 rfl
  (repeat refine Zlr ?_)
  refine s_call (us := []) (zs := []) (by kernel_rfl) rfl rfl (deepF G.at_ (d)) ?_
  rintro _ w ⟨rfl, k⟩
  have G := G.no k
  have G := G.mv (Sg.deep G.at_ (d := d))
  have h0 := G.blk 0 rfl; try have h1 := G.blk 1 rfl; try have h2 := G.blk 2 rfl; try have h3 := G.blk 3 rfl; try have h4 := G.blk 4 rfl; try have h5 := G.blk 5 rfl
  (repeat refine Zlr ?_)
  rw [deep_er hc] at G ⊢
  have h0 := G.blk 0 rfl; try have h1 := G.blk 1 rfl; try have h2 := G.blk 2 rfl; try have h3 := G.blk 3 rfl; try have h4 := G.blk 4 rfl; try have h5 := G.blk 5 rfl
  refine s_stw (vs := qc X (q)) rfl rfl rfl rfl rfl h1 rfl (fun w s => ?_)
  have G := G.put 1 rfl s rfl
  have h0 := G.blk 0 rfl; try have h1 := G.blk 1 rfl; try have h2 := G.blk 2 rfl; try have h3 := G.blk 3 rfl; try have h4 := G.blk 4 rfl; try have h5 := G.blk 5 rfl
  (repeat refine Zlr ?_)
  refine c_t (by show Value.bool (q.c != 0) = _; rw [bne_iff_ne.2 hc]) ?_
  (repeat refine Zlr ?_)
  refine s_stw (vs := qc X (q)) rfl rfl rfl rfl rfl h0 rfl (fun w s => ?_)
  have G := G.put 0 rfl s rfl
  have h0 := G.blk 0 rfl; try have h1 := G.blk 1 rfl; try have h2 := G.blk 2 rfl; try have h3 := G.blk 3 rfl; try have h4 := G.blk 4 rfl; try have h5 := G.blk 5 rfl
  (repeat refine Zlr ?_)
  exact ret_c2 rfl (rv_agw rfl h0 rfl rfl) (rv_t rfl) ⟨0, rfl, G.sg⟩
theorem primE (hc : q.c ≠ 0) (d : Int) (h : Aq X w0 q) : Ret Try.prog 103 [qv X q, .int .i64 d] w0 (Er X w0 q) := by
  refine ret_enter Try.func103 rfl Try.ntmps103 rfl ?_
  (repeat refine Zlr ?_)
  refine s_box (cs := qc X q) rfl rfl (fun b w n => ?_)
  have G := (Wb.start h).new n
  (repeat refine Zlr ?_)
  refine s_al rfl (fun b2 w n2 => ?_)
  have G := G.new n2
  have h0 := G.blk 0 rfl; try have h1 := G.blk 1 rfl; try have h2 := G.blk 2 rfl; try have h3 := G.blk 3 rfl; try have h4 := G.blk 4 rfl; try have h5 := G.blk 5 rfl
  (repeat refine Zlr ?_)
  refine c_t (by show Value.bool (q.c != 0) = _; rw [bne_iff_ne.2 hc]) ?_
  (repeat refine Zlr ?_)
  refine s_stw (vs := qc X (q)) rfl rfl rfl rfl rfl h0 rfl (fun w s => ?_)
  have G := G.put 0 rfl s rfl
  have h0 := G.blk 0 rfl; try have h1 := G.blk 1 rfl; try have h2 := G.blk 2 rfl; try have h3 := G.blk 3 rfl; try have h4 := G.blk 4 rfl; try have h5 := G.blk 5 rfl
  (repeat refine Zlr ?_)
  exact ret_c2 rfl (rv_agw rfl h0 rfl rfl) (rv_t rfl) ⟨0, rfl, G.sg⟩
theorem unaryE (hc : q.c ≠ 0) (d : Int) (h : Aq X w0 q) : Ret Try.prog 101 [qv X q, .int .i64 d] w0 (Er X w0 q) := by
  refine ret_enter Try.func101 rfl Try.ntmps101 rfl ?_
  (repeat refine Zlr ?_)
  refine s_box (cs := qc X q) rfl rfl (fun b w n => ?_)
  have G := (Wb.start h).new n
  (repeat refine Zlr ?_)
  refine s_al rfl (fun b2 w n2 => ?_)
  have G := G.new n2
  have h0 := G.blk 0 rfl; try have h1 := G.blk 1 rfl; try have h2 := G.blk 2 rfl; try have h3 := G.blk 3 rfl; try have h4 := G.blk 4 rfl; try have h5 := G.blk 5 rfl
  (repeat refine Zlr ?_)
  refine s_call (us := []) (zs := []) (by kernel_rfl) rfl rfl (hereF G.at_) ?_
  rintro _ w ⟨rfl, k⟩
  have G := G.no k
  have h0 := G.blk 0 rfl; try have h1 := G.blk 1 rfl; try have h2 := G.blk 2 rfl; try have h3 := G.blk 3 rfl; try have h4 := G.blk 4 rfl; try have h5 := G.blk 5 rfl
  (repeat refine Zlr ?_)
  refine s_set 15 true rfl (bne_iff_ne.2 hc) ?_
  (repeat (first | refine Zlr ?_ | refine Zn ?_ | refine Zu ?_ | refine Zg ?_ | refine Zgl ?_))
  refine c_t rfl ?_
  (repeat refine Zlr ?_)
  refine s_call (us := []) (zs := []) (by kernel_rfl) rfl rfl (primE hc d G.at_) ?_
  rintro _ w ⟨a, rfl, g⟩
  have G := G.call g
  have h0 := G.blk 0 rfl; try have h1 := G.blk 1 rfl; try have h2 := G.blk 2 rfl; try have h3 := G.blk 3 rfl; try have h4 := G.blk 4 rfl; try have h5 := G.blk 5 rfl
  (repeat refine Zlr ?_)
  refine s_stw (vs := qc X (q)) rfl rfl rfl rfl rfl h0 rfl (fun w s => ?_)
  have G := G.put 0 rfl s rfl
  have h0 := G.blk 0 rfl; try have h1 := G.blk 1 rfl; try have h2 := G.blk 2 rfl; try have h3 := G.blk 3 rfl; try have h4 := G.blk 4 rfl; try have h5 := G.blk 5 rfl
  (repeat refine Zlr ?_)
  exact ret_c2 rfl (rv_agw rfl h0 rfl rfl) (rv_t rfl) ⟨a, rfl, G.sg⟩
theorem rowE (hc : q.c ≠ 0) (d : Int) : ∀ (k v : Nat) (w0 : World), v + k = 5 → Aq X w0 q → Ret Try.prog 98 [qv X q, .int .i64 (v : Int), .int .i64 d] w0 (Er X w0 q) := by
  intro k
  induction k with
  | zero =>
    intro v w0 hv h
    have e : v = 5 := by omega
    subst e
    refine ret_enter Try.func98 rfl Try.ntmps98 rfl ?_
    (repeat refine Zlr ?_)
    refine s_box (cs := qc X q) rfl rfl (fun b w n => ?_)
    have G := (Wb.start h).new n
    (repeat refine Zlr ?_)
    refine s_al rfl (fun b2 w n2 => ?_)
    have G := G.new n2
    have h0 := G.blk 0 rfl; try have h1 := G.blk 1 rfl; try have h2 := G.blk 2 rfl; try have h3 := G.blk 3 rfl; try have h4 := G.blk 4 rfl; try have h5 := G.blk 5 rfl
    (repeat refine Zlr ?_)
    refine c_t rfl ?_
    (repeat refine Zlr ?_)
    refine s_call (us := []) (zs := []) (by kernel_rfl) rfl rfl (unaryE hc d G.at_) ?_
    rintro _ w ⟨a, rfl, g⟩
    have G := G.call g
    have h0 := G.blk 0 rfl; try have h1 := G.blk 1 rfl; try have h2 := G.blk 2 rfl; try have h3 := G.blk 3 rfl; try have h4 := G.blk 4 rfl; try have h5 := G.blk 5 rfl
    (repeat refine Zlr ?_)
    refine s_stw (vs := qc X (q)) rfl rfl rfl rfl rfl h0 rfl (fun w s => ?_)
    have G := G.put 0 rfl s rfl
    have h0 := G.blk 0 rfl; try have h1 := G.blk 1 rfl; try have h2 := G.blk 2 rfl; try have h3 := G.blk 3 rfl; try have h4 := G.blk 4 rfl; try have h5 := G.blk 5 rfl
    (repeat refine Zlr ?_)
    exact ret_c2 rfl (rv_agw rfl h0 rfl rfl) (rv_t rfl) ⟨a, rfl, G.sg⟩
  | succ k ih =>
    intro v w0 hv h
    refine ret_enter Try.func98 rfl Try.ntmps98 rfl ?_
    (repeat refine Zlr ?_)
    refine s_box (cs := qc X q) rfl rfl (fun b w n => ?_)
    have G := (Wb.start h).new n
    (repeat refine Zlr ?_)
    refine s_al rfl (fun b2 w n2 => ?_)
    have G := G.new n2
    have h0 := G.blk 0 rfl; try have h1 := G.blk 1 rfl; try have h2 := G.blk 2 rfl; try have h3 := G.blk 3 rfl; try have h4 := G.blk 4 rfl; try have h5 := G.blk 5 rfl
    (repeat refine Zlr ?_)
    refine c_eq rfl (fun e => by omega) (fun _ => ?_)
    (repeat refine Zlr ?_)
    refine s_call (us := []) (zs := []) (by kernel_rfl) rfl rfl (hereF G.at_) ?_
    rintro _ w ⟨rfl, k⟩
    have G := G.no k
    have h0 := G.blk 0 rfl; try have h1 := G.blk 1 rfl; try have h2 := G.blk 2 rfl; try have h3 := G.blk 3 rfl; try have h4 := G.blk 4 rfl; try have h5 := G.blk 5 rfl
    (repeat refine Zlr ?_)
    refine s_call (us := []) (zs := []) (by kernel_rfl) rfl rfl (ih (v + 1) _ (by omega) G.at_) ?_
    rintro _ w ⟨a, rfl, g⟩
    have G := G.call g
    have h0 := G.blk 0 rfl; try have h1 := G.blk 1 rfl; try have h2 := G.blk 2 rfl; try have h3 := G.blk 3 rfl; try have h4 := G.blk 4 rfl; try have h5 := G.blk 5 rfl
    (repeat refine Zlr ?_)
    refine s_stw (vs := qc X (q)) rfl rfl rfl rfl rfl h1 rfl (fun w s => ?_)
    have G := G.put 1 rfl s rfl
    have h0 := G.blk 0 rfl; try have h1 := G.blk 1 rfl; try have h2 := G.blk 2 rfl; try have h3 := G.blk 3 rfl; try have h4 := G.blk 4 rfl; try have h5 := G.blk 5 rfl
    (repeat refine Zlr ?_)
    refine k_loop (σ := Unit) (fun _ => [(1, .int .i64 (v : Int)), (3, .pointer (some ⟨b, 0, none⟩)), (6, .pointer (some ⟨b2, 0, none⟩)), (9, .int .i64 a)]) (fun _ w' => ∃ cs, cs.length = 8 ∧ Wb X w0 q w' q [(b2, cs, Tp), (b, qc X q, Tp)]) (fun _ => 0) () ⟨rfl, rfl, rfl, rfl, trivial⟩ ⟨_, rfl, G⟩ ?_
    rintro _ l w ⟨cs, hcs, G⟩
    have h0 := G.blk 0 rfl; try have h1 := G.blk 1 rfl; try have h2 := G.blk 2 rfl; try have h3 := G.blk 3 rfl; try have h4 := G.blk 4 rfl; try have h5 := G.blk 5 rfl
    (repeat refine Zlr ?_)
    refine s_call (us := []) (zs := []) (by kernel_rfl) rfl rfl (signF G.at_ v (by omega)) ?_
    rintro _ w ⟨rfl, k⟩
    have G := G.no k
    have h0 := G.blk 0 rfl; try have h1 := G.blk 1 rfl; try have h2 := G.blk 2 rfl; try have h3 := G.blk 3 rfl; try have h4 := G.blk 4 rfl; try have h5 := G.blk 5 rfl
    (repeat refine Zlr ?_)
    have es : signQ X v q = [] := if_neg fun h => hc h.1
    rw [es]
    refine c_f (congrArg Value.bool ez_sv) ?_
    (repeat refine Zlr ?_)
    refine s_stw (vs := qc X (q)) rfl rfl rfl rfl rfl h0 hcs (fun w s => ?_)
    have G := G.put 0 rfl s rfl
    have h0 := G.blk 0 rfl; try have h1 := G.blk 1 rfl; try have h2 := G.blk 2 rfl; try have h3 := G.blk 3 rfl; try have h4 := G.blk 4 rfl; try have h5 := G.blk 5 rfl
    (repeat refine Zlr ?_)
    exact ret_c2 rfl (rv_agw rfl h0 rfl rfl) (rv_t rfl) ⟨a, rfl, G.sg⟩
theorem blockE (hc : q.c ≠ 0) (d : Int) (h : Aq X w0 q) : Ret Try.prog 59 [qv X q, .int .i64 d] w0 fun v w' => v = .tuple #[qv X q, nilS] ∧ Sg X w0 q w' q := by
  refine ret_enter Try.func59 rfl Try.ntmps59 rfl ?_
  (repeat refine Zlr ?_)
  refine s_box (cs := qc X q) rfl rfl (fun b w n => ?_)
  have G := (Wb.start h).new n
  (repeat refine Zlr ?_)
  refine s_al rfl (fun b2 w n2 => ?_)
  have G := G.new n2
  have h0 := G.blk 0 rfl; try have h1 := G.blk 1 rfl; try have h2 := G.blk 2 rfl; try have h3 := G.blk 3 rfl; try have h4 := G.blk 4 rfl; try have h5 := G.blk 5 rfl
  (repeat refine Zlr ?_)
  refine s_call (us := []) (zs := []) (by kernel_rfl) rfl rfl (isW G.at_ wLcur (by decide) (by decide)) ?_
  rintro _ w ⟨rfl, k⟩
  have G := G.no k
  have h0 := G.blk 0 rfl; try have h1 := G.blk 1 rfl; try have h2 := G.blk 2 rfl; try have h3 := G.blk 3 rfl; try have h4 := G.blk 4 rfl; try have h5 := G.blk 5 rfl
  (repeat refine Zlr ?_)
  rw [isE hc]
  refine c_f rfl ?_
  (repeat refine Zlr ?_)
  refine s_call (us := []) (zs := []) (by kernel_rfl) rfl rfl (wantW G.at_ wLcur (by decide) (by decide)) ?_
  rintro _ w ⟨rfl, k⟩
  have G := G.no k
  have G := G.mv (Sg.want G.at_ (show wLcur ≠ [] by decide))
  have h0 := G.blk 0 rfl; try have h1 := G.blk 1 rfl; try have h2 := G.blk 2 rfl; try have h3 := G.blk 3 rfl; try have h4 := G.blk 4 rfl; try have h5 := G.blk 5 rfl
  (repeat refine Zlr ?_)
  rw [want_er hc] at G ⊢
  have h0 := G.blk 0 rfl; try have h1 := G.blk 1 rfl; try have h2 := G.blk 2 rfl; try have h3 := G.blk 3 rfl; try have h4 := G.blk 4 rfl; try have h5 := G.blk 5 rfl
  refine s_stw (vs := qc X (q)) rfl rfl rfl rfl rfl h1 rfl (fun w s => ?_)
  have G := G.put 1 rfl s rfl
  have h0 := G.blk 0 rfl; try have h1 := G.blk 1 rfl; try have h2 := G.blk 2 rfl; try have h3 := G.blk 3 rfl; try have h4 := G.blk 4 rfl; try have h5 := G.blk 5 rfl
  (repeat refine Zlr ?_)
  refine k_loop (σ := Unit) (fun _ => [(1, .int .i64 d), (2, .pointer (some ⟨b, 0, none⟩)), (4, .pointer (some ⟨b2, 0, none⟩)), (6, nilS)]) (fun _ w' => ∃ cs, cs.length = 8 ∧ Wb X w0 q w' q [(b2, cs, Tp), (b, qc X q, Tp)]) (fun _ => 0) () ⟨rfl, rfl, rfl, rfl, trivial⟩ ⟨_, rfl, G⟩ ?_
  rintro _ l w ⟨cs, hcs, G⟩
  have h0 := G.blk 0 rfl; try have h1 := G.blk 1 rfl; try have h2 := G.blk 2 rfl; try have h3 := G.blk 3 rfl; try have h4 := G.blk 4 rfl; try have h5 := G.blk 5 rfl
  (repeat refine Zlr ?_)
  refine s_set 19 false rfl (beq_eq_false_iff_ne.2 hc) ?_
  (repeat (first | refine Zlr ?_ | refine Zn ?_ | refine Zu ?_ | refine Zg ?_ | refine Zgl ?_))
  refine c_f rfl ?_
  (repeat refine Zlr ?_)
  refine s_call (us := []) (zs := []) (by kernel_rfl) rfl rfl (wantW G.at_ wRcur (by decide) (by decide)) ?_
  rintro _ w ⟨rfl, k⟩
  have G := G.no k
  have G := G.mv (Sg.want G.at_ (show wRcur ≠ [] by decide))
  have h0 := G.blk 0 rfl; try have h1 := G.blk 1 rfl; try have h2 := G.blk 2 rfl; try have h3 := G.blk 3 rfl; try have h4 := G.blk 4 rfl; try have h5 := G.blk 5 rfl
  (repeat refine Zlr ?_)
  rw [want_er hc] at G ⊢
  have h0 := G.blk 0 rfl; try have h1 := G.blk 1 rfl; try have h2 := G.blk 2 rfl; try have h3 := G.blk 3 rfl; try have h4 := G.blk 4 rfl; try have h5 := G.blk 5 rfl
  refine s_stw (vs := qc X (q)) rfl rfl rfl rfl rfl h0 hcs (fun w s => ?_)
  have G := G.put 0 rfl s rfl
  have h0 := G.blk 0 rfl; try have h1 := G.blk 1 rfl; try have h2 := G.blk 2 rfl; try have h3 := G.blk 3 rfl; try have h4 := G.blk 4 rfl; try have h5 := G.blk 5 rfl
  (repeat refine Zlr ?_)
  exact ret_c2 rfl (rv_agw rfl h0 rfl rfl) (rv_t rfl) ⟨rfl, G.sg⟩
theorem addE (hc : q.c ≠ 0) (fr : Int) (x : St) (la ma : Option Addr) (ln lc mn mc : Nat) (h : Aq X w0 q) :
    Ret Try.prog 90 [qv X q, .int .i64 fr, .agg (stC (x, .slice la ln lc, .slice ma mn mc)).toArray] w0 (RecS X w0 q (.er q.c q.p)) := by
  have := addF h fr x la ma ln lc mn mc (fun e => (hc e).elim)
  rwa [stt_e hc, bind_er] at this
theorem branchE (hc : q.c ≠ 0) (fr d : Int) (h : Aq X w0 q) (hd : 0 ≤ d ∧ d ≤ 65) : Ret Try.prog 88 [qv X q, .int .i64 fr, .int .i64 d] w0 (RecS X w0 q (.er q.c q.p)) := by
  refine ret_enter Try.func88 rfl Try.ntmps88 rfl ?_
  (repeat refine Zlr ?_)
  refine s_box (cs := qc X q) rfl rfl (fun b w n => ?_)
  have G := (Wb.start h).new n
  (repeat refine Zlr ?_)
  refine s_al rfl (fun b2 w n2 => ?_)
  have G := G.new n2
  have h0 := G.blk 0 rfl; try have h1 := G.blk 1 rfl; try have h2 := G.blk 2 rfl; try have h3 := G.blk 3 rfl; try have h4 := G.blk 4 rfl; try have h5 := G.blk 5 rfl
  (repeat refine Zlr ?_)
  refine s_call (us := []) (zs := []) (by kernel_rfl) rfl rfl (exprE hc d G.at_) ?_
  rintro _ w ⟨a, rfl, g⟩
  have G := G.call g
  have h0 := G.blk 0 rfl; try have h1 := G.blk 1 rfl; try have h2 := G.blk 2 rfl; try have h3 := G.blk 3 rfl; try have h4 := G.blk 4 rfl; try have h5 := G.blk 5 rfl
  (repeat refine Zlr ?_)
  refine s_al rfl (fun b' w n' => ?_)
  have G := G.new n'
  have h0 := G.blk 0 rfl; try have h1 := G.blk 1 rfl; try have h2 := G.blk 2 rfl; try have h3 := G.blk 3 rfl; try have h4 := G.blk 4 rfl; try have h5 := G.blk 5 rfl
  (repeat refine Zlr ?_)
  refine s_stw (vs := qc X (q)) rfl rfl rfl rfl rfl h0 rfl (fun w s => ?_)
  have G := G.put 0 rfl s rfl
  have h0 := G.blk 0 rfl; try have h1 := G.blk 1 rfl; try have h2 := G.blk 2 rfl; try have h3 := G.blk 3 rfl; try have h4 := G.blk 4 rfl; try have h5 := G.blk 5 rfl
  (repeat refine Zlr ?_)
  refine s_call (us := []) (zs := []) (by kernel_rfl) rfl rfl (blockE hc (d + 1) G.at_) ?_
  rintro _ w ⟨rfl, g⟩
  have G := G.call g
  have h0 := G.blk 0 rfl; try have h1 := G.blk 1 rfl; try have h2 := G.blk 2 rfl; try have h3 := G.blk 3 rfl; try have h4 := G.blk 4 rfl; try have h5 := G.blk 5 rfl
  (repeat refine Zlr ?_)
  refine s_al rfl (fun b' w n' => ?_)
  have G := G.new n'
  have h0 := G.blk 0 rfl; try have h1 := G.blk 1 rfl; try have h2 := G.blk 2 rfl; try have h3 := G.blk 3 rfl; try have h4 := G.blk 4 rfl; try have h5 := G.blk 5 rfl
  (repeat refine Zlr ?_)
  refine s_stw (vs := qc X (q)) rfl rfl rfl rfl rfl h0 rfl (fun w s => ?_)
  have G := G.put 0 rfl s rfl
  have h0 := G.blk 0 rfl; try have h1 := G.blk 1 rfl; try have h2 := G.blk 2 rfl; try have h3 := G.blk 3 rfl; try have h4 := G.blk 4 rfl; try have h5 := G.blk 5 rfl
  (repeat refine Zlr ?_)
  refine s_al rfl (fun b' w n' => ?_)
  have G := G.new n'
  have h0 := G.blk 0 rfl; try have h1 := G.blk 1 rfl; try have h2 := G.blk 2 rfl; try have h3 := G.blk 3 rfl; try have h4 := G.blk 4 rfl; try have h5 := G.blk 5 rfl
  (repeat refine Zlr ?_)
  refine s_stw (vs := stC ({ k := 5, a := a }, nilS, nilS)) rfl rfl rfl rfl rfl h0 rfl (fun w s => ?_)
  have G := G.put 0 rfl s rfl
  have h0 := G.blk 0 rfl; try have h1 := G.blk 1 rfl; try have h2 := G.blk 2 rfl; try have h3 := G.blk 3 rfl; try have h4 := G.blk 4 rfl; try have h5 := G.blk 5 rfl
  (repeat refine Zlr ?_)
  refine s_call (us := []) (zs := []) (by kernel_rfl) rfl rfl (isW G.at_ wElse (by decide) (by decide)) ?_
  rintro _ w ⟨rfl, k⟩
  have G := G.no k
  have h0 := G.blk 0 rfl; try have h1 := G.blk 1 rfl; try have h2 := G.blk 2 rfl; try have h3 := G.blk 3 rfl; try have h4 := G.blk 4 rfl; try have h5 := G.blk 5 rfl
  (repeat refine Zlr ?_)
  rw [isE hc]
  refine c_f rfl ?_
  (repeat refine Zlr ?_)
  refine s_call (us := []) (zs := []) (by kernel_rfl) rfl rfl (addE hc fr { k := 5, a := a } none none 0 0 0 0 G.at_) ?_
  rintro _ w ⟨q7, a7, rfl, g, r7⟩
  have G := G.call g
  have h0 := G.blk 0 rfl; try have h1 := G.blk 1 rfl; try have h2 := G.blk 2 rfl; try have h3 := G.blk 3 rfl; try have h4 := G.blk 4 rfl; try have h5 := G.blk 5 rfl
  (repeat refine Zlr ?_)
  refine s_stw (vs := qc X (q7)) rfl rfl rfl rfl rfl h3 rfl (fun w s => ?_)
  have G := G.put 3 rfl s rfl
  have h0 := G.blk 0 rfl; try have h1 := G.blk 1 rfl; try have h2 := G.blk 2 rfl; try have h3 := G.blk 3 rfl; try have h4 := G.blk 4 rfl; try have h5 := G.blk 5 rfl
  (repeat refine Zlr ?_)
  refine ret_c2 rfl (rv_agw rfl h3 rfl rfl) (rv_t rfl) ⟨q7, a7, rfl, G.sg, ?_⟩
  exact r7
set_option maxHeartbeats 1000000 in
theorem stmtE (hc : q.c ≠ 0) (d : Int) (h : Aq X w0 q) : Ret Try.prog 75 [qv X q, .int .i64 d] w0 (RecS X w0 q (.er q.c q.p)) := by
  refine ret_enter Try.func75 rfl Try.ntmps75 rfl ?_
  (repeat refine Zlr ?_)
  refine s_box (cs := qc X q) rfl rfl (fun b w n => ?_)
  have G := (Wb.start h).new n
  (repeat refine Zlr ?_)
  refine s_al rfl (fun b2 w n2 => ?_)
  have G := G.new n2
  have h0 := G.blk 0 rfl; try have h1 := G.blk 1 rfl; try have h2 := G.blk 2 rfl; try have h3 := G.blk 3 rfl; try have h4 := G.blk 4 rfl; try have h5 := G.blk 5 rfl
  (repeat refine Zlr ?_)
  refine s_call (us := []) (zs := []) (by kernel_rfl) rfl rfl (hereF G.at_) ?_
  rintro _ w ⟨rfl, k⟩
  have G := G.no k
  have h0 := G.blk 0 rfl; try have h1 := G.blk 1 rfl; try have h2 := G.blk 2 rfl; try have h3 := G.blk 3 rfl; try have h4 := G.blk 4 rfl; try have h5 := G.blk 5 rfl
  (repeat refine Zlr ?_)
  refine s_al rfl (fun b7 w n' => ?_)
  have G := G.new n'
  have h0 := G.blk 0 rfl; try have h1 := G.blk 1 rfl; try have h2 := G.blk 2 rfl; try have h3 := G.blk 3 rfl; try have h4 := G.blk 4 rfl; try have h5 := G.blk 5 rfl
  (repeat refine Zlr ?_)
  refine s_stw (vs := stC ({ k := 0 }, nilS, nilS)) rfl rfl rfl rfl rfl h0 rfl (fun w s => ?_)
  have G := G.put 0 rfl s rfl
  have h0 := G.blk 0 rfl; try have h1 := G.blk 1 rfl; try have h2 := G.blk 2 rfl; try have h3 := G.blk 3 rfl; try have h4 := G.blk 4 rfl; try have h5 := G.blk 5 rfl
  (repeat refine Zlr ?_)
  refine s_call (us := []) (zs := []) (by kernel_rfl) rfl rfl (isW G.at_ wIf (by decide) (by decide)) ?_
  rintro _ w ⟨rfl, k⟩
  have G := G.no k
  have h0 := G.blk 0 rfl; try have h1 := G.blk 1 rfl; try have h2 := G.blk 2 rfl; try have h3 := G.blk 3 rfl; try have h4 := G.blk 4 rfl; try have h5 := G.blk 5 rfl
  (repeat refine Zlr ?_)
  rw [isE hc]
  refine c_f rfl ?_
  (repeat refine Zlr ?_)
  refine s_call (us := []) (zs := []) (by kernel_rfl) rfl rfl (isW G.at_ wWhile (by decide) (by decide)) ?_
  rintro _ w ⟨rfl, k⟩
  have G := G.no k
  have h0 := G.blk 0 rfl; try have h1 := G.blk 1 rfl; try have h2 := G.blk 2 rfl; try have h3 := G.blk 3 rfl; try have h4 := G.blk 4 rfl; try have h5 := G.blk 5 rfl
  (repeat refine Zlr ?_)
  rw [isE hc]
  refine c_f rfl ?_
  (repeat refine Zlr ?_)
  refine s_call (us := []) (zs := []) (by kernel_rfl) rfl rfl (isW G.at_ wVar (by decide) (by decide)) ?_
  rintro _ w ⟨rfl, k⟩
  have G := G.no k
  have h0 := G.blk 0 rfl; try have h1 := G.blk 1 rfl; try have h2 := G.blk 2 rfl; try have h3 := G.blk 3 rfl; try have h4 := G.blk 4 rfl; try have h5 := G.blk 5 rfl
  (repeat refine Zlr ?_)
  rw [isE hc]
  refine c_f rfl ?_
  (repeat refine Zlr ?_)
  refine s_call (us := []) (zs := []) (by kernel_rfl) rfl rfl (isW G.at_ wBreak (by decide) (by decide)) ?_
  rintro _ w ⟨rfl, k⟩
  have G := G.no k
  have h0 := G.blk 0 rfl; try have h1 := G.blk 1 rfl; try have h2 := G.blk 2 rfl; try have h3 := G.blk 3 rfl; try have h4 := G.blk 4 rfl; try have h5 := G.blk 5 rfl
  (repeat refine Zlr ?_)
  rw [isE hc]
  refine c_f rfl ?_
  (repeat refine Zlr ?_)
  refine s_call (us := []) (zs := []) (by kernel_rfl) rfl rfl (isW G.at_ wCont (by decide) (by decide)) ?_
  rintro _ w ⟨rfl, k⟩
  have G := G.no k
  have h0 := G.blk 0 rfl; try have h1 := G.blk 1 rfl; try have h2 := G.blk 2 rfl; try have h3 := G.blk 3 rfl; try have h4 := G.blk 4 rfl; try have h5 := G.blk 5 rfl
  (repeat refine Zlr ?_)
  rw [isE hc]
  refine c_f rfl ?_
  (repeat refine Zlr ?_)
  refine s_call (us := []) (zs := []) (by kernel_rfl) rfl rfl (isW G.at_ wReturn (by decide) (by decide)) ?_
  rintro _ w ⟨rfl, k⟩
  have G := G.no k
  have h0 := G.blk 0 rfl; try have h1 := G.blk 1 rfl; try have h2 := G.blk 2 rfl; try have h3 := G.blk 3 rfl; try have h4 := G.blk 4 rfl; try have h5 := G.blk 5 rfl
  (repeat refine Zlr ?_)
  rw [isE hc]
  refine c_f rfl ?_
  (repeat refine Zlr ?_)
  refine s_call (us := []) (zs := []) (by kernel_rfl) rfl rfl (isW G.at_ wPrint (by decide) (by decide)) ?_
  rintro _ w ⟨rfl, k⟩
  have G := G.no k
  have h0 := G.blk 0 rfl; try have h1 := G.blk 1 rfl; try have h2 := G.blk 2 rfl; try have h3 := G.blk 3 rfl; try have h4 := G.blk 4 rfl; try have h5 := G.blk 5 rfl
  (repeat refine Zlr ?_)
  rw [isE hc]
  refine c_f rfl ?_
  (repeat refine Zlr ?_)
  refine s_call (us := []) (zs := []) (by kernel_rfl) rfl rfl (kindF G.at_ 1 (by decide)) ?_
  rintro _ w ⟨rfl, k⟩
  have G := G.no k
  have G := G.mv (Sg.kind G.at_ (show (1 : Int) ≠ 0 by decide))
  have h0 := G.blk 0 rfl; try have h1 := G.blk 1 rfl; try have h2 := G.blk 2 rfl; try have h3 := G.blk 3 rfl; try have h4 := G.blk 4 rfl; try have h5 := G.blk 5 rfl
  (repeat refine Zlr ?_)
  rw [(kind_er hc).1] at G ⊢
  rw [(kind_er hc).2]
  have h0 := G.blk 0 rfl; try have h1 := G.blk 1 rfl; try have h2 := G.blk 2 rfl; try have h3 := G.blk 3 rfl; try have h4 := G.blk 4 rfl; try have h5 := G.blk 5 rfl
  refine s_al rfl (fun b' w n' => ?_)
  have G := G.new n'
  have h0 := G.blk 0 rfl; try have h1 := G.blk 1 rfl; try have h2 := G.blk 2 rfl; try have h3 := G.blk 3 rfl; try have h4 := G.blk 4 rfl; try have h5 := G.blk 5 rfl
  (repeat refine Zlr ?_)
  refine s_stw (vs := qc X (q)) rfl rfl rfl rfl rfl h0 rfl (fun w s => ?_)
  have G := G.put 0 rfl s rfl
  have h0 := G.blk 0 rfl; try have h1 := G.blk 1 rfl; try have h2 := G.blk 2 rfl; try have h3 := G.blk 3 rfl; try have h4 := G.blk 4 rfl; try have h5 := G.blk 5 rfl
  (repeat refine Zlr ?_)
  refine s_stw (vs := qc X (q)) rfl rfl rfl rfl rfl h3 rfl (fun w s => ?_)
  have G := G.put 3 rfl s rfl
  have h0 := G.blk 0 rfl; try have h1 := G.blk 1 rfl; try have h2 := G.blk 2 rfl; try have h3 := G.blk 3 rfl; try have h4 := G.blk 4 rfl; try have h5 := G.blk 5 rfl
  (repeat refine Zlr ?_)
  refine s_call (us := []) (zs := []) (by kernel_rfl) rfl rfl (isW G.at_ wLpar (by decide) (by decide)) ?_
  rintro _ w ⟨rfl, k⟩
  have G := G.no k
  have h0 := G.blk 0 rfl; try have h1 := G.blk 1 rfl; try have h2 := G.blk 2 rfl; try have h3 := G.blk 3 rfl; try have h4 := G.blk 4 rfl; try have h5 := G.blk 5 rfl
  (repeat refine Zlr ?_)
  rw [isE hc]
  refine c_f rfl ?_
  (repeat refine Zlr ?_)
  refine s_call (us := []) (zs := []) (by kernel_rfl) rfl rfl (isW G.at_ wLbra (by decide) (by decide)) ?_
  rintro _ w ⟨rfl, k⟩
  have G := G.no k
  have h0 := G.blk 0 rfl; try have h1 := G.blk 1 rfl; try have h2 := G.blk 2 rfl; try have h3 := G.blk 3 rfl; try have h4 := G.blk 4 rfl; try have h5 := G.blk 5 rfl
  (repeat refine Zlr ?_)
  rw [isE hc]
  refine c_f rfl ?_
  (repeat refine Zlr ?_)
  refine s_call (us := []) (zs := []) (by kernel_rfl) rfl rfl (wantW G.at_ wEq (by decide) (by decide)) ?_
  rintro _ w ⟨rfl, k⟩
  have G := G.no k
  have G := G.mv (Sg.want G.at_ (show wEq ≠ [] by decide))
  have h0 := G.blk 0 rfl; try have h1 := G.blk 1 rfl; try have h2 := G.blk 2 rfl; try have h3 := G.blk 3 rfl; try have h4 := G.blk 4 rfl; try have h5 := G.blk 5 rfl
  (repeat refine Zlr ?_)
  rw [want_er hc] at G ⊢
  have h0 := G.blk 0 rfl; try have h1 := G.blk 1 rfl; try have h2 := G.blk 2 rfl; try have h3 := G.blk 3 rfl; try have h4 := G.blk 4 rfl; try have h5 := G.blk 5 rfl
  refine s_call (us := []) (zs := []) (by kernel_rfl) rfl rfl (exprE hc d G.at_) ?_
  rintro _ w ⟨a, rfl, g⟩
  have G := G.call g
  have h0 := G.blk 0 rfl; try have h1 := G.blk 1 rfl; try have h2 := G.blk 2 rfl; try have h3 := G.blk 3 rfl; try have h4 := G.blk 4 rfl; try have h5 := G.blk 5 rfl
  (repeat refine Zlr ?_)
  refine s_al rfl (fun b' w n' => ?_)
  have G := G.new n'
  have h0 := G.blk 0 rfl; try have h1 := G.blk 1 rfl; try have h2 := G.blk 2 rfl; try have h3 := G.blk 3 rfl; try have h4 := G.blk 4 rfl; try have h5 := G.blk 5 rfl
  (repeat refine Zlr ?_)
  refine s_stw (vs := qc X (q)) rfl rfl rfl rfl rfl h0 rfl (fun w s => ?_)
  have G := G.put 0 rfl s rfl
  have h0 := G.blk 0 rfl; try have h1 := G.blk 1 rfl; try have h2 := G.blk 2 rfl; try have h3 := G.blk 3 rfl; try have h4 := G.blk 4 rfl; try have h5 := G.blk 5 rfl
  (repeat refine Zlr ?_)
  refine s_stw (vs := qc X (q)) rfl rfl rfl rfl rfl h4 rfl (fun w s => ?_)
  have G := G.put 4 rfl s rfl
  have h0 := G.blk 0 rfl; try have h1 := G.blk 1 rfl; try have h2 := G.blk 2 rfl; try have h3 := G.blk 3 rfl; try have h4 := G.blk 4 rfl; try have h5 := G.blk 5 rfl
  (repeat refine Zlr ?_)
  refine s_stw (vs := stC ({ k := 3, nm := [], a := a }, nilS, nilS)) rfl rfl rfl rfl rfl h2 rfl (fun w s => ?_)
  have G := G.put 2 rfl s rfl
  have h0 := G.blk 0 rfl; try have h1 := G.blk 1 rfl; try have h2 := G.blk 2 rfl; try have h3 := G.blk 3 rfl; try have h4 := G.blk 4 rfl; try have h5 := G.blk 5 rfl
  (repeat refine Zlr ?_)
  have hb7 := G.bx 2 _ _ _ rfl
  have hb := G.bx 4 _ _ _ rfl
  have n72 : b7 ≠ b2 := fun e => by
    have := G.nd 2 3 b7 _ _ _ _ rfl (by rw [e]; rfl)
    omega
  have nb2 : b ≠ b2 := fun e => by
    have := G.nd 4 3 b _ _ _ _ rfl (by rw [e]; rfl)
    omega
  (repeat refine Zlr ?_)
  refine k_h (fun w' => Kp (fun i => Sx q i ∨ i = b2) w w') [(0, false), (2, false), (3, false), (1, true), (4, true), (5, false), (6, false), (7, true), (8, false)] 9 (by kernel_rfl) (waits_none) (by kernel_rfl) (by kernel_rfl) (by kernel_rfl) rfl (fun w4 k4 q4' => ?_)
  have k4' : Kp (fun i => Sx q i ∨ i = b2) w w4 := k4.mono fun _ _ h => h.elim
  have G := G.no k4
  refine h_v k4' (fun w' hw => r_ldw rfl (hw.get hb.2.1 (fun e => e.elim hb.2.2 nb2)) rfl rfl) ?_
  refine h_v k4' (fun w' hw => r_mv rfl) ?_
  refine h_v k4' (fun w' hw => r_ldw rfl (hw.get hb7.2.1 (fun e => e.elim hb7.2.2 n72)) rfl rfl) ?_
  refine h_call (us := []) (zs := []) (by kernel_rfl) rfl rfl (wantW G.at_ wSemi (by decide) (by decide)) ?_
  rintro _ w5 ⟨rfl, k5⟩
  have G := G.no k5
  have k5' : Kp (fun i => Sx q i ∨ i = b2) _ w5 := k4'.no k5
  refine ⟨fun _ => k5', ?_⟩
  rw [want_er hc]
  refine h_call (us := []) (zs := []) (by kernel_rfl) rfl rfl (addE hc (Sy.hr X.E q.s) { k := 3, nm := [], a := a } none none 0 0 0 0 G.at_) ?_
  rintro _ w6 ⟨q6, a6, rfl, g6, r6⟩
  have G := G.call g6
  have k6 : Kp (fun i => Sx q i ∨ i = b2) _ w6 := k5'.trans (g6.gs.kp.mono fun _ _ h => .inl h) fun _ _ h => h
  refine ⟨fun _ => k6, ?_⟩
  refine h_v k6 (fun w' hw => r_ex rfl) ?_
  refine h_v k6 (fun w' hw => r_ex rfl) ?_
  have g1 := G.blk 3 rfl
  refine h_st (vs := qc X q6) rfl rfl rfl rfl rfl g1 (Nat.le_of_ble_eq_true rfl) (fun w7 s7 => ⟨fun _ => k6.trans s7.kp fun _ _ h => .inr h, ?_⟩)
  have s7 : Sb _ b2 (qc X q6) _ w7 := s7
  have G := G.put 3 rfl s7 rfl
  have k7 : Kp (fun i => Sx q i ∨ i = b2) _ w7 := k6.trans s7.kp fun _ _ h => .inr h
  refine h_v k7 (fun w' hw => r_as rfl) ?_
  refine h_nil ?_
  have g1 := G.blk 3 rfl
  (repeat refine Zlr ?_)
  exact ret_c2 rfl (rv_agw rfl g1 rfl rfl) (rv_t rfl) ⟨q6, a6, rfl, G.sg, r6⟩
end
theorem Er.rec {X : Cr} {w : World} {q : Q} (hc : q.c ≠ 0) {g : PS → Rs Int} {v : Value} {w' : World} (h : Er X w q v w') : RecS X w q (On q g) v w' := by
  obtain ⟨a, rfl, g⟩ := h
  exact ⟨q, a, rfl, g, Res.of_er hc hc⟩
theorem wk_of {X : Cr} {L : Lv}
    (h1 : ∀ (v : Nat) (d : Int) (q : Q) (w : World), q.c = 0 → v ≤ 5 → 0 ≤ d ∧ d ≤ 64 → Aq X w q → On q (L.row v d) ≠ .out → Ret Try.prog 98 [qv X q, .int .i64 (v : Int), .int .i64 d] w (RecS X w q (On q (L.row v d))))
    (h2 : ∀ (d : Int) (q : Q) (w : World), q.c = 0 → 0 ≤ d ∧ d ≤ 65 → Aq X w q → On q (L.expr d) ≠ .out → Ret Try.prog 89 [qv X q, .int .i64 d] w (RecS X w q (On q (L.expr d))))
    (h3 : ∀ (d : Int) (q : Q) (w : World), q.c = 0 → 0 ≤ d ∧ d ≤ 64 → Aq X w q → On q (L.unary d) ≠ .out → Ret Try.prog 101 [qv X q, .int .i64 d] w (RecS X w q (On q (L.unary d))))
    (h4 : ∀ (d : Int) (q : Q) (w : World), q.c = 0 → 0 ≤ d ∧ d ≤ 64 → Aq X w q → On q (L.prim d) ≠ .out → Ret Try.prog 103 [qv X q, .int .i64 d] w (RecS X w q (On q (L.prim d))))
    (h5 : ∀ (d : Int) (q : Q) (w : World), q.c = 0 → 0 ≤ d ∧ d ≤ 64 → Aq X w q → On q (L.stmt d) ≠ .out → Ret Try.prog 75 [qv X q, .int .i64 d] w (RecS X w q (On q (L.stmt d))))
    (h6 : ∀ (fr d : Int) (q : Q) (w : World), q.c = 0 → 0 ≤ d ∧ d ≤ 65 → (q.c = 0 → d ≤ 64) → Aq X w q → On q (L.branch fr d) ≠ .out → Ret Try.prog 88 [qv X q, .int .i64 fr, .int .i64 d] w (RecS X w q (On q (L.branch fr d)))) : Wk X L := by
  refine ⟨fun v d q w hv hd h hr => ?_, fun d q w hd h hr => ?_, fun d q w hd h hr => ?_, fun d q w hd h hr => ?_, fun d q w hd h hr => ?_, fun fr d q w hd hd4 h hr => ?_⟩ <;> by_cases hc : q.c = 0
  · exact h1 v d q w hc hv hd h hr
  · exact (rowE hc d (5 - v) v w (by omega) h).mono fun _ _ k => Er.rec hc k
  · exact h2 d q w hc hd h hr
  · exact (exprE hc d h).mono fun _ _ k => Er.rec hc k
  · exact h3 d q w hc hd h hr
  · exact (unaryE hc d h).mono fun _ _ k => Er.rec hc k
  · exact h4 d q w hc hd h hr
  · exact (primE hc d h).mono fun _ _ k => Er.rec hc k
  · exact h5 d q w hc hd h hr
  · rw [On_e hc]; exact stmtE hc d h
  · exact h6 fr d q w hc hd hd4 h hr
  · rw [On_e hc]; exact branchE hc fr d h hd
theorem wk_lv {X : Cr} : ∀ n, ∀ m, m ≤ n → Wk X (lv X.E m) := by
  intro n
  induction n with
  | zero =>
    intro m hm
    rw [show m = 0 by omega]
    have no : ∀ {q : Q}, q.c = 0 → On q (fun _ => (.out : Rs Int)) ≠ .out → False := fun hc h => h (by rw [On_c hc])
    exact wk_of (fun v d q w hc _ _ _ h => (no hc h).elim) (fun d q w hc _ _ h => (no hc h).elim) (fun d q w hc _ _ h => (no hc h).elim) (fun d q w hc _ _ h => (no hc h).elim) (fun d q w hc _ _ h => (no hc h).elim) (fun fr d q w hc _ _ _ h => (no hc h).elim)
  | succ n ih =>
    intro m hm
    rcases Nat.lt_or_ge m (n + 1) with h1 | h1
    · exact ih m (by omega)
    · rw [show m = n + 1 by omega]
      have hL := ih n (Nat.le_refl _)
      have hB := bd_lv (E := X.E) n
      have hC := callF ih
      have hK := blockF ih
      exact wk_of (fun v d q w _ hv hd h hr => rowF ih v d hv hd h hr) (fun d q w _ hd h hr => exprF hL d hd h hr) (fun d q w _ hd h hr => unaryF hB hL d hd h hr) (fun d q w _ hd h hr => primF hB hL hC d hd h hr) (fun d q w _ hd h hr => stmtF hB hL hK hC d q w hd h hr) (fun fr d q w _ hd hd4 h hr => branchF hB hL hK fr d q w hd hd4 h hr)
end Go.Proofs.Ytkllhfajldnpoaa.Rf
namespace Go.Proofs.Ytkllhfajldnpoaa.Rf
open Go Go.RowKit Fw Sy
set_option linter.unusedVariables false
set_option maxRecDepth 20000
structure FctS where
  m : Nat
  l : List (List Int)
  a : Option Addr
  c : Nat
  q : Q
def prmsX (E : Env) (n : Nat) (l : List (List Int)) (s : PS) : Rs (List (List Int)) := if l = [] ∨ wd E s = wComma ∨ wd E s = wRpar then prms E n l s else Sy.er E 3 s
theorem prmsX_snoc {E : Env} {n : Nat} {l : List (List Int)} {a : List Int} {s : PS} : prmsX E n (l ++ [a]) s = if wd E s = wComma ∨ wd E s = wRpar then prms E n (l ++ [a]) s else Sy.er E 3 s := by
  simp [prmsX]
theorem snoc_sv {l : List (List Int)} {a : List Int} : l.map sv ++ [sv a] = (l ++ [a]).map sv := by simp
section
variable {X : Cr}
/-- What stands behind the parameters. -/
def tlF (E : Env) (N : Nat) (fr : Int) (nm : List Int) (ps : List (List Int)) (s4 : PS) : Rs Unit :=
  (if wd E s4 = wInt then Rs.ok (1 : Int) (adv s4) else .ok 4 s4).bind fun ty s5 => (block E (lv E N) 1 s5).bind fun bd s6 => .ok () { s6 with fn := s6.fn ++ [{ nm := nm, f := fr, e := pe E s6, ps := ps, ty := ty, bd := bd }] }
theorem fct_eq (E : Env) (N : Nat) (s : PS) : fct E N s = (if wd E s = wFunc ∧ 32 ≤ s.fn.length then Sy.er E 5 s else .ok () s).bind fun _ s0 => (Sy.want E wFunc s0).bind fun _ s1 => (knd E 1 s1).bind fun nm s2 => (Sy.want E wLpar s2).bind fun _ s3 => (prms E N [] s3).bind fun ps s4 => tlF E N (Sy.hr E s) nm ps s4 := rfl
set_option maxHeartbeats 8000000 in
theorem functionF (N : Nat) (q : Q) (w0 : World) (hc0 : q.c = 0) (h : Aq X w0 q) (hr : fct X.E N q.s ≠ .out) : Ret Try.prog 44 [qv X q] w0 fun v w' => ∃ q', v = qv X q' ∧ Sg X w0 q w' q' ∧ Res (fct X.E N q.s) q' () := by
  have hK : BlockD X (lv X.E N) := blockF (wk_lv N)
  refine ret_enter Try.func44 rfl Try.ntmps44 rfl ?_
  (repeat refine Zlr ?_)
  refine s_box (cs := qc X q) rfl rfl (fun b w n => ?_)
  have G := (Wb.start h).new n
  (repeat refine Zlr ?_)
  refine s_al rfl (fun b2 w n2 => ?_)
  have G := G.new n2
  have h0 := G.blk 0 rfl; try have h1 := G.blk 1 rfl; try have h2 := G.blk 2 rfl; try have h3 := G.blk 3 rfl; try have h4 := G.blk 4 rfl; try have h5 := G.blk 5 rfl
  (repeat refine Zlr ?_)
  refine s_call (us := []) (zs := []) (by kernel_rfl) rfl rfl (hereF G.at_) ?_
  rintro _ w ⟨rfl, k⟩
  have G := G.no k
  have h0 := G.blk 0 rfl; try have h1 := G.blk 1 rfl; try have h2 := G.blk 2 rfl; try have h3 := G.blk 3 rfl; try have h4 := G.blk 4 rfl; try have h5 := G.blk 5 rfl
  (repeat (first | refine k_nil ?_ | refine k_n ?_ | refine k_r ?_ | refine k_x ?_ | refine b_n ?_ | refine b_r ?_ | refine b_y rfl ?_ | refine b_z rfl ?_ | refine l_r ?_ | refine l_x ?_ | refine k_seq ?_ | refine k_blk ?_ | refine k_ret ?_ | refine k_exit ?_ | refine k_skip ?_ | refine Zs ?_ | refine Zl ?_))
  obtain ⟨_, _, hzn⟩ := (h.gd hc0).ny
  have hfl := (h.gd hc0).fl
  obtain ⟨fr, hfr⟩ : ∃ fr, Sy.hr X.E q.s = fr := ⟨_, rfl⟩
  rw [hfr]
  refine k_cutc (σ := Unit) (fun _ => [(1, .pointer (some ⟨b, 0, none⟩)), (2, .pointer (some ⟨b2, 0, none⟩)), (3, .int .i64 fr), (21, .bool (decide (wd X.E q.s = wFunc ∧ 32 ≤ q.s.fn.length)))])
    (fun _ w' => ∃ cs, cs.length = 8 ∧ Wb X w0 q w' q [(b2, cs, Tp), (b, qc X q, Tp)]) ?_ ?_
  · (repeat refine Zlr ?_)
    refine s_call (us := []) (zs := []) (by kernel_rfl) rfl rfl (isW G.at_ wFunc (by decide) (by decide)) ?_
    rintro _ w ⟨rfl, k⟩
    have G := G.no k
    have h0 := G.blk 0 rfl; try have h1 := G.blk 1 rfl; try have h2 := G.blk 2 rfl; try have h3 := G.blk 3 rfl; try have h4 := G.blk 4 rfl; try have h5 := G.blk 5 rfl
    (repeat refine Zlr ?_)
    cases hi : isQ X wFunc q with
    | true =>
      have hw := (is_yes hi).2
      (repeat (first | refine Zlr ?_ | refine Zn ?_ | refine Zu ?_ | refine Zg ?_ | refine Zgl ?_))
      refine l_cut () ⟨rfl, rfl, rfl, ?_, trivial⟩ ⟨_, rfl, G⟩
      show Value.bool (decide ((q.z.n : Int) ≥ 32)) = Value.bool _
      congr 1
      rw [hzn]
      simp [hw]
      omega
    | false =>
      (repeat (first | refine Zlr ?_ | refine Zn ?_ | refine Zu ?_ | refine Zg ?_ | refine Zgl ?_))
      refine l_cut () ⟨rfl, rfl, rfl, ?_, trivial⟩ ⟨_, rfl, G⟩
      show Value.bool false = Value.bool _
      congr 1
      have := is_no hi hc0
      simp [this]
  clear G h0 h1
  rintro _ lx w ⟨cs, hcs, G⟩
  have h0 := G.blk 0 rfl; try have h1 := G.blk 1 rfl; try have h2 := G.blk 2 rfl; try have h3 := G.blk 3 rfl; try have h4 := G.blk 4 rfl; try have h5 := G.blk 5 rfl
  (repeat (first | refine k_nil ?_ | refine k_n ?_ | refine k_r ?_ | refine k_x ?_ | refine b_n ?_ | refine b_r ?_ | refine b_y rfl ?_ | refine b_z rfl ?_ | refine l_r ?_ | refine l_x ?_ | refine k_seq ?_ | refine k_blk ?_ | refine k_ret ?_ | refine k_exit ?_ | refine k_skip ?_ | refine Zs ?_ | refine Zl ?_))
  rw [fct_eq, hfr] at hr ⊢
  refine k_cutc (σ := Q) (fun _ => [(1, .pointer (some ⟨b, 0, none⟩)), (2, .pointer (some ⟨b2, 0, none⟩)), (3, .int .i64 fr)])
    (fun q1 w' => Wb X w0 q w' q1 [(b2, cs, Tp), (b, qc X q1, Tp)] ∧ Res (if wd X.E q.s = wFunc ∧ 32 ≤ q.s.fn.length then Sy.er X.E 5 q.s else .ok () q.s) q1 () ∧ (q1.c = 0 → wd X.E q1.s = wFunc → q1.s.fn.length < 32)) ?_ ?_
  · by_cases hbad : wd X.E q.s = wFunc ∧ 32 ≤ q.s.fn.length
    · refine c_t (congrArg Value.bool (decide_eq_true hbad)) ?_
      (repeat refine Zlr ?_)
      refine s_call (us := []) (zs := []) (by kernel_rfl) rfl rfl (failF 5 G.at_) ?_
      rintro _ w ⟨rfl, k⟩
      have G := G.no k
      have G := G.mv (Sg.fail G.at_ (show (5 : Int) ≠ 0 by decide))
      have h0 := G.blk 0 rfl; try have h1 := G.blk 1 rfl; try have h2 := G.blk 2 rfl; try have h3 := G.blk 3 rfl; try have h4 := G.blk 4 rfl; try have h5 := G.blk 5 rfl
      (repeat refine Zlr ?_)
      refine s_stw (vs := qc X (failQ X 5 q)) rfl rfl rfl rfl rfl h1 rfl (fun w s => ?_)
      have G := G.put 1 rfl s rfl
      have h0 := G.blk 0 rfl; try have h1 := G.blk 1 rfl; try have h2 := G.blk 2 rfl; try have h3 := G.blk 3 rfl; try have h4 := G.blk 4 rfl; try have h5 := G.blk 5 rfl
      (repeat refine Zlr ?_)
      refine l_cut (failQ X 5 q) ⟨rfl, rfl, rfl, trivial⟩ ⟨G, ?_, fun h => (failQ_c (by decide) h).elim⟩
      rw [if_pos hbad]; exact failQ_c (by decide)
    · refine c_f (congrArg Value.bool (decide_eq_false hbad)) ?_
      (repeat refine Zlr ?_)
      refine l_cut q ⟨rfl, rfl, rfl, trivial⟩ ⟨G, ?_, fun _ hw => ?_⟩
      · rw [if_neg hbad]; exact ⟨hc0, rfl, rfl⟩
      · rcases Nat.lt_or_ge q.s.fn.length 32 with h | h
        · exact h
        · exact (hbad ⟨hw, h⟩).elim
  clear G h0 h1
  rintro q1 lx w ⟨G, r1, f1⟩
  have h0 := G.blk 0 rfl; try have h1 := G.blk 1 rfl; try have h2 := G.blk 2 rfl; try have h3 := G.blk 3 rfl; try have h4 := G.blk 4 rfl; try have h5 := G.blk 5 rfl
  (repeat refine Zlr ?_)
  refine s_call (us := []) (zs := []) (by kernel_rfl) rfl rfl (wantW G.at_ wFunc (by decide) (by decide)) ?_
  rintro _ w ⟨rfl, k⟩
  have G := G.no k
  have G := G.mv (Sg.want G.at_ (show wFunc ≠ [] by decide))
  have h0 := G.blk 0 rfl; try have h1 := G.blk 1 rfl; try have h2 := G.blk 2 rfl; try have h3 := G.blk 3 rfl; try have h4 := G.blk 4 rfl; try have h5 := G.blk 5 rfl
  (repeat refine Zlr ?_)
  have r2 : q1.c = 0 → Res (Sy.want X.E wFunc q1.s) (wantQ X wFunc q1) () := fun h => want_res wFunc h
  have e2 : q1.c ≠ 0 → (wantQ X wFunc q1).c ≠ 0 := fun h => by rw [want_er h]; exact h
  have f2 : (wantQ X wFunc q1).c = 0 → (wantQ X wFunc q1).s.fn.length < 32 := fun h => by
    obtain ⟨h1, h2, h3⟩ := want_c h
    rw [h3]; exact f1 h1 h2
  have b2' : (wantQ X wFunc q1).c = 0 → q1.c = 0 := fun h => (want_c h).1
  generalize wantQ X wFunc q1 = q2 at *
  refine s_call (us := []) (zs := []) (by kernel_rfl) rfl rfl (kindF G.at_ 1 (by decide)) ?_
  rintro _ w ⟨rfl, k⟩
  have G := G.no k
  have G := G.mv (Sg.kind G.at_ (show (1 : Int) ≠ 0 by decide))
  have h0 := G.blk 0 rfl; try have h1 := G.blk 1 rfl; try have h2 := G.blk 2 rfl; try have h3 := G.blk 3 rfl; try have h4 := G.blk 4 rfl; try have h5 := G.blk 5 rfl
  (repeat refine Zlr ?_)
  have r3 : q2.c = 0 → Res (knd X.E 1 q2.s) (kindQ X 1 q2) (kindW X 1 q2) := fun h => kind_res 1 h
  have e3 : q2.c ≠ 0 → (kindQ X 1 q2).c ≠ 0 := fun h => by rw [(kind_er h).1]; exact h
  have f3 : (kindQ X 1 q2).c = 0 → (kindQ X 1 q2).s.fn.length < 32 := fun h => by
    obtain ⟨h1, h2, h3, _⟩ := kind_c h
    rw [h3]; exact f2 h1
  have b3' : (kindQ X 1 q2).c = 0 → q2.c = 0 := fun h => (kind_c h).1
  generalize kindQ X 1 q2 = q3 at *
  generalize kindW X 1 q2 = nm at *
  refine s_al rfl (fun b' w n' => ?_)
  have G := G.new n'
  have h0 := G.blk 0 rfl; try have h1 := G.blk 1 rfl; try have h2 := G.blk 2 rfl; try have h3 := G.blk 3 rfl; try have h4 := G.blk 4 rfl; try have h5 := G.blk 5 rfl
  (repeat refine Zlr ?_)
  refine s_stw (vs := qc X (q3)) rfl rfl rfl rfl rfl h0 rfl (fun w s => ?_)
  have G := G.put 0 rfl s rfl
  have h0 := G.blk 0 rfl; try have h1 := G.blk 1 rfl; try have h2 := G.blk 2 rfl; try have h3 := G.blk 3 rfl; try have h4 := G.blk 4 rfl; try have h5 := G.blk 5 rfl
  (repeat refine Zlr ?_)
  refine s_call (us := []) (zs := []) (by kernel_rfl) rfl rfl (wantW G.at_ wLpar (by decide) (by decide)) ?_
  rintro _ w ⟨rfl, k⟩
  have G := G.no k
  have G := G.mv (Sg.want G.at_ (show wLpar ≠ [] by decide))
  have h0 := G.blk 0 rfl; try have h1 := G.blk 1 rfl; try have h2 := G.blk 2 rfl; try have h3 := G.blk 3 rfl; try have h4 := G.blk 4 rfl; try have h5 := G.blk 5 rfl
  (repeat refine Zlr ?_)
  refine s_stw (vs := qc X (wantQ X wLpar q3)) rfl rfl rfl rfl rfl h2 rfl (fun w s => ?_)
  have G := G.put 2 rfl s rfl
  have h0 := G.blk 0 rfl; try have h1 := G.blk 1 rfl; try have h2 := G.blk 2 rfl; try have h3 := G.blk 3 rfl; try have h4 := G.blk 4 rfl; try have h5 := G.blk 5 rfl
  (repeat refine Zlr ?_)
  have r4 : q3.c = 0 → Res (Sy.want X.E wLpar q3.s) (wantQ X wLpar q3) () := fun h => want_res wLpar h
  have e4 : q3.c ≠ 0 → (wantQ X wLpar q3).c ≠ 0 := fun h => by rw [want_er h]; exact h
  have f4 : (wantQ X wLpar q3).c = 0 → (wantQ X wLpar q3).s.fn.length < 32 := fun h => by
    obtain ⟨h1, h2, h3⟩ := want_c h
    rw [h3]; exact f3 h1
  have b4' : (wantQ X wLpar q3).c = 0 → q3.c = 0 := fun h => (want_c h).1
  generalize wantQ X wLpar q3 = q4 at *
  refine s_al rfl (fun b6 w n' => ?_)
  have G := G.new n'
  have h0 := G.blk 0 rfl; try have h1 := G.blk 1 rfl; try have h2 := G.blk 2 rfl; try have h3 := G.blk 3 rfl; try have h4 := G.blk 4 rfl; try have h5 := G.blk 5 rfl
  (repeat refine Zlr ?_)
  refine s_stw (vs := fnC ({ nm := nm, ty := 4, ps := [] }, nilS, nilS)) rfl rfl rfl rfl rfl h0 rfl (fun w s => ?_)
  have G := G.put 0 rfl s rfl
  have h0 := G.blk 0 rfl; try have h1 := G.blk 1 rfl; try have h2 := G.blk 2 rfl; try have h3 := G.blk 3 rfl; try have h4 := G.blk 4 rfl; try have h5 := G.blk 5 rfl
  (repeat refine Zlr ?_)
  obtain ⟨R, hR⟩ : ∃ R, (if wd X.E q.s = wFunc ∧ 32 ≤ q.s.fn.length then Sy.er X.E 5 q.s else .ok () q.s).bind (fun _ s0 => (Sy.want X.E wFunc s0).bind fun _ s1 => (knd X.E 1 s1).bind fun nm s2 => (Sy.want X.E wLpar s2).bind fun _ s3 => (prms X.E N [] s3).bind fun ps s4 => tlF X.E N fr nm ps s4) = R := ⟨_, rfl⟩
  have hI : ∀ q', Res (On q4 fun s => (prmsX X.E N [] s).bind fun ps s4 => tlF X.E N fr nm ps s4) q' () → Res R q' () := fun q' r => by
    rw [← hR]
    refine r1.bind (fun h1 => (r2 h1).bind (fun h2 => (r3 h2).bind (fun h3 => (r4 h3).bind (fun h4 => ?_) fun h => r.on_er h) fun h => r.on_er (e4 h)) fun h => r.on_er (e4 (e3 h))) fun h => r.on_er (e4 (e3 (e2 h)))
    have := r.on h4
    rw [prmsX, if_pos (.inl rfl)] at this
    exact this
  have hN : On q4 (fun s => (prmsX X.E N [] s).bind fun ps s4 => tlF X.E N fr nm ps s4) ≠ .out := On_ne fun h4 => by
    have h3 := b4' h4
    have h2 := b3' h3
    have h1 := b2' h2
    rw [prmsX, if_pos (.inl rfl)]
    exact (r4 h3).next ((r3 h2).next ((r2 h1).next (r1.next hr h1) h2) h3) h4
  rw [hR]
  clear hr hR r1 r2 r3 r4 e2 e3 e4 f1 f2 f3 b2' b3' b4'
  have G := G.drop 0
  refine k_loop (σ := FctS) (fun x => [(1, .pointer (some ⟨b, 0, none⟩)), (2, .pointer (some ⟨b2, 0, none⟩)), (3, .int .i64 fr), (6, .pointer (some ⟨b6, 0, none⟩))])
    (fun x w' => x.m ≤ N ∧ Wb X w0 q w' x.q [(b6, fnC ({ nm := nm, ty := 4, ps := x.l }, .slice x.a x.l.length x.c, nilS), 46), (b', qc X q3, Tp), (b2, cs, Tp), (b, qc X x.q, Tp)] ∧ Ls w0 w' x.q 9 (.slice x.a x.l.length x.c) x.l.length (x.l.map sv) ∧ ((x.l.length ≤ 20001 ∧ (x.q.c = 0 → x.l.length ≤ x.q.s.i)) ∧ (x.q.c = 0 → x.q.s.fn.length < 32)) ∧
      (∀ q', Res (On x.q fun s => (prmsX X.E x.m x.l s).bind fun ps s4 => tlF X.E N fr nm ps s4) q' () → Res R q' ()) ∧ On x.q (fun s => (prmsX X.E x.m x.l s).bind fun ps s4 => tlF X.E N fr nm ps s4) ≠ .out) (fun x => if x.q.c = 0 then x.m + 1 else 0) ⟨N, [], none, 0, q4⟩ ⟨rfl, rfl, rfl, rfl, trivial⟩ ⟨Nat.le_refl _, G, Ls.nil, ⟨⟨Nat.zero_le _, fun _ => Nat.zero_le _⟩, f4⟩, hI, hN⟩ ?_
  clear hI hN G h0 h1 h2 h3 f4
  rintro ⟨m, l, la, lc, q5⟩ lx w ⟨hm, G, LL, ⟨⟨hl0, hl1⟩, f5⟩, hI, hN⟩
  simp only at hm G LL hl0 hl1 f5 hI hN
  have h0 := G.blk 0 rfl; try have h1 := G.blk 1 rfl; try have h2 := G.blk 2 rfl; try have h3 := G.blk 3 rfl; try have h4 := G.blk 4 rfl; try have h5 := G.blk 5 rfl
  (repeat (first | refine k_nil ?_ | refine k_n ?_ | refine k_r ?_ | refine k_x ?_ | refine b_n ?_ | refine b_r ?_ | refine b_y rfl ?_ | refine b_z rfl ?_ | refine l_r ?_ | refine l_x ?_ | refine k_seq ?_ | refine k_blk ?_ | refine k_ret ?_ | refine k_exit ?_ | refine k_skip ?_ | refine Zs ?_ | refine Zl ?_))
  refine k_cutc (σ := Unit) (fun _ => [(1, .pointer (some ⟨b, 0, none⟩)), (2, .pointer (some ⟨b2, 0, none⟩)), (3, .int .i64 fr), (6, .pointer (some ⟨b6, 0, none⟩)), (41, .bool (decide (q5.c = 0 ∧ wd X.E q5.s ≠ wRpar)))])
    (fun _ w' => Wb X w0 q w' q5 [(b6, fnC ({ nm := nm, ty := 4, ps := l }, .slice la l.length lc, nilS), 46), (b', qc X q3, Tp), (b2, cs, Tp), (b, qc X q5, Tp)] ∧ Ls w0 w' q5 9 (.slice la l.length lc) l.length (l.map sv)) ?_ ?_
  · (repeat refine Zlr ?_)
    by_cases hc : q5.c = 0
    · refine s_set 37 true rfl (beq_iff_eq.2 hc) ?_
      (repeat (first | refine Zlr ?_ | refine Zn ?_ | refine Zu ?_ | refine Zg ?_ | refine Zgl ?_))
      refine s_gcall (us := []) (zs := []) rfl (by kernel_rfl) rfl rfl (isW G.at_ wRpar (by decide) (by decide)) ?_
      rintro _ w ⟨rfl, k⟩
      have G := G.no k
      have LL := LL.no k
      have h0 := G.blk 0 rfl; try have h1 := G.blk 1 rfl; try have h2 := G.blk 2 rfl; try have h3 := G.blk 3 rfl; try have h4 := G.blk 4 rfl; try have h5 := G.blk 5 rfl
      (repeat (first | refine Zlr ?_ | refine Zn ?_ | refine Zu ?_ | refine Zg ?_ | refine Zgl ?_))
      refine l_cut () ⟨rfl, rfl, rfl, rfl, ?_, trivial⟩ ⟨G, LL⟩
      show Value.bool (!isQ X wRpar q5) = _
      congr 1
      rw [isQ]
      simp [hc]
    · refine s_set 37 false rfl (beq_eq_false_iff_ne.2 hc) ?_
      (repeat (first | refine Zlr ?_ | refine Zn ?_ | refine Zu ?_ | refine Zg ?_ | refine Zgl ?_))
      refine l_cut () ⟨rfl, rfl, rfl, rfl, ?_, trivial⟩ ⟨G, LL⟩
      show Value.bool false = Value.bool _
      congr 1
      simp [hc]
  clear G LL h0 h1 h2 h3
  rintro _ lx w ⟨G, LL⟩
  have h0 := G.blk 0 rfl; try have h1 := G.blk 1 rfl; try have h2 := G.blk 2 rfl; try have h3 := G.blk 3 rfl; try have h4 := G.blk 4 rfl; try have h5 := G.blk 5 rfl
  (repeat refine Zlr ?_)
  by_cases hgo : q5.c = 0 ∧ wd X.E q5.s ≠ wRpar
  · obtain ⟨hc, nw⟩ := hgo
    refine c_t (congrArg Value.bool (decide_eq_true ⟨hc, nw⟩)) ?_
    have hl1 := hl1 hc
    have f5 := f5 hc
    have hsm := G.at_.small
    have eA : ∀ m l s, prms X.E (m + 1) l s = if wd X.E s = wRpar then .ok l (adv s) else (if l = [] then .ok () s else Sy.want X.E wComma s).bind fun _ s1 => (knd X.E 1 s1).bind fun w s2 => if wd X.E s2 = wComma ∨ wd X.E s2 = wRpar then prms X.E m (l ++ [w]) s2 else Sy.er X.E 3 s2 := fun _ _ _ => rfl
    have MM : (l = [] ∨ wd X.E q5.s = wComma) → m = (m - 1) + 1 := fun A => by
      cases m with
      | zero =>
        refine (hN ?_).elim
        rw [On_c hc, prmsX, if_pos (A.imp id .inl)]; rfl
      | succ m => rfl
    have E1 : (l = [] ∨ wd X.E q5.s = wComma) → prmsX X.E m l q5.s = (if l = [] then .ok () q5.s else Sy.want X.E wComma q5.s).bind fun _ s1 => (knd X.E 1 s1).bind fun w s2 => if wd X.E s2 = wComma ∨ wd X.E s2 = wRpar then prms X.E (m - 1) (l ++ [w]) s2 else Sy.er X.E 3 s2 := fun A => by
      rw [prmsX, if_pos (A.imp id .inl)]
      rw [MM A, eA, if_neg nw]; rfl
    (repeat refine Zlr ?_)
    by_cases hl : l = []
    · refine c_f (by show Value.bool (decide ((l.length : Int) > 0)) = _; rw [hl]; rfl) ?_
      (repeat refine Zlr ?_)
      obtain ⟨q6, hq6⟩ : ∃ q6, q5 = q6 := ⟨_, rfl⟩
      have F1 : q6.c = 0 → l = [] ∨ wd X.E q5.s = wComma := fun _ => .inl hl
      have F2 : Res (if l = [] then .ok () q5.s else Sy.want X.E wComma q5.s) q6 () := by rw [if_pos hl, ← hq6]; exact ⟨hc, rfl, rfl⟩
      have I6 : q6.c = 0 → l.length ≤ q6.s.i := fun _ => by rw [← hq6]; exact hl1
      have f6 : q6.c = 0 → q6.s.fn.length < 32 := fun _ => by rw [← hq6]; exact f5
      rw [hq6] at G LL h3
      rw [show qc X q5 = qc X q6 by rw [hq6]]
      refine s_call (us := []) (zs := []) (by kernel_rfl) rfl rfl (kindF G.at_ 1 (by decide)) ?_
      rintro _ w ⟨rfl, k⟩
      have G := G.no k
      have LL := LL.no k
      have LL := LL.gs G.at_ (Sg.kind G.at_ (show (1 : Int) ≠ 0 by decide)).gs rfl
      have G := G.mv (Sg.kind G.at_ (show (1 : Int) ≠ 0 by decide))
      have h0 := G.blk 0 rfl; try have h1 := G.blk 1 rfl; try have h2 := G.blk 2 rfl; try have h3 := G.blk 3 rfl; try have h4 := G.blk 4 rfl; try have h5 := G.blk 5 rfl
      (repeat refine Zlr ?_)
      have r6 : q6.c = 0 → Res (knd X.E 1 q6.s) (kindQ X 1 q6) (kindW X 1 q6) := fun h => kind_res 1 h
      have e6 : q6.c ≠ 0 → (kindQ X 1 q6).c ≠ 0 := fun h => by rw [(kind_er h).1]; exact h
      have b6' : (kindQ X 1 q6).c = 0 → q6.c = 0 ∧ (kindQ X 1 q6).s.i = q6.s.i + 1 ∧ (kindQ X 1 q6).s.fn = q6.s.fn := fun h => by
        obtain ⟨h1, h2, h3, _⟩ := kind_c h
        rw [h3]; exact ⟨h1, rfl, rfl⟩
      generalize kindQ X 1 q6 = q7 at *
      generalize kindW X 1 q6 = pw at *
      refine s_al rfl (fun b9 w n' => ?_)
      have G := G.new n'
      have LL := LL.no n'.kp
      have h0 := G.blk 0 rfl; try have h1 := G.blk 1 rfl; try have h2 := G.blk 2 rfl; try have h3 := G.blk 3 rfl; try have h4 := G.blk 4 rfl; try have h5 := G.blk 5 rfl
      (repeat refine Zlr ?_)
      refine s_stw (vs := qc X (q7)) rfl rfl rfl rfl rfl h0 rfl (fun w s => ?_)
      have LL := LL.box s h0 rfl
      have G := G.put 0 rfl s rfl
      have h0 := G.blk 0 rfl; try have h1 := G.blk 1 rfl; try have h2 := G.blk 2 rfl; try have h3 := G.blk 3 rfl; try have h4 := G.blk 4 rfl; try have h5 := G.blk 5 rfl
      (repeat refine Zlr ?_)
      refine s_stw (vs := qc X (q7)) rfl rfl rfl rfl rfl h4 rfl (fun w s => ?_)
      have LL := LL.box s h4 rfl
      have G := G.put 4 rfl s rfl
      have h0 := G.blk 0 rfl; try have h1 := G.blk 1 rfl; try have h2 := G.blk 2 rfl; try have h3 := G.blk 3 rfl; try have h4 := G.blk 4 rfl; try have h5 := G.blk 5 rfl
      (repeat refine Zlr ?_)
      refine s_bs (cs := [sv pw]) (e := 9) rfl (fun b4 w n4 => ?_)
      have LL := LL.no n4.kp
      have G := G.no n4.kp
      have h0 := G.blk 0 rfl; try have h1 := G.blk 1 rfl; try have h2 := G.blk 2 rfl; try have h3 := G.blk 3 rfl; try have h4 := G.blk 4 rfl; try have h5 := G.blk 5 rfl
      have h4 := n4.blk
      (repeat refine Zlr ?_)
      refine s_app (v0 := .slice la l.length lc) (k := l.length) (m := 1) (size := 1) (bytes := 16) (base := 0) (xs := l.map sv) (news := [sv pw]) rfl rfl rfl rfl rfl rfl rfl rfl LL.own rfl (blk_cells h4) rfl rfl (by omega) (by omega) (Nat.zero_le _) ?_
      intro v w ap
      obtain ⟨a9, c9, e9, _⟩ := own_read ap.own
      subst e9
      rw [snoc_sv] at ap
      obtain ⟨G, LL⟩ := (G.drop 1).lst h LL ap rfl (fun i b cs T hi => by
        match i, hi with
        | 0, hi => cases hi; rfl
        | 1, hi => cases hi; rfl
        | 2, hi => cases hi; rfl
        | 3, hi => cases hi; rfl
        | i + 4, hi => exact absurd hi (by simp))
      have h0 := G.blk 0 rfl; try have h1 := G.blk 1 rfl; try have h2 := G.blk 2 rfl; try have h3 := G.blk 3 rfl; try have h4 := G.blk 4 rfl; try have h5 := G.blk 5 rfl
      (repeat refine Zlr ?_)
      refine s_st (vs := [.slice a9 (l.length + 1) c9]) rfl rfl rfl rfl rfl h0 (Nat.le_of_ble_eq_true rfl) (fun w s => ?_)
      have s : Sb _ b6 (fnC ({ nm := nm, ty := 4, ps := l ++ [pw] }, .slice a9 (l.length + 1) c9, nilS)) _ w := s
      have LL := LL.box s h0 rfl
      have G := G.put 0 rfl s rfl
      (repeat refine Zlr ?_)
      have hll : (l ++ [pw]).length = l.length + 1 := by simp
      refine l_next ⟨m - 1, l ++ [pw], a9, c9, q7⟩ ⟨rfl, rfl, rfl, rfl, trivial⟩ ⟨by simp only; omega, by simp only [hll]; exact G, by simp only [hll]; exact LL, ⟨⟨by simp only [hll]; omega, fun h7 => by
        obtain ⟨i1, i2, _⟩ := b6' h7
        have := I6 i1
        simp only [hll]
        omega⟩, fun h7 => by
        obtain ⟨i1, _, i3⟩ := b6' h7
        show q7.s.fn.length < 32
        rw [i3]; exact f6 i1⟩, fun q' r => hI _ (Res.of_c hc ?_), On_ne fun h7 => ?_⟩ ?_
      · by_cases A : l = [] ∨ wd X.E q5.s = wComma
        · rw [E1 A, bind_assoc]
          refine F2.bind (fun h6 => ?_) fun h => r.on_er (e6 h)
          rw [bind_assoc]
          refine (r6 h6).bind (fun h7 => ?_) fun h => r.on_er h
          have := r.on h7
          rw [prmsX_snoc] at this
          exact this
        · rw [prmsX, if_neg (fun h => h.elim (fun h => A (.inl h)) fun h => h.elim (fun h => A (.inr h)) nw)]
          exact r.on_er (e6 fun h => A (F1 h))
      · obtain ⟨h6, _⟩ := b6' h7
        have A := F1 h6
        rw [On_c hc, E1 A, bind_assoc] at hN
        have hN2 := F2.next hN h6
        rw [bind_assoc] at hN2
        have := (r6 h6).next hN2 h7
        show (prmsX _ _ _ _).bind _ ≠ _
        rw [prmsX_snoc]; exact this
      · simp only [if_pos hc]
        split
        · rename_i h7
          have := MM (F1 (b6' h7).1)
          omega
        · omega
    · have hlp : 0 < l.length := List.length_pos_iff.2 hl
      refine c_t (by show Value.bool (decide ((l.length : Int) > 0)) = _; rw [decide_eq_true (by omega)]) ?_
      (repeat refine Zlr ?_)
      refine s_call (us := []) (zs := []) (by kernel_rfl) rfl rfl (wantW G.at_ wComma (by decide) (by decide)) ?_
      rintro _ w ⟨rfl, k⟩
      have G := G.no k
      have LL := LL.no k
      have LL := LL.gs G.at_ (Sg.want G.at_ (show wComma ≠ [] by decide)).gs rfl
      have G := G.mv (Sg.want G.at_ (show wComma ≠ [] by decide))
      have h0 := G.blk 0 rfl; try have h1 := G.blk 1 rfl; try have h2 := G.blk 2 rfl; try have h3 := G.blk 3 rfl; try have h4 := G.blk 4 rfl; try have h5 := G.blk 5 rfl
      (repeat refine Zlr ?_)
      refine s_stw (vs := qc X (wantQ X wComma q5)) rfl rfl rfl rfl rfl h3 rfl (fun w s => ?_)
      have LL := LL.box s h3 rfl
      have G := G.put 3 rfl s rfl
      have h0 := G.blk 0 rfl; try have h1 := G.blk 1 rfl; try have h2 := G.blk 2 rfl; try have h3 := G.blk 3 rfl; try have h4 := G.blk 4 rfl; try have h5 := G.blk 5 rfl
      (repeat refine Zlr ?_)
      obtain ⟨q6, hq6⟩ : ∃ q6, wantQ X wComma q5 = q6 := ⟨_, rfl⟩
      have F1 : q6.c = 0 → l = [] ∨ wd X.E q5.s = wComma := fun h => by rw [← hq6] at h; exact .inr (want_c h).2.1
      have F2 : Res (if l = [] then .ok () q5.s else Sy.want X.E wComma q5.s) q6 () := by rw [if_neg hl, ← hq6]; exact want_res wComma hc
      have I6 : q6.c = 0 → l.length ≤ q6.s.i := fun h => by
        rw [← hq6] at h ⊢
        rw [(want_c h).2.2]
        exact Nat.le_succ_of_le hl1
      have f6 : q6.c = 0 → q6.s.fn.length < 32 := fun h => by
        rw [← hq6] at h ⊢
        rw [(want_c h).2.2]; exact f5
      rw [hq6] at G LL h3 ⊢
      refine s_call (us := []) (zs := []) (by kernel_rfl) rfl rfl (kindF G.at_ 1 (by decide)) ?_
      rintro _ w ⟨rfl, k⟩
      have G := G.no k
      have LL := LL.no k
      have LL := LL.gs G.at_ (Sg.kind G.at_ (show (1 : Int) ≠ 0 by decide)).gs rfl
      have G := G.mv (Sg.kind G.at_ (show (1 : Int) ≠ 0 by decide))
      have h0 := G.blk 0 rfl; try have h1 := G.blk 1 rfl; try have h2 := G.blk 2 rfl; try have h3 := G.blk 3 rfl; try have h4 := G.blk 4 rfl; try have h5 := G.blk 5 rfl
      (repeat refine Zlr ?_)
      have r6 : q6.c = 0 → Res (knd X.E 1 q6.s) (kindQ X 1 q6) (kindW X 1 q6) := fun h => kind_res 1 h
      have e6 : q6.c ≠ 0 → (kindQ X 1 q6).c ≠ 0 := fun h => by rw [(kind_er h).1]; exact h
      have b6' : (kindQ X 1 q6).c = 0 → q6.c = 0 ∧ (kindQ X 1 q6).s.i = q6.s.i + 1 ∧ (kindQ X 1 q6).s.fn = q6.s.fn := fun h => by
        obtain ⟨h1, h2, h3, _⟩ := kind_c h
        rw [h3]; exact ⟨h1, rfl, rfl⟩
      generalize kindQ X 1 q6 = q7 at *
      generalize kindW X 1 q6 = pw at *
      refine s_al rfl (fun b9 w n' => ?_)
      have G := G.new n'
      have LL := LL.no n'.kp
      have h0 := G.blk 0 rfl; try have h1 := G.blk 1 rfl; try have h2 := G.blk 2 rfl; try have h3 := G.blk 3 rfl; try have h4 := G.blk 4 rfl; try have h5 := G.blk 5 rfl
      (repeat refine Zlr ?_)
      refine s_stw (vs := qc X (q7)) rfl rfl rfl rfl rfl h0 rfl (fun w s => ?_)
      have LL := LL.box s h0 rfl
      have G := G.put 0 rfl s rfl
      have h0 := G.blk 0 rfl; try have h1 := G.blk 1 rfl; try have h2 := G.blk 2 rfl; try have h3 := G.blk 3 rfl; try have h4 := G.blk 4 rfl; try have h5 := G.blk 5 rfl
      (repeat refine Zlr ?_)
      refine s_stw (vs := qc X (q7)) rfl rfl rfl rfl rfl h4 rfl (fun w s => ?_)
      have LL := LL.box s h4 rfl
      have G := G.put 4 rfl s rfl
      have h0 := G.blk 0 rfl; try have h1 := G.blk 1 rfl; try have h2 := G.blk 2 rfl; try have h3 := G.blk 3 rfl; try have h4 := G.blk 4 rfl; try have h5 := G.blk 5 rfl
      (repeat refine Zlr ?_)
      refine s_bs (cs := [sv pw]) (e := 9) rfl (fun b4 w n4 => ?_)
      have LL := LL.no n4.kp
      have G := G.no n4.kp
      have h0 := G.blk 0 rfl; try have h1 := G.blk 1 rfl; try have h2 := G.blk 2 rfl; try have h3 := G.blk 3 rfl; try have h4 := G.blk 4 rfl; try have h5 := G.blk 5 rfl
      have h4 := n4.blk
      (repeat refine Zlr ?_)
      refine s_app (v0 := .slice la l.length lc) (k := l.length) (m := 1) (size := 1) (bytes := 16) (base := 0) (xs := l.map sv) (news := [sv pw]) rfl rfl rfl rfl rfl rfl rfl rfl LL.own rfl (blk_cells h4) rfl rfl (by omega) (by omega) (Nat.zero_le _) ?_
      intro v w ap
      obtain ⟨a9, c9, e9, _⟩ := own_read ap.own
      subst e9
      rw [snoc_sv] at ap
      obtain ⟨G, LL⟩ := (G.drop 1).lst h LL ap rfl (fun i b cs T hi => by
        match i, hi with
        | 0, hi => cases hi; rfl
        | 1, hi => cases hi; rfl
        | 2, hi => cases hi; rfl
        | 3, hi => cases hi; rfl
        | i + 4, hi => exact absurd hi (by simp))
      have h0 := G.blk 0 rfl; try have h1 := G.blk 1 rfl; try have h2 := G.blk 2 rfl; try have h3 := G.blk 3 rfl; try have h4 := G.blk 4 rfl; try have h5 := G.blk 5 rfl
      (repeat refine Zlr ?_)
      refine s_st (vs := [.slice a9 (l.length + 1) c9]) rfl rfl rfl rfl rfl h0 (Nat.le_of_ble_eq_true rfl) (fun w s => ?_)
      have s : Sb _ b6 (fnC ({ nm := nm, ty := 4, ps := l ++ [pw] }, .slice a9 (l.length + 1) c9, nilS)) _ w := s
      have LL := LL.box s h0 rfl
      have G := G.put 0 rfl s rfl
      (repeat refine Zlr ?_)
      have hll : (l ++ [pw]).length = l.length + 1 := by simp
      refine l_next ⟨m - 1, l ++ [pw], a9, c9, q7⟩ ⟨rfl, rfl, rfl, rfl, trivial⟩ ⟨by simp only; omega, by simp only [hll]; exact G, by simp only [hll]; exact LL, ⟨⟨by simp only [hll]; omega, fun h7 => by
        obtain ⟨i1, i2, _⟩ := b6' h7
        have := I6 i1
        simp only [hll]
        omega⟩, fun h7 => by
        obtain ⟨i1, _, i3⟩ := b6' h7
        show q7.s.fn.length < 32
        rw [i3]; exact f6 i1⟩, fun q' r => hI _ (Res.of_c hc ?_), On_ne fun h7 => ?_⟩ ?_
      · by_cases A : l = [] ∨ wd X.E q5.s = wComma
        · rw [E1 A, bind_assoc]
          refine F2.bind (fun h6 => ?_) fun h => r.on_er (e6 h)
          rw [bind_assoc]
          refine (r6 h6).bind (fun h7 => ?_) fun h => r.on_er h
          have := r.on h7
          rw [prmsX_snoc] at this
          exact this
        · rw [prmsX, if_neg (fun h => h.elim (fun h => A (.inl h)) fun h => h.elim (fun h => A (.inr h)) nw)]
          exact r.on_er (e6 fun h => A (F1 h))
      · obtain ⟨h6, _⟩ := b6' h7
        have A := F1 h6
        rw [On_c hc, E1 A, bind_assoc] at hN
        have hN2 := F2.next hN h6
        rw [bind_assoc] at hN2
        have := (r6 h6).next hN2 h7
        show (prmsX _ _ _ _).bind _ ≠ _
        rw [prmsX_snoc]; exact this
      · simp only [if_pos hc]
        split
        · rename_i h7
          have := MM (F1 (b6' h7).1)
          omega
        · omega
  · refine c_f (congrArg Value.bool (decide_eq_false hgo)) ?_
    have hP : q5.c = 0 → Res (prmsX X.E m l q5.s) (wantQ X wRpar q5) l := fun hc => by
      have hw : wd X.E q5.s = wRpar := Decidable.byContradiction fun h => hgo ⟨hc, h⟩
      obtain ⟨hc1, hs1⟩ := want_ok (X := X) hc hw
      rw [prmsX, if_pos (.inr (.inr hw))]
      rw [On_c hc, prmsX, if_pos (.inr (.inr hw))] at hN
      cases m with
      | zero => exact (hN rfl).elim
      | succ m =>
        show Res (if wd X.E q5.s = wRpar then _ else _) _ _
        rw [if_pos hw]; exact ⟨hc1, hs1, rfl⟩
    have hI : ∀ q', Res (On (wantQ X wRpar q5) fun s => tlF X.E N fr nm l s) q' () → Res R q' () := fun q' r => hI q' (by
      by_cases hc : q5.c = 0
      · exact Res.of_c hc ((hP hc).bind (fun h => r.on h) fun h => r.on_er h)
      · rw [want_er hc] at r
        exact Res.of_er hc (r.on_er hc))
    have hN : On (wantQ X wRpar q5) (fun s => tlF X.E N fr nm l s) ≠ .out := On_ne fun h6 => by
      obtain ⟨hc, _⟩ := want_c h6
      rw [On_c hc] at hN
      exact (hP hc).next hN h6
    have f6 : (wantQ X wRpar q5).c = 0 → (wantQ X wRpar q5).s.fn.length < 32 ∧ 1 ≤ (wantQ X wRpar q5).s.i := fun h => by
      obtain ⟨hc, _, e⟩ := want_c h
      rw [e]; exact ⟨f5 hc, Nat.succ_le_succ (Nat.zero_le _)⟩
    clear hP hgo f5 hl1
    (repeat refine Zlr ?_)
    refine s_call (us := []) (zs := []) (by kernel_rfl) rfl rfl (wantW G.at_ wRpar (by decide) (by decide)) ?_
    rintro _ w ⟨rfl, k⟩
    have G := G.no k
    have LL := LL.no k
    have LL := LL.gs G.at_ (Sg.want G.at_ (show wRpar ≠ [] by decide)).gs rfl
    have G := G.mv (Sg.want G.at_ (show wRpar ≠ [] by decide))
    have h0 := G.blk 0 rfl; try have h1 := G.blk 1 rfl; try have h2 := G.blk 2 rfl; try have h3 := G.blk 3 rfl; try have h4 := G.blk 4 rfl; try have h5 := G.blk 5 rfl
    (repeat refine Zlr ?_)
    refine s_stw (vs := qc X (wantQ X wRpar q5)) rfl rfl rfl rfl rfl h3 rfl (fun w s => ?_)
    have LL := LL.box s h3 rfl
    have G := G.put 3 rfl s rfl
    have h0 := G.blk 0 rfl; try have h1 := G.blk 1 rfl; try have h2 := G.blk 2 rfl; try have h3 := G.blk 3 rfl; try have h4 := G.blk 4 rfl; try have h5 := G.blk 5 rfl
    (repeat refine Zlr ?_)
    generalize wantQ X wRpar q5 = q6 at *
    refine s_call (us := []) (zs := []) (by kernel_rfl) rfl rfl (isW G.at_ wInt (by decide) (by decide)) ?_
    rintro _ w ⟨rfl, k⟩
    have G := G.no k
    have LL := LL.no k
    have h0 := G.blk 0 rfl; try have h1 := G.blk 1 rfl; try have h2 := G.blk 2 rfl; try have h3 := G.blk 3 rfl; try have h4 := G.blk 4 rfl; try have h5 := G.blk 5 rfl
    (repeat refine Zlr ?_)
    refine k_cutc (σ := Int × Q) (fun _ => [(1, .pointer (some ⟨b, 0, none⟩)), (2, .pointer (some ⟨b2, 0, none⟩)), (3, .int .i64 fr), (6, .pointer (some ⟨b6, 0, none⟩))])
      (fun x w' => Wb X w0 q w' x.2 [(b6, fnC ({ nm := nm, ty := x.1, ps := l }, .slice la l.length lc, nilS), 46), (b', qc X q3, Tp), (b2, cs, Tp), (b, qc X x.2, Tp)] ∧ Ls w0 w' x.2 9 (.slice la l.length lc) l.length (l.map sv) ∧ Res (On q6 fun s => if wd X.E s = wInt then Rs.ok (1 : Int) (adv s) else .ok 4 s) x.2 x.1 ∧ (x.2.c = 0 → x.2.s.fn.length < 32 ∧ 1 ≤ x.2.s.i)) ?_ ?_
    · cases hi : isQ X wInt q6 with
      | true =>
        obtain ⟨hc, hw⟩ := is_yes hi
        obtain ⟨hc1, hs1⟩ := want_ok (X := X) hc hw
        refine c_t rfl ?_
        (repeat refine Zlr ?_)
        refine s_call (us := []) (zs := []) (by kernel_rfl) rfl rfl (wantW G.at_ wInt (by decide) (by decide)) ?_
        rintro _ w ⟨rfl, k⟩
        have G := G.no k
        have LL := LL.no k
        have LL := LL.gs G.at_ (Sg.want G.at_ (show wInt ≠ [] by decide)).gs rfl
        have G := G.mv (Sg.want G.at_ (show wInt ≠ [] by decide))
        have h0 := G.blk 0 rfl; try have h1 := G.blk 1 rfl; try have h2 := G.blk 2 rfl; try have h3 := G.blk 3 rfl; try have h4 := G.blk 4 rfl; try have h5 := G.blk 5 rfl
        (repeat refine Zlr ?_)
        refine s_stw (vs := qc X (wantQ X wInt q6)) rfl rfl rfl rfl rfl h3 rfl (fun w s => ?_)
        have LL := LL.box s h3 rfl
        have G := G.put 3 rfl s rfl
        have h0 := G.blk 0 rfl; try have h1 := G.blk 1 rfl; try have h2 := G.blk 2 rfl; try have h3 := G.blk 3 rfl; try have h4 := G.blk 4 rfl; try have h5 := G.blk 5 rfl
        (repeat refine Zlr ?_)
        refine s_st (vs := [.int .i64 1]) rfl rfl rfl rfl rfl h0 (Nat.le_of_ble_eq_true rfl) (fun w s => ?_)
        have s : Sb _ b6 (fnC ({ nm := nm, ty := 1, ps := l }, .slice la l.length lc, nilS)) _ w := s
        have LL := LL.box s h0 rfl
        have G := G.put 0 rfl s rfl
        (repeat refine Zlr ?_)
        refine l_cut (1, wantQ X wInt q6) ⟨rfl, rfl, rfl, rfl, trivial⟩ ⟨G, LL, Res.of_c hc (by rw [if_pos hw]; exact ⟨hc1, hs1, rfl⟩), fun _ => ?_⟩
        simp only [hs1]
        exact ⟨(f6 hc).1, Nat.succ_le_succ (Nat.zero_le _)⟩
      | false =>
        refine c_f rfl ?_
        (repeat refine Zlr ?_)
        refine l_cut (4, q6) ⟨rfl, rfl, rfl, rfl, trivial⟩ ⟨G, LL, ?_, f6⟩
        by_cases hc : q6.c = 0
        · exact Res.of_c hc (by rw [if_neg (is_no hi hc)]; exact ⟨hc, rfl, rfl⟩)
        · exact Res.of_er hc hc
    clear G LL h0 h1 h2 h3
    rintro ⟨ty, q7⟩ lx w ⟨G, LL, r7, f7⟩
    simp only at G LL r7 f7
    have eT : On q6 (fun s => tlF X.E N fr nm l s) = (On q6 fun s => if wd X.E s = wInt then Rs.ok (1 : Int) (adv s) else .ok 4 s).bind fun ty s5 => (block X.E (lv X.E N) 1 s5).bind fun bd s6 => .ok () { s6 with fn := s6.fn ++ [{ nm := nm, f := fr, e := pe X.E s6, ps := l, ty := ty, bd := bd }] } := by
      by_cases hc : q6.c = 0
      · rw [On_c hc, On_c hc]; rfl
      · rw [On_e hc, On_e hc]; rfl
    rw [eT] at hN
    have hn8 : On q7 (block X.E (lv X.E N) 1) ≠ .out := On_ne fun h7 => bind_ne' (r7.next hN h7)
    have h0 := G.blk 0 rfl; try have h1 := G.blk 1 rfl; try have h2 := G.blk 2 rfl; try have h3 := G.blk 3 rfl; try have h4 := G.blk 4 rfl; try have h5 := G.blk 5 rfl
    (repeat refine Zlr ?_)
    refine s_call (us := []) (zs := []) (by kernel_rfl) rfl rfl (hK 1 q7 _ (by omega) G.at_ hn8) ?_
    rintro _ w ⟨q8, bd, bda, bdc, rfl, g, r8, LT⟩
    have LL := LL.gs G.at_ (g).gs rfl
    have hsz := G.sg.gs.kp.size
    have LT : Ls w0 w q8 3 (.slice bda bd.length bdc) bd.length (bd.map (Value.int .i64)) := ⟨LT.own, fun g hg => ⟨Nat.le_trans hsz (LT.nw g hg).1, (LT.nw g hg).2⟩⟩
    have G := G.call g
    have h0 := G.blk 0 rfl; try have h1 := G.blk 1 rfl; try have h2 := G.blk 2 rfl; try have h3 := G.blk 3 rfl; try have h4 := G.blk 4 rfl; try have h5 := G.blk 5 rfl
    (repeat refine Zlr ?_)
    refine s_al rfl (fun b9 w n' => ?_)
    have G := G.new n'
    have LL := LL.no n'.kp
    have LT := LT.no n'.kp
    have h0 := G.blk 0 rfl; try have h1 := G.blk 1 rfl; try have h2 := G.blk 2 rfl; try have h3 := G.blk 3 rfl; try have h4 := G.blk 4 rfl; try have h5 := G.blk 5 rfl
    (repeat refine Zlr ?_)
    refine s_stw (vs := qc X (q8)) rfl rfl rfl rfl rfl h0 rfl (fun w s => ?_)
    have LL := LL.box s h0 rfl
    have LT := LT.box s h0 rfl
    have G := G.put 0 rfl s rfl
    have h0 := G.blk 0 rfl; try have h1 := G.blk 1 rfl; try have h2 := G.blk 2 rfl; try have h3 := G.blk 3 rfl; try have h4 := G.blk 4 rfl; try have h5 := G.blk 5 rfl
    (repeat refine Zlr ?_)
    have eR : ∀ q', (q8.c = 0 → q'.c = 0 ∧ q'.s = { q8.s with fn := q8.s.fn ++ [{ nm := nm, f := fr, e := pe X.E q8.s, ps := l, ty := ty, bd := bd }] }) → (q8.c ≠ 0 → q'.c ≠ 0) → Res R q' () := fun q' j1 j2 => hI q' (by
      rw [eT]
      exact r7.bind (fun h7 => (r8.on h7).bind (fun h8 => ⟨(j1 h8).1, (j1 h8).2, rfl⟩) j2) fun h7 => j2 (r8.on_er h7))
    by_cases hc : q8.c = 0
    · refine c_f (by show Value.bool (q8.c != 0) = _; rw [bne_eq_false_iff_eq.2 hc]) ?_
      obtain ⟨h7, e8⟩ := r8.up hc
      obtain ⟨f7a, f7b⟩ := f7 h7
      have u := block_up (bd_lv (E := X.E) N) e8
      have fn8 : q8.s.fn = q7.s.fn := u.2.2.1
      have i8 : 1 ≤ q8.s.i := by unfold Up at u; omega
      have hsm := G.at_.small
      have hlt := G.at_.lt
      (repeat refine Zlr ?_)
      refine s_st (vs := [.slice bda bd.length bdc]) rfl rfl rfl rfl rfl h1 (Nat.le_of_ble_eq_true rfl) (fun w s => ?_)
      have s : Sb _ b6 (fnC ({ nm := nm, ty := ty, ps := l, bd := bd }, .slice la l.length lc, .slice bda bd.length bdc)) _ w := s
      have LL := LL.box s h1 rfl
      have LT := LT.box s h1 rfl
      have G := G.put 1 rfl s rfl
      have h0 := G.blk 0 rfl; try have h1 := G.blk 1 rfl; try have h2 := G.blk 2 rfl; try have h3 := G.blk 3 rfl; try have h4 := G.blk 4 rfl; try have h5 := G.blk 5 rfl
      obtain ⟨t, ht, e1⟩ := G.at_.prev i8
      obtain ⟨c1, c2, c3⟩ := G.at_.tokens _ _ ht
      rw [show ((q8.s.i - 1 : Nat) : Int) = (q8.s.i : Int) - 1 by omega] at c1 c2 c3
      (repeat refine Zlr ?_)
      refine s_v (r_ia rfl rfl rfl rfl (by omega) (by omega)) ?_
      (repeat refine Zlr ?_)
      rw [← e1]
      refine s_st (vs := [.int .i64 fr, .int .i64 (pe X.E q8.s)]) rfl rfl rfl rfl rfl h1 (Nat.le_of_ble_eq_true rfl) (fun w s => ?_)
      have s : Sb _ b6 (fnC ({ nm := nm, f := fr, e := pe X.E q8.s, ty := ty, ps := l, bd := bd }, .slice la l.length lc, .slice bda bd.length bdc)) _ w := s
      have LL := LL.box s h1 rfl
      have LT := LT.box s h1 rfl
      have G := G.put 1 rfl s rfl
      have h0 := G.blk 0 rfl; try have h1 := G.blk 1 rfl; try have h2 := G.blk 2 rfl; try have h3 := G.blk 3 rfl; try have h4 := G.blk 4 rfl; try have h5 := G.blk 5 rfl
      (repeat refine Zlr ?_)
      refine s_bs (cs := fnC ({ nm := nm, f := fr, e := pe X.E q8.s, ty := ty, ps := l, bd := bd }, .slice la l.length lc, .slice bda bd.length bdc)) (e := 46) rfl (fun b4 w n4 => ?_)
      have LL := LL.no n4.kp
      have LT := LT.no n4.kp
      have G := G.new n4
      have h0 := G.blk 0 rfl; try have h1 := G.blk 1 rfl; try have h2 := G.blk 2 rfl; try have h3 := G.blk 3 rfl; try have h4 := G.blk 4 rfl; try have h5 := G.blk 5 rfl
      have G := (G.more (.slice la l.length lc) LL.rng).more (.slice bda bd.length bdc) LT.rng
      obtain ⟨rz, a1, o1, l1⟩ := (G.at_.gd hc).fs
      (repeat refine Zlr ?_)
      refine s_app (v0 := q8.z.v) (k := q8.s.fn.length) (m := 1) (size := 6) (bytes := 88) (base := 0) (xs := rz.flatMap fnC) (news := fnC ({ nm := nm, f := fr, e := pe X.E q8.s, ty := ty, ps := l, bd := bd }, .slice la l.length lc, .slice bda bd.length bdc)) rfl rfl rfl rfl rfl rfl rfl rfl o1 rfl (blk_cells h0) rfl rfl (by rw [fn8]; omega) (by rw [fn8]; omega) (Nat.zero_le _) ?_
      intro v w ap
      obtain ⟨a9, c9, e9, _⟩ := own_read ap.own
      subst e9
      have G := G.call (Sg.putz (x := { nm := nm, f := fr, e := pe X.E q8.s, ty := ty, ps := l, bd := bd }) G.at_ hc a1 o1 l1 LL.own (fun g hg => .inl (.inr hg)) LT.own (fun g hg => .inr hg) (by show q8.s.fn.length + 1 ≤ 32; rw [fn8]; omega) ap)
      have h0 := G.blk 0 rfl; try have h1 := G.blk 1 rfl; try have h2 := G.blk 2 rfl; try have h3 := G.blk 3 rfl; try have h4 := G.blk 4 rfl; try have h5 := G.blk 5 rfl
      (repeat refine Zlr ?_)
      refine s_st (vs := [.slice a9 (q8.s.fn.length + 1) c9]) rfl rfl rfl rfl rfl h1 (Nat.le_of_ble_eq_true rfl) (fun w s => ?_)
      have s : Sb _ b9 (qc X { ((q8.add (.slice la l.length lc)).add (.slice bda bd.length bdc)) with s := { q8.s with fn := q8.s.fn ++ [{ nm := nm, f := fr, e := pe X.E q8.s, ty := ty, ps := l, bd := bd }] }, z := ⟨a9, q8.s.fn.length + 1, c9⟩ }) _ w := s
      have G := G.put 1 rfl s rfl
      have h0 := G.blk 0 rfl; try have h1 := G.blk 1 rfl; try have h2 := G.blk 2 rfl; try have h3 := G.blk 3 rfl; try have h4 := G.blk 4 rfl; try have h5 := G.blk 5 rfl
      (repeat refine Zlr ?_)
      refine s_stw (vs := qc X ({ ((q8.add (.slice la l.length lc)).add (.slice bda bd.length bdc)) with s := { q8.s with fn := q8.s.fn ++ [{ nm := nm, f := fr, e := pe X.E q8.s, ty := ty, ps := l, bd := bd }] }, z := ⟨a9, q8.s.fn.length + 1, c9⟩ })) rfl rfl rfl rfl rfl h4 hcs (fun w s => ?_)
      have G := G.put 4 rfl s rfl
      have h0 := G.blk 0 rfl; try have h1 := G.blk 1 rfl; try have h2 := G.blk 2 rfl; try have h3 := G.blk 3 rfl; try have h4 := G.blk 4 rfl; try have h5 := G.blk 5 rfl
      (repeat refine Zlr ?_)
      exact ret_c1 rfl (rv_agw rfl h4 rfl rfl) ⟨{ ((q8.add (.slice la l.length lc)).add (.slice bda bd.length bdc)) with s := { q8.s with fn := q8.s.fn ++ [{ nm := nm, f := fr, e := pe X.E q8.s, ty := ty, ps := l, bd := bd }] }, z := ⟨a9, q8.s.fn.length + 1, c9⟩ }, rfl, G.sg, eR _ (fun _ => ⟨hc, rfl⟩) fun h => (h hc).elim⟩
    · refine c_t (by show Value.bool (q8.c != 0) = _; rw [bne_iff_ne.2 hc]) ?_
      (repeat refine Zlr ?_)
      refine s_stw (vs := qc X (q8)) rfl rfl rfl rfl rfl h3 hcs (fun w s => ?_)
      have G := G.put 3 rfl s rfl
      have h0 := G.blk 0 rfl; try have h1 := G.blk 1 rfl; try have h2 := G.blk 2 rfl; try have h3 := G.blk 3 rfl; try have h4 := G.blk 4 rfl; try have h5 := G.blk 5 rfl
      (repeat refine Zlr ?_)
      exact ret_c1 rfl (rv_agw rfl h3 rfl rfl) ⟨q8, rfl, G.sg, eR _ (fun h => (hc h).elim) fun h => h⟩
end
end Go.Proofs.Ytkllhfajldnpoaa.Rf
namespace Go.Proofs.Ytkllhfajldnpoaa.Rf
open Go Go.RowKit Fw Sy
set_option linter.unusedVariables false
set_option maxRecDepth 20000
structure PaS where
  m : Nat
  q : Q
/-- What the document's parser answers. -/
def ParR (s : ByteArray) (w : World) (v : Value) (w1 : World) : Prop := ∃ ux us uf a c, v = .tuple #[.agg #[ux, us, uf], .int .i64 a, .int .i64 c] ∧ Kp No w w1 ∧ ((∃ S, prs (B s) = .ok () S ∧ c = 0 ∧ Tr w1 ux us uf S ∧ S.ex.length ≤ 1000001 ∧ S.st.length ≤ 1000 ∧ S.fn.length ≤ 32) ∨ ((∀ S, prs (B s) ≠ .ok () S) ∧ c ≠ 0 ∧ ux = nilS ∧ us = nilS ∧ uf = nilS))
theorem Gd.tr {w : World} {q : Q} (h : Gd w q) : Tr w q.x.v q.y.v q.z.v q.s := by
  obtain ⟨⟨rx, e1, o1, l1⟩, ⟨ry, e2, o2, l2⟩, ⟨rz, e3, o3, l3⟩, _⟩ := h
  exact ⟨⟨rx, e1, o1, fun r hr => ⟨(l1 r hr).1, fun _ _ => trivial⟩⟩, ⟨ry, e2, o2, fun r hr => ⟨⟨(l2 r hr).1.1, fun _ _ => trivial⟩, (l2 r hr).2.1, fun _ _ => trivial⟩⟩, ⟨rz, e3, o3, fun r hr => ⟨⟨(l3 r hr).1.1, fun _ _ => trivial⟩, (l3 r hr).2.1, fun _ _ => trivial⟩⟩⟩
set_option maxHeartbeats 4000000 in
theorem parseF (s : ByteArray) (w0 : World) (hs : s.size ≤ 1000000) : Ret Try.prog 31 [.string s] w0 (ParR s w0) := by
  refine ret_enter Try.func31 rfl Try.ntmps31 rfl ?_
  (repeat refine Zlr ?_)
  refine s_al rfl (fun b2 w n2 => ?_)
  (repeat refine Zlr ?_)
  refine s_call (us := []) (zs := []) (by kernel_rfl) rfl rfl (Tk.rAll s w hs) ?_
  rintro _ w4 ⟨u, rfl, own4, k4⟩
  have k04 := n2.kp.no k4
  have hb2 := k4.get0 n2.blk
  obtain ⟨ua, uc, rfl, _, u0, ur⟩ := own_read own4
  (repeat refine Zlr ?_)
  refine c_ne rfl (fun hbad => ?_) (fun hgood => ?_)
  · have ep : Sy.prs (B s) = .er (Tk.allT (B s)).2.2 (Tk.allT (B s)).2.1 := by unfold Sy.prs; rw [if_pos hbad]
    (repeat refine Zlr ?_)
    refine s_stw (vs := [nilS, nilS, nilS]) rfl rfl rfl rfl rfl hb2 rfl (fun w5 s5 => ?_)
    (repeat refine Zlr ?_)
    exact ret_c3 rfl (rv_agw rfl s5.blk rfl rfl) (rv_t rfl) (rv_t rfl) ⟨_, _, _, _, _, rfl, k04.from0' s5.kp fun i hi e => by (have := n2.ge; omega), .inr ⟨fun S e => (by rw [ep] at e; cases e), hbad, rfl, rfl, rfl⟩⟩
  have ok := tok_of hgood
  have own0 : w4.ownsRow 0 101 3 (.slice ua (Tk.allT (B s)).1.length uc) (Tk.allT (B s)).1.length (Tk.tc (Tk.allT (B s)).1) := by
    refine ⟨own4.1, ?_⟩
    rcases own4.2 with h | ⟨g, cap, cur, e1, _, e3⟩
    · exact .inl h
    · exact .inr ⟨g, cap, cur, e1, Nat.zero_le _, e3⟩
  obtain ⟨g, rfl⟩ : ∃ g, ua = some ⟨g, 0, none⟩ := by
    cases ua with
    | none => exact (ok.ne (List.length_eq_zero_iff.1 (u0 rfl))).elim
    | some ad =>
      obtain ⟨g, rfl, _⟩ := ur _ rfl
      exact ⟨g, rfl⟩
  obtain ⟨X, hX⟩ : ∃ X : Cr, (⟨s, g, uc⟩ : Cr) = X := ⟨_, rfl⟩
  obtain ⟨q, hq⟩ : ∃ q : Q, (⟨⟨0, [], [], []⟩, ⟨none, 0, 0⟩, ⟨none, 0, 0⟩, ⟨none, 0, 0⟩, 0, 0, fun _ => False⟩ : Q) = q := ⟨_, rfl⟩
  have hc : q.c = 0 := by rw [← hq]
  have A4 : Aq X w4 q := by
    rw [← hX, ← hq]
    refine ⟨hgood, own0, ?_, fun _ => ⟨⟨[], rfl, nilown, fun r hr => (by cases hr)⟩, ⟨[], rfl, nilown, fun r hr => (by cases hr)⟩, ⟨[], rfl, nilown, fun r hr => (by cases hr)⟩, Nat.le_refl _, Nat.zero_le _, Nat.zero_le _, fun b hb => hb.elim⟩⟩
    exact List.length_pos_iff.2 ok.ne
  have nsx : ∀ b, ¬ Sx q b := fun b hb => by
    rw [← hq] at hb
    rcases hb.2 with h | h | h <;> cases h
  have no : ∀ b, ¬ q.o b := fun b hb => by rw [← hq] at hb; exact hb
  have G : Wb X w0 q w4 q [(b2, _, 39)] := ⟨⟨A4, k04.mono fun _ _ h => h.elim, fun _ _ h => h, fun b _ _ ho => (no b ho).elim⟩, fun i b cs T hi => by
    cases i with
    | zero => cases hi; exact ⟨n2.ge, hb2, nsx _⟩
    | succ i => simp at hi, fun i j b cs cs' T T' hi hj => by
    cases i with
    | zero => cases j with
      | zero => rfl
      | succ j => simp at hj
    | succ i => simp at hi⟩
  have hsX : X.t = s := by rw [← hX]
  (repeat refine Zlr ?_)
  refine s_al rfl (fun b8 w n8 => ?_)
  have G := G.new n8
  have h0 := G.blk 0 rfl; try have h1 := G.blk 1 rfl; try have h2 := G.blk 2 rfl; try have h3 := G.blk 3 rfl; try have h4 := G.blk 4 rfl; try have h5 := G.blk 5 rfl
  (repeat refine Zlr ?_)
  refine s_stw (vs := qc X q) rfl (by rw [← hX, ← hq]; rfl) rfl rfl rfl h0 rfl (fun w s' => ?_)
  have G := G.put 0 rfl s' rfl
  clear h0 h1
  have ep : Sy.prs (B s) = fcts X.E (fuel (B s)) (fuel (B s)) q.s := by rw [← hX, ← hq]; unfold Sy.prs; rw [if_neg (fun h => h hgood)]
  obtain ⟨R, hR⟩ : ∃ R, Sy.prs (B s) = R := ⟨_, rfl⟩
  have hno : R ≠ .out := by rw [← hR]; exact prs_no _
  rw [ep] at hR
  have hI : ∀ q', Res (On q (fcts X.E (fuel (B s)) (fuel (B s)))) q' () → Res R q' () := fun q' r => by rw [← hR]; exact r.on hc
  have hN : On q (fcts X.E (fuel (B s)) (fuel (B s))) ≠ .out := On_ne fun _ => by rw [hR]; exact hno
  have fin : ∀ {v : Value} {q' : Q} {w1 : World}, Res R q' () → Sg X w0 q w1 q' → (∃ ux us uf a c, v = .tuple #[.agg #[ux, us, uf], .int .i64 a, .int .i64 c] ∧ c = q'.c ∧ (q'.c = 0 → ux = q'.x.v ∧ us = q'.y.v ∧ uf = q'.z.v) ∧ (q'.c ≠ 0 → ux = nilS ∧ us = nilS ∧ uf = nilS)) → ParR s w0 v w1 := by
    rintro v q' w1 r g ⟨ux, us, uf, a, c, rfl, hcc, hu, he⟩
    refine ⟨ux, us, uf, a, c, rfl, g.gs.kp.mono fun i _ h => nsx i h, ?_⟩
    by_cases h : q'.c = 0
    · obtain ⟨rfl, rfl, rfl⟩ := hu h
      exact .inl ⟨q'.s, by rw [ep, hR]; exact r.ok h, hcc.trans h, (g.at_.gd h).tr, by have := (g.at_.gd h).xl; have := g.at_.lt; have := g.at_.small; omega, (g.at_.gd h).sl, (g.at_.gd h).fl⟩
    · refine .inr ⟨fun S e => ?_, by rw [hcc]; exact h, he h⟩
      rw [ep, hR] at e
      rw [e] at r
      exact h r.1
  clear ep hR hno own4 own0 k4 hb2 n2 k04 A4
  (repeat refine Zlr ?_)
  refine k_loop (σ := PaS) (fun x => [(2, .pointer (some ⟨b2, 0, none⟩)), (8, .pointer (some ⟨b8, 0, none⟩))])
    (fun x w' => (∃ cs, cs.length = 3 ∧ Wb X w0 q w' x.q [(b8, qc X x.q, Tp), (b2, cs, 39)]) ∧ (∀ q', Res (On x.q (fcts X.E (fuel (B s)) x.m)) q' () → Res R q' ()) ∧ On x.q (fcts X.E (fuel (B s)) x.m) ≠ .out) (fun x => if x.q.c = 0 then x.m + 1 else 0) ⟨fuel (B s), q⟩ ⟨rfl, rfl, trivial⟩ ⟨⟨_, rfl, G⟩, hI, hN⟩ ?_
  clear hI hN G
  rintro ⟨m, q3⟩ lx w ⟨⟨cs, hcs, G⟩, hI, hN⟩
  simp only at G hI hN
  have h0 := G.blk 0 rfl; try have h1 := G.blk 1 rfl; try have h2 := G.blk 2 rfl; try have h3 := G.blk 3 rfl; try have h4 := G.blk 4 rfl; try have h5 := G.blk 5 rfl
  (repeat (first | refine k_nil ?_ | refine k_n ?_ | refine k_r ?_ | refine k_x ?_ | refine b_n ?_ | refine b_r ?_ | refine b_y rfl ?_ | refine b_z rfl ?_ | refine l_r ?_ | refine l_x ?_ | refine k_seq ?_ | refine k_blk ?_ | refine k_ret ?_ | refine k_exit ?_ | refine k_skip ?_ | refine Zs ?_ | refine Zl ?_))
  refine k_cutc (σ := Unit) (fun _ => [(2, .pointer (some ⟨b2, 0, none⟩)), (8, .pointer (some ⟨b8, 0, none⟩)), (42, .bool (decide (q3.c = 0 ∧ ¬ (q3.s.fn ≠ [] ∧ kd X.E q3.s = 0))))])
    (fun _ w' => Wb X w0 q w' q3 [(b8, qc X q3, Tp), (b2, cs, 39)]) ?_ ?_
  · (repeat refine Zlr ?_)
    by_cases hc : q3.c = 0
    · obtain ⟨_, _, hzn⟩ := (G.at_.gd hc).ny
      obtain ⟨t, ht, e1, e2, e3⟩ := G.at_.tok
      have hlt := G.at_.lt
      obtain ⟨c1, c2, c3⟩ := G.at_.tokens _ _ ht
      refine s_set 26 true rfl (beq_iff_eq.2 hc) ?_
      (repeat (first | refine Zlr ?_ | refine Zn ?_ | refine Zu ?_ | refine Zg ?_ | refine Zgl ?_))
      by_cases hf : q3.s.fn = []
      · refine s_set 32 true rfl (beq_iff_eq.2 (by rw [hzn, hf]; rfl)) ?_
        (repeat (first | refine Zlr ?_ | refine Zn ?_ | refine Zu ?_ | refine Zg ?_ | refine Zgl ?_))
        refine l_cut () ⟨rfl, rfl, ?_, trivial⟩ G
        show Value.bool true = Value.bool _
        congr 1
        simp [hc, hf]
      · refine s_set 32 false rfl (beq_eq_false_iff_ne.2 (by rw [hzn]; have := List.length_pos_iff.2 hf; omega)) ?_
        (repeat (first | refine Zlr ?_ | refine Zn ?_ | refine Zu ?_ | refine Zg ?_ | refine Zgl ?_))
        refine s_gv rfl (r_ia rfl rfl rfl rfl (by omega) (by omega)) ?_
        (repeat (first | refine Zlr ?_ | refine Zn ?_ | refine Zu ?_ | refine Zg ?_ | refine Zgl ?_))
        refine l_cut () ⟨rfl, rfl, ?_, trivial⟩ G
        show Value.bool (t.1 != 0) = Value.bool _
        congr 1
        rw [e1]
        by_cases hk : t.1 = 0 <;> simp [hc, hf, hk]
    · refine s_set 26 false rfl (beq_eq_false_iff_ne.2 hc) ?_
      (repeat (first | refine Zlr ?_ | refine Zn ?_ | refine Zu ?_ | refine Zg ?_ | refine Zgl ?_))
      refine l_cut () ⟨rfl, rfl, ?_, trivial⟩ G
      show Value.bool false = Value.bool _
      congr 1
      simp [hc]
  clear G h0 h1
  rintro _ lx w G
  have h0 := G.blk 0 rfl; try have h1 := G.blk 1 rfl; try have h2 := G.blk 2 rfl; try have h3 := G.blk 3 rfl; try have h4 := G.blk 4 rfl; try have h5 := G.blk 5 rfl
  (repeat refine Zlr ?_)
  by_cases hgo : q3.c = 0 ∧ ¬ (q3.s.fn ≠ [] ∧ kd X.E q3.s = 0)
  · obtain ⟨hc, hgo⟩ := hgo
    refine c_t (congrArg Value.bool (decide_eq_true ⟨hc, hgo⟩)) ?_
    (repeat refine Zlr ?_)
    cases m with
    | zero => exact (hN (by rw [On_c hc]; rfl)).elim
    | succ m =>
    have eA : fcts X.E (fuel (B s)) (m + 1) q3.s = (fct X.E (fuel (B s)) q3.s).bind fun _ s1 => fcts X.E (fuel (B s)) m s1 := if_neg hgo
    rw [On_c hc, eA] at hN
    refine s_call (us := []) (zs := []) (by kernel_rfl) rfl rfl (functionF (fuel (B s)) q3 _ hc G.at_ (bind_ne' hN)) ?_
    rintro _ w ⟨q4, rfl, g, r4⟩
    have G := G.call g
    have h0 := G.blk 0 rfl; try have h1 := G.blk 1 rfl; try have h2 := G.blk 2 rfl; try have h3 := G.blk 3 rfl; try have h4 := G.blk 4 rfl; try have h5 := G.blk 5 rfl
    (repeat refine Zlr ?_)
    refine s_stw (vs := qc X q4) rfl rfl rfl rfl rfl h0 rfl (fun w s' => ?_)
    have G := G.put 0 rfl s' rfl
    (repeat refine Zlr ?_)
    refine l_next ⟨m, q4⟩ ⟨rfl, rfl, trivial⟩ ⟨⟨cs, hcs, G⟩, fun q' r => hI _ (Res.of_c hc ?_), On_ne fun h4 => r4.next hN h4⟩ ?_
    · rw [eA]; exact r4.bind (fun h => r.on h) fun h => r.on_er h
    · simp only [if_pos hc]
      split <;> omega
  · refine c_f (congrArg Value.bool (decide_eq_false hgo)) ?_
    have r3 : Res R q3 () := hI q3 (by
      by_cases hc : q3.c = 0
      · have hx : q3.s.fn ≠ [] ∧ kd X.E q3.s = 0 := Decidable.byContradiction fun h => hgo ⟨hc, h⟩
        cases m with
        | zero => exact (hN (by rw [On_c hc]; rfl)).elim
        | succ m =>
          refine Res.of_c hc ?_
          show Res (if _ then _ else _) _ _
          rw [if_pos hx]; exact ⟨hc, rfl, rfl⟩
      · exact Res.of_er hc hc)
    (repeat refine Zlr ?_)
    by_cases hc : q3.c = 0
    · refine c_f (by show Value.bool (q3.c != 0) = _; rw [bne_eq_false_iff_eq.2 hc]) ?_
      (repeat refine Zlr ?_)
      refine s_v (r_ldb (vs := [.slice q3.x.a q3.x.n q3.x.c, .slice q3.y.a q3.y.n q3.y.c, .slice q3.z.a q3.z.n q3.z.c]) rfl rfl rfl h0 rfl rfl) ?_
      refine s_stw (vs := [.slice q3.x.a q3.x.n q3.x.c, .slice q3.y.a q3.y.n q3.y.c, .slice q3.z.a q3.z.n q3.z.c]) rfl rfl rfl rfl rfl h1 hcs (fun w s' => ?_)
      have G := G.put 1 rfl s' rfl
      have h0 := G.blk 0 rfl; try have h1 := G.blk 1 rfl; try have h2 := G.blk 2 rfl; try have h3 := G.blk 3 rfl; try have h4 := G.blk 4 rfl; try have h5 := G.blk 5 rfl
      (repeat refine Zlr ?_)
      exact ret_c3 rfl (rv_agw rfl h1 rfl rfl) (rv_t rfl) (rv_t rfl) (fin r3 G.sg ⟨_, _, _, _, _, rfl, hc.symm, fun _ => ⟨rfl, rfl, rfl⟩, fun h => (h hc).elim⟩)
    · refine c_t (by show Value.bool (q3.c != 0) = _; rw [bne_iff_ne.2 hc]) ?_
      have n82 : b8 ≠ b2 := fun e => by
        have := G.nd 0 1 b8 _ _ _ _ rfl (by rw [e]; rfl)
        omega
      (repeat refine Zlr ?_)
      refine k_h (fun w' => Kp (fun i => i = b2) w w') [(0, false), (1, false), (2, false), (3, false), (4, false), (5, true), (6, false), (7, false)] 8 (by kernel_rfl) (waits_none) (by kernel_rfl) (by kernel_rfl) (by kernel_rfl) rfl (fun w4 k4 q4' => ?_)
      have k4' : Kp (fun i => i = b2) w w4 := k4.mono fun _ _ h => h.elim
      have hd := fun (w' : World) (hw : Kp (fun i => i = b2) w w') => hw.get h0 n82
      have G := G.no k4
      refine h_v k4' (fun w' hw => r_bd rfl) ?_
      refine h_v k4' (fun w' hw => r_fa rfl rfl) ?_
      refine h_v k4' (fun w' hw => r_ld rfl rfl (cell_of_blk (hd w' hw) rfl)) ?_
      refine h_v k4' (fun w' hw => r_fa rfl rfl) ?_
      refine h_v k4' (fun w' hw => r_ld rfl rfl (cell_of_blk (hd w' hw) rfl)) ?_
      have g1 := G.blk 1 rfl
      refine h_st (vs := [nilS, nilS, nilS]) rfl rfl rfl rfl rfl g1 (by rw [hcs]; exact Nat.le_refl _) (fun w7 s7 => ⟨fun _ => k4'.trans s7.kp fun _ _ h => h, ?_⟩)
      rw [setAt_all (by rw [hcs]; rfl)] at s7
      have G := G.put 1 rfl s7 rfl
      have k7 : Kp (fun i => i = b2) _ w7 := k4'.trans s7.kp fun _ _ h => h
      refine h_v k7 (fun w' hw => r_as rfl) ?_
      refine h_v k7 (fun w' hw => r_as rfl) ?_
      refine h_nil ?_
      have g1 := G.blk 1 rfl
      (repeat refine Zlr ?_)
      exact ret_c3 rfl (rv_agw rfl g1 rfl rfl) (rv_t rfl) (rv_t rfl) (fin r3 G.sg ⟨_, _, _, _, _, rfl, rfl, fun h => (hc h).elim, fun _ => ⟨rfl, rfl, rfl⟩⟩)
end Go.Proofs.Ytkllhfajldnpoaa.Rf
namespace Go.Proofs.Ytkllhfajldnpoaa.Sy
open Go
set_option linter.unusedVariables false
/-- A name; a number's digits. -/
def Nam (E : Env) (w : List Int) : Prop := ∃ s, kd E s = 1 ∧ w = wd E s
def Dig (E : Env) (n : Int) : Prop := ∃ s, kd E s = 2 ∧ n = num (wd E s)
def sgAll : List (List Int) := sgs 0 ++ sgs 1 ++ sgs 2 ++ sgs 3 ++ sgs 4
def WfE (E : Env) (x : Ex) : Prop :=
  (x.k = 1 ∧ Dig E x.n) ∨ x.k = 2 ∨ x.k = 3 ∨ x.k = 7 ∨ ((x.k = 4 ∨ x.k = 5 ∨ x.k = 6) ∧ Nam E x.nm) ∨ (x.k = 8 ∧ (x.op = wMinus ∨ x.op = wNot)) ∨ (x.k = 9 ∧ x.op ∈ sgAll)
/-- An expression that is there. -/
def Vx (a : Int) (ex : List Ex) : Prop := 0 ≤ a ∧ a < ex.length
/-- A call. -/
def Vc (a : Int) (ex : List Ex) : Prop := ∃ (m : Nat) (x : Ex), a = (m : Int) ∧ ex[m]? = some x ∧ x.k = 6
def WfS (E : Env) (ex : List Ex) (y : St) : Prop :=
  ((y.k = 1 ∨ y.k = 3) ∧ Nam E y.nm ∧ Vx y.a ex ∧ y.th = [] ∧ y.el = []) ∨ (y.k = 2 ∧ Nam E y.nm ∧ Dig E y.n ∧ y.th = [] ∧ y.el = []) ∨ (y.k = 4 ∧ Nam E y.nm ∧ Vx y.a ex ∧ Vx y.b ex ∧ y.th = [] ∧ y.el = []) ∨ (y.k = 5 ∧ Vx y.a ex) ∨ (y.k = 6 ∧ Vx y.a ex ∧ y.el = []) ∨
  ((y.k = 7 ∨ y.k = 8) ∧ y.th = [] ∧ y.el = []) ∨ (y.k = 9 ∧ (y.a = -1 ∨ Vx y.a ex) ∧ y.th = [] ∧ y.el = []) ∨ (y.k = 10 ∧ Vx y.a ex ∧ y.th = [] ∧ y.el = []) ∨ (y.k = 11 ∧ Vx y.a ex ∧ Vc y.a ex ∧ y.th = [] ∧ y.el = [])
def WfF (E : Env) (f : Fn) : Prop := Nam E f.nm ∧ (∀ p ∈ f.ps, Nam E p) ∧ (f.ty = 1 ∨ f.ty = 4)
structure Wf (E : Env) (s : PS) : Prop where
  ex : ∀ x ∈ s.ex, WfE E x
  st : ∀ y ∈ s.st, WfS E s.ex y
  fn : ∀ f ∈ s.fn, WfF E f
theorem Vx.up {a : Int} {ex n : List Ex} (h : Vx a ex) : Vx a (ex ++ n) := ⟨h.1, by have := h.2; rw [List.length_append]; omega⟩
theorem Vc.up {a : Int} {ex n : List Ex} (h : Vc a ex) : Vc a (ex ++ n) := by
  obtain ⟨m, x, h1, h2, h3⟩ := h
  exact ⟨m, x, h1, by rw [List.getElem?_append_left (List.getElem?_eq_some_iff.1 h2).1]; exact h2, h3⟩
theorem WfS.up {E : Env} {ex n : List Ex} {y : St} (h : WfS E ex y) : WfS E (ex ++ n) y := by
  rcases h with h | h | h | h | h | h | h | h | h
  · exact .inl ⟨h.1, h.2.1, h.2.2.1.up, h.2.2.2⟩
  · exact .inr (.inl h)
  · exact .inr (.inr (.inl ⟨h.1, h.2.1, h.2.2.1.up, h.2.2.2.1.up, h.2.2.2.2⟩))
  · exact .inr (.inr (.inr (.inl ⟨h.1, h.2.up⟩)))
  · exact .inr (.inr (.inr (.inr (.inl ⟨h.1, h.2.1.up, h.2.2⟩))))
  · exact .inr (.inr (.inr (.inr (.inr (.inl h)))))
  · exact .inr (.inr (.inr (.inr (.inr (.inr (.inl ⟨h.1, h.2.1.imp id Vx.up, h.2.2⟩))))))
  · exact .inr (.inr (.inr (.inr (.inr (.inr (.inr (.inl ⟨h.1, h.2.1.up, h.2.2⟩)))))))
  · exact .inr (.inr (.inr (.inr (.inr (.inr (.inr (.inr ⟨h.1, h.2.1.up, h.2.2.1.up, h.2.2.2⟩)))))))
/-- From a state on what is put is right, and what is answered is. -/
def Wr {α : Type} (E : Env) (s : PS) (V : α → List Ex → Prop) (r : Rs α) : Prop := Wf E s → ∀ a t, r = .ok a t → Wf E t ∧ (∃ n, t.ex = s.ex ++ n) ∧ V a t.ex
abbrev Vt {α : Type} (_ : α) (_ : List Ex) : Prop := True
section
variable {E : Env} {s : PS} {α β : Type} {V : α → List Ex → Prop} {W : β → List Ex → Prop}
theorem Wr.bind {r : Rs α} {g : α → PS → Rs β} (h : Wr E s V r) (k : ∀ x (u : PS), (∃ n, u.ex = s.ex ++ n) → V x u.ex → Wr E u W (g x u)) : Wr E s W (r.bind g) := fun hw b t e => by
  obtain ⟨x, u, e1, e2⟩ := bind_inv e
  obtain ⟨w1, ⟨n, p1⟩, v1⟩ := h hw x u e1
  obtain ⟨w2, ⟨n', p2⟩, v2⟩ := k x u ⟨n, p1⟩ v1 w1 b t e2
  exact ⟨w2, ⟨n ++ n', by rw [p2, p1, List.append_assoc]⟩, v2⟩
theorem Wr.ok {x : α} (h : V x s.ex) : Wr E s V (.ok x s) := fun hw a t e => by cases e; exact ⟨hw, ⟨[], by simp⟩, h⟩
theorem Wr.out : Wr E s V (.out : Rs α) := fun hw a t e => by cases e
theorem Wr.er {c : Int} {u : PS} : Wr E s V (Sy.er E c u : Rs α) := fun hw a t e => by cases e
theorem Wr.mono {V' : α → List Ex → Prop} {r : Rs α} (h : Wr E s V r) (k : ∀ a ex, V a ex → V' a ex) : Wr E s V' r := fun hw a t e => ⟨(h hw a t e).1, (h hw a t e).2.1, k _ _ (h hw a t e).2.2⟩
theorem Wf.adv (h : Wf E s) : Wf E (adv s) := ⟨h.ex, h.st, h.fn⟩
theorem Wr.adv {r : Rs α} (h : Wr E (Sy.adv s) V r) : Wr E s V r := fun hw a t e => h hw.adv a t e
theorem Wr.want {w : List Int} : Wr E s Vt (want E w s) := by
  unfold Sy.want; split
  · exact Wr.adv (Wr.ok trivial)
  · exact Wr.er
theorem Wr.knd {k : Int} : Wr E s (fun w _ => ∃ u, kd E u = k ∧ w = wd E u) (knd E k s) := by
  unfold Sy.knd; split
  · rename_i e; exact Wr.adv (Wr.ok ⟨s, e, rfl⟩)
  · exact Wr.er
theorem Wr.deep {d : Int} : Wr E s Vt (deep E d s) := by
  unfold Sy.deep; split
  · exact Wr.er
  · exact Wr.ok trivial
/-- What an expression is put as. -/
def Vk (k : Int) (a : Int) (ex : List Ex) : Prop := ∃ (m : Nat) (x : Ex), a = (m : Int) ∧ ex[m]? = some x ∧ x.k = k
theorem Vk.vx {k a : Int} {ex : List Ex} (h : Vk k a ex) : Vx a ex := by
  obtain ⟨m, x, rfl, h2, _⟩ := h
  have := (List.getElem?_eq_some_iff.1 h2).1
  exact ⟨by omega, by omega⟩
theorem Wr.put {fr : Int} {x : Ex} (h : WfE E x) : Wr E s (Vk x.k) (put E fr x s) := fun hw a t e => by
  cases e
  refine ⟨⟨fun y hy => ?_, fun y hy => (hw.st y hy).up, hw.fn⟩, ⟨_, rfl⟩, s.ex.length, { x with f := fr, e := pe E s }, rfl, by simp, rfl⟩
  rcases List.mem_append.1 hy with hy | hy
  · exact hw.ex y hy
  · rw [List.mem_singleton.1 hy]; exact h
theorem Wr.add {fr : Int} {x : St} (h : WfS E s.ex x) : Wr E s Vt (add E fr x s) := fun hw a t e => by
  unfold Sy.add at e
  split at e
  · cases e
  · cases e
    refine ⟨⟨hw.ex, fun y hy => ?_, hw.fn⟩, ⟨[], by simp⟩, trivial⟩
    rcases List.mem_append.1 hy with hy | hy
    · exact hw.st y hy
    · rw [List.mem_singleton.1 hy]; exact h
theorem Wr.endS {fr : Int} {x : St} (h : WfS E s.ex x) : Wr E s Vt (endS E fr x s) := Wr.bind Wr.want fun _ u hu _ => Wr.add (by obtain ⟨n, e⟩ := hu; rw [e]; exact h.up)
end
structure WrL (E : Env) (L : Lv) : Prop where
  row : ∀ v d s, Wr E s Vx (L.row v d s)
  rows : ∀ v d fr a s, Vx a s.ex → Wr E s Vx (L.rows v d fr a s)
  expr : ∀ d s, Wr E s Vx (L.expr d s)
  unary : ∀ d s, Wr E s Vx (L.unary d s)
  prim : ∀ d s, Wr E s Vx (L.prim d s)
  args : ∀ fr nm d l s, Nam E nm → Wr E s (Vk 6) (L.args fr nm d l s)
  stmts : ∀ d l s, Wr E s Vt (L.stmts d l s)
  stmt : ∀ d s, Wr E s Vt (L.stmt d s)
  branch : ∀ fr d s, Wr E s Vt (L.branch fr d s)
section
variable {E : Env} {L : Lv} (h : WrL E L)
include h
theorem WrL.call {fr : Int} {nm : List Int} {d : Int} {s : PS} (hn : Nam E nm) : Wr E s (Vk 6) (call E L fr nm d s) := Wr.bind Wr.want fun _ _ _ _ => h.args _ _ _ _ _ hn
theorem WrL.block {d : Int} {s : PS} : Wr E s Vt (block E L d s) := by
  refine Wr.bind (V := Vt) ?_ fun _ _ _ _ => Wr.bind Wr.want fun _ _ _ _ => h.stmts _ _ _
  split
  · exact Wr.deep
  · exact Wr.ok trivial
omit h in
theorem pv {a : Int} {ex : List Ex} {u : PS} (hv : Vx a ex) (hu : ∃ n, u.ex = ex ++ n) : Vx a u.ex := by
  obtain ⟨n, e⟩ := hu; rw [e]; exact hv.up
theorem WrL.decl {d : Int} {s : PS} : Wr E s (fun x ex => WfS E ex x) (sDecl E L d s) := by
  refine Wr.bind Wr.knd fun nm u hu hn => ?_
  split
  · refine Wr.adv (Wr.bind Wr.knd fun w u2 hu2 hd => Wr.bind Wr.want fun _ u3 _ _ => Wr.ok (.inr (.inl ⟨rfl, hn, ?_, rfl, rfl⟩)))
    obtain ⟨z, z1, z2⟩ := hd
    exact ⟨z, z1, by rw [z2]⟩
  · exact Wr.bind Wr.want fun _ u2 _ _ => Wr.bind (h.expr _ _) fun a u3 _ hv => Wr.ok (.inl ⟨.inl rfl, hn, hv, rfl, rfl⟩)
theorem WrL.named {d : Int} {s : PS} : Wr E s (fun x ex => WfS E ex x) (sNamed E L d s) := by
  refine Wr.bind Wr.knd fun nm u hu hn => ?_
  split
  · exact Wr.bind (h.call hn) fun a u2 _ hv => Wr.ok (.inr (.inr (.inr (.inr (.inr (.inr (.inr (.inr ⟨rfl, hv.vx, hv, rfl, rfl⟩))))))))
  split
  · exact Wr.adv (Wr.bind (h.expr _ _) fun a u2 _ ha => Wr.bind Wr.want fun _ u3 p3 _ => Wr.bind Wr.want fun _ u4 p4 _ => Wr.bind (h.expr _ _) fun b u5 p5 hb => Wr.ok (.inr (.inr (.inl ⟨rfl, hn, pv (pv (pv ha p3) p4) p5, hb, rfl, rfl⟩))))
  · exact Wr.bind Wr.want fun _ u2 _ _ => Wr.bind (h.expr _ _) fun a u3 _ hv => Wr.ok (.inl ⟨.inr rfl, hn, hv, rfl, rfl⟩)
theorem wr_step : WrL E (stepL E L) := by
  constructor
  · intro v d s
    show Wr E s Vx (sRow E L v d s)
    unfold sRow
    split
    · exact h.unary _ _
    · exact Wr.bind (h.row _ _ _) fun a u _ hv => h.rows _ _ _ _ _ hv
  · intro v d fr a s ha
    show Wr E s Vx (sRows E L v d fr a s)
    unfold sRows
    split
    · rename_i hw
      refine Wr.adv (Wr.bind (h.row _ _ _) fun b u _ hb => Wr.bind (Wr.put (.inr (.inr (.inr (.inr (.inr (.inr ⟨rfl, ?_⟩))))))) fun c u2 _ hc => ?_)
      · unfold sgAll
        match v, hw with
        | 0, hw => exact List.mem_append.2 (.inl (List.mem_append.2 (.inl (List.mem_append.2 (.inl (List.mem_append.2 (.inl hw)))))))
        | 1, hw => exact List.mem_append.2 (.inl (List.mem_append.2 (.inl (List.mem_append.2 (.inl (List.mem_append.2 (.inr hw)))))))
        | 2, hw => exact List.mem_append.2 (.inl (List.mem_append.2 (.inl (List.mem_append.2 (.inr hw)))))
        | 3, hw => exact List.mem_append.2 (.inl (List.mem_append.2 (.inr hw)))
        | (v + 4), hw => exact List.mem_append.2 (.inr hw)
      · split
        · exact Wr.ok hc.vx
        · exact h.rows _ _ _ _ _ hc.vx
    · exact Wr.ok ha
  · intro d s
    exact Wr.bind Wr.deep fun _ _ _ _ => h.row _ _ _
  · intro d s
    show Wr E s Vx (sUnary E L d s)
    unfold sUnary
    split
    · rename_i hw
      exact Wr.adv (Wr.bind Wr.deep fun _ _ _ _ => Wr.bind (h.unary _ _) fun _ _ _ _ => (Wr.put (.inr (.inr (.inr (.inr (.inr (.inl ⟨rfl, hw⟩))))))).mono fun _ _ k => k.vx)
    · exact h.prim _ _
  · intro d s
    show Wr E s Vx (sPrim E L d s)
    unfold sPrim
    split
    · rename_i hk
      exact Wr.adv ((Wr.put (.inl ⟨rfl, s, hk, rfl⟩)).mono fun _ _ k => k.vx)
    split
    · exact Wr.adv ((Wr.put (.inr (.inl rfl))).mono fun _ _ k => k.vx)
    split
    · exact Wr.adv ((Wr.put (.inr (.inr (.inl rfl)))).mono fun _ _ k => k.vx)
    split
    · exact Wr.adv ((Wr.put (.inr (.inr (.inr (.inl rfl))))).mono fun _ _ k => k.vx)
    split
    · exact Wr.adv (Wr.bind (h.expr _ _) fun a u _ ha => Wr.bind Wr.want fun _ u2 p2 _ => Wr.ok (pv ha p2))
    · refine Wr.bind Wr.knd fun nm u _ hn => ?_
      split
      · exact Wr.adv (Wr.bind (h.expr _ _) fun a u2 _ ha => Wr.bind Wr.want fun _ u3 p3 _ => (Wr.put (x := { k := 5, nm := nm, a := a }) (.inr (.inr (.inr (.inr (.inl ⟨.inr (.inl rfl), hn⟩)))))).mono fun _ _ k => k.vx)
      split
      · exact (h.call hn).mono fun _ _ k => k.vx
      · exact (Wr.put (x := { k := 4, nm := nm }) (.inr (.inr (.inr (.inr (.inl ⟨.inl rfl, hn⟩)))))).mono fun _ _ k => k.vx
  · intro fr nm d l s hn
    show Wr E s (Vk 6) (sArgs E L fr nm d l s)
    unfold sArgs
    split
    · exact Wr.adv (Wr.put (.inr (.inr (.inr (.inr (.inl ⟨.inr (.inr rfl), hn⟩))))))
    · refine Wr.bind (V := Vt) ?_ fun _ u _ _ => Wr.bind (h.expr _ _) fun _ u2 _ _ => ?_
      · split
        · exact Wr.ok trivial
        · exact Wr.want
      · split
        · exact h.args _ _ _ _ _ hn
        · exact Wr.er
  · intro d l s
    show Wr E s Vt (sStmts E L d l s)
    unfold sStmts
    split
    · exact Wr.adv (Wr.ok trivial)
    · exact Wr.bind (h.stmt _ _) fun _ _ _ _ => h.stmts _ _ _
  · intro d s
    show Wr E s Vt (sStmt E L d s)
    unfold sStmt
    split
    · exact Wr.adv (Wr.bind h.decl fun _ _ _ hx => Wr.endS hx)
    split
    · exact Wr.adv (h.branch _ _ _)
    split
    · exact Wr.adv (Wr.bind (h.expr _ _) fun _ u _ ha => Wr.bind h.block fun _ u2 p2 _ => Wr.add (.inr (.inr (.inr (.inr (.inl ⟨rfl, pv ha p2, rfl⟩))))))
    split
    · exact Wr.adv (Wr.endS (.inr (.inr (.inr (.inr (.inr (.inl ⟨.inl rfl, rfl, rfl⟩)))))))
    split
    · exact Wr.adv (Wr.endS (.inr (.inr (.inr (.inr (.inr (.inl ⟨.inr rfl, rfl, rfl⟩)))))))
    split
    · split
      · exact Wr.adv (Wr.endS (.inr (.inr (.inr (.inr (.inr (.inr (.inl ⟨rfl, .inl rfl, rfl, rfl⟩))))))))
      · exact Wr.adv (Wr.bind (h.expr _ _) fun _ _ _ ha => Wr.endS (.inr (.inr (.inr (.inr (.inr (.inr (.inl ⟨rfl, .inr ha, rfl, rfl⟩))))))))
    split
    · exact Wr.adv (Wr.bind (h.expr _ _) fun _ _ _ ha => Wr.endS (.inr (.inr (.inr (.inr (.inr (.inr (.inr (.inl ⟨rfl, ha, rfl, rfl⟩)))))))))
    · exact Wr.bind h.named fun _ _ _ hx => Wr.endS hx
  · intro fr d s
    refine Wr.bind (h.expr _ _) fun a u _ ha => Wr.bind h.block fun th u2 p2 _ => ?_
    have ha2 := pv ha p2
    split
    · split
      · exact Wr.adv (Wr.bind Wr.deep fun _ u3 p3 _ => Wr.adv (Wr.bind (h.branch _ _ _) fun _ u4 p4 _ => Wr.add (.inr (.inr (.inr (.inl ⟨rfl, pv (pv ha2 p3) p4⟩))))))
      · exact Wr.adv (Wr.bind h.block fun _ u3 p3 _ => Wr.add (.inr (.inr (.inr (.inl ⟨rfl, pv ha2 p3⟩)))))
    · exact Wr.add (.inr (.inr (.inr (.inl ⟨rfl, ha2⟩))))
end
theorem wr_lv {E : Env} : ∀ n, WrL E (lv E n)
  | 0 => ⟨fun _ _ _ => Wr.out, fun _ _ _ _ _ _ => Wr.out, fun _ _ => Wr.out, fun _ _ => Wr.out, fun _ _ => Wr.out, fun _ _ _ _ _ _ => Wr.out, fun _ _ _ => Wr.out, fun _ _ => Wr.out, fun _ _ _ => Wr.out⟩
  | n + 1 => wr_step (wr_lv n)
section
variable {E : Env}
theorem Wr.prms : ∀ n l s, (∀ p ∈ l, Nam E p) → Wr E s (fun ps _ => ∀ p ∈ ps, Nam E p) (prms E n l s) := by
  intro n
  induction n with
  | zero => intro l s _; exact Wr.out
  | succ n ih =>
    intro l s hl
    unfold Sy.prms
    split
    · exact Wr.adv (Wr.ok hl)
    · refine Wr.bind (V := Vt) ?_ fun _ u _ _ => Wr.bind Wr.knd fun w u2 _ hn => ?_
      · split
        · exact Wr.ok trivial
        · exact Wr.want
      · split
        · refine ih _ _ fun p hp => ?_
          rcases List.mem_append.1 hp with hp | hp
          · exact hl p hp
          · rw [List.mem_singleton.1 hp]; exact hn
        · exact Wr.er
theorem Wr.fct {n : Nat} {s : PS} : Wr E s Vt (fct E n s) := by
  unfold Sy.fct
  refine Wr.bind (V := Vt) ?_ fun _ u0 _ _ => Wr.bind Wr.want fun _ u1 _ _ => Wr.bind Wr.knd fun nm u2 _ hn => Wr.bind Wr.want fun _ u3 _ _ => Wr.bind (Wr.prms _ _ _ (fun p hp => by cases hp)) fun ps u4 _ hp =>
    Wr.bind (V := fun ty _ => ty = 1 ∨ ty = 4) ?_ fun ty u5 _ ht => Wr.bind (wr_lv n).block fun bd u6 _ _ => ?_
  · split
    · exact Wr.er
    · exact Wr.ok trivial
  · split
    · exact Wr.adv (Wr.ok (.inl rfl))
    · exact Wr.ok (.inr rfl)
  · intro hw a t e
    cases e
    refine ⟨⟨hw.ex, hw.st, fun f hf => ?_⟩, ⟨[], by simp⟩, trivial⟩
    rcases List.mem_append.1 hf with hf | hf
    · exact hw.fn f hf
    · rw [List.mem_singleton.1 hf]; exact ⟨hn, hp, ht⟩
theorem Wr.fcts {m : Nat} : ∀ n s, Wr E s Vt (fcts E m n s) := by
  intro n
  induction n with
  | zero => intro s; exact Wr.out
  | succ n ih =>
    intro s
    unfold Sy.fcts
    split
    · exact Wr.ok trivial
    · exact Wr.bind Wr.fct fun _ _ _ _ => ih _
end
theorem prs_wf {L : List Int} {S : PS} (h : prs L = .ok () S) : Wf (envOf L) S := by
  obtain ⟨_, _, hf⟩ := txt_of h
  exact (Wr.fcts _ _ ⟨fun x hx => (by cases hx), fun x hx => (by cases hx), fun x hx => (by cases hx)⟩ _ _ hf).1
end Go.Proofs.Ytkllhfajldnpoaa.Sy
namespace Go.Proofs.Ytkllhfajldnpoaa.Ck
open Go Sy
set_option linter.unusedVariables false
/-- A name that stands: its text, block, slot. -/
abbrev Nm := List Int × Int × Int
/-- The names that stand, the block, in how many whiles; the slots' types. -/
structure KS where
  nm : List Nm
  bl : Int
  lo : Int
  sl : List (List Int)
def findA (s : List Int) : List Nm → Int → Int
  | [], z => z
  | e :: r, z => findA s r (if e.1 = s then e.2.2 else z)
def twA (s : List Int) (bl : Int) : List Nm → Bool → Bool
  | [], b => b
  | e :: r, b => twA s bl r (b || decide (e.1 = s ∧ e.2.1 = bl))
def slo (f : Nat) (k : KS) : List Int := k.sl.getD f []
def kdecl (f : Nat) (k : KS) (s : List Int) (kd : Int) : Option (KS × Int) :=
  if twA s k.bl k.nm false = false ∧ (slo f k).length < 64 then some ({ k with sl := k.sl.set f (slo f k ++ [kd]), nm := k.nm ++ [(s, k.bl, ((slo f k).length : Int))] }, (slo f k).length) else none
def kslot (f : Nat) (k : KS) (s : List Int) (arr : Bool) : Option Int :=
  if 0 ≤ findA s k.nm (-1) ∧ decide ((slo f k).getD (findA s k.nm (-1)).toNat 0 = 3) = arr then some (findA s k.nm (-1)) else none
def gx (S : PS) (i : Int) : Ex := S.ex.getD i.toNat { k := 0 }
def gt (S : PS) (i : Int) : St := S.st.getD i.toNat { k := 0 }
def gf (S : PS) (i : Int) : Sy.Fn := S.fn.getD i.toNat { nm := [] }
/-- Statements in a block of their own. -/
def kblk (st : KS → Int → Option KS) (bl : Int) : List Int → KS → Option KS
  | [], k => some k
  | j :: r, k => (st k j).bind fun k' => kblk st bl r { k' with bl := bl }
def kblock (st : KS → Int → Option KS) (l : List Int) (k : KS) : Option KS := (kblk st (k.bl + 1) l { k with bl := k.bl + 1 }).map fun k' => { k' with nm := k.nm, bl := k.bl }
def kbody (st : KS → Int → Option KS) : List Int → KS → Option KS
  | [], k => some k
  | j :: r, k => (st k j).bind fun k' => kbody st r k'
def wMain : List Int := [109, 97, 105, 110]
/-- Breaks, continues in whiles alone: at a statement, in a while or not. -/
inductive Jk (S : PS) : Prop → Int → Prop
  | mk {b : Prop} {i : Int} (h1 : (gt S i).k = 7 ∨ (gt S i).k = 8 → b) (h2 : (gt S i).k = 5 → ∀ j ∈ (gt S i).th ++ (gt S i).el, Jk S b j) (h3 : (gt S i).k = 6 → ∀ j ∈ (gt S i).th, Jk S True j) : Jk S b i
end Go.Proofs.Ytkllhfajldnpoaa.Ck
namespace Go.Proofs.Ytkllhfajldnpoaa.Ck
open Go Go.RowKit Fw Sy Rf
set_option linter.unusedVariables false
set_option maxRecDepth 20000
abbrev tInt : TypeId := 3
abbrev tInts : TypeId := 23
abbrev tName : TypeId := 131
abbrev tC : TypeId := 105
/-- A text is of bytes. -/
def Rgb (l : List Int) : Prop := ∀ c ∈ l, 0 ≤ c ∧ c < 256
/-- What is known of a program. -/
structure Pg (S : PS) : Prop where
  ex : ∀ (i : Nat) x, S.ex[i]? = some x → (∀ j ∈ prt x, 0 ≤ j ∧ j < i) ∧ (x.k = 4 ∨ x.k = 5 → Rgb x.nm) ∧ (x.k = 9 → Rgb x.op ∧ x.op ≠ [])
  st : ∀ (i : Nat) y, S.st[i]? = some y → (∀ j ∈ y.th ++ y.el, 0 ≤ j ∧ j < i) ∧ (y.k = 1 ∨ y.k = 2 ∨ y.k = 3 ∨ y.k = 4 → Rgb y.nm) ∧ (y.k = 1 ∨ y.k = 3 ∨ y.k = 4 ∨ y.k = 5 ∨ y.k = 6 ∨ y.k = 10 ∨ y.k = 11 → Vx y.a S.ex) ∧ (y.k = 4 → Vx y.b S.ex) ∧ (y.k = 9 → 0 ≤ y.a → Vx y.a S.ex)
  fn : ∀ (i : Nat) f, S.fn[i]? = some f → Rgb f.nm ∧ (∀ p ∈ f.ps, Rgb p) ∧ ∀ j ∈ f.bd, 0 ≤ j ∧ j < S.st.length
  n0 : S.fn ≠ []
  xb : S.ex.length ≤ 1000001
  sb : S.st.length ≤ 1000
  fb : S.fn.length ≤ 32
/-- Where a check began, the program, the tables. -/
structure Kc where
  w : World
  S : PS
  ux : Sl
  us : Sl
  uf : Sl
  ty : Sl
  sl : Sl
  pu : Sl
  fu : Sl
  so : Sl
/-- A state: where the names lie, what is known, the function, the error, its place; where the slots lie. -/
structure Kq where
  nm : Sl
  k : KS
  f : Nat
  c : Int
  p : Int
  vs : List Sl
def kc (X : Kc) (q : Kq) : List Value := [.slice X.ux.a X.ux.n X.ux.c, .slice X.us.a X.us.n X.us.c, .slice X.uf.a X.uf.n X.uf.c, .slice X.ty.a X.ty.n X.ty.c, .slice X.sl.a X.sl.n X.sl.c, .slice X.pu.a X.pu.n X.pu.c, .slice X.fu.a X.fu.n X.fu.c, .slice X.so.a X.so.n X.so.c,
  .int .i64 (q.f : Int), .slice q.nm.a q.nm.n q.nm.c, .int .i64 q.k.bl, .int .i64 q.k.lo, .int .i64 q.c, .int .i64 q.p]
abbrev kv (X : Kc) (q : Kq) : Value := .agg (kc X q).toArray
def nmC (e : Nm) : List Value := [sv e.1, .int .i64 e.2.1, .int .i64 e.2.2]
/-- What may change. -/
def Mx (X : Kc) (q : Kq) (b : Nat) : Prop := (X.ty.v.ownBlock = some b ∨ X.sl.v.ownBlock = some b ∨ X.pu.v.ownBlock = some b ∨ X.fu.v.ownBlock = some b) ∨ X.so.v.ownBlock = some b ∨ ∃ v ∈ q.vs, v.v.ownBlock = some b
structure Ak (X : Kc) (w : World) (q : Kq) : Prop where
  k0 : Kp No X.w w
  tr : Tr X.w X.ux.v X.us.v X.uf.v X.S
  pg : Pg X.S
  ty : ∃ cs, w.ownsRow X.w.heap.size tInt 1 X.ty.v X.S.ex.length cs
  sl : ∃ cs, w.ownsRow X.w.heap.size tInt 1 X.sl.v X.S.ex.length cs
  pu : ∃ cs, w.ownsRow X.w.heap.size tInt 1 X.pu.v X.S.st.length cs
  fu : ∃ cs, w.ownsRow X.w.heap.size tInt 1 X.fu.v X.S.st.length cs
  so : w.ownsRow X.w.heap.size tInts 1 X.so.v X.S.fn.length (q.vs.map Sl.v)
  vl : q.vs.length = X.S.fn.length
  kl : q.k.sl.length = X.S.fn.length
  inn : ∀ (i : Nat) v l, q.vs[i]? = some v → q.k.sl[i]? = some l → w.ownsRow X.w.heap.size tInt 1 v.v l.length (l.map (Value.int .i64))
  dj : ∀ (i j : Nat) v u b, q.vs[i]? = some v → q.vs[j]? = some u → v.v.ownBlock = some b → u.v.ownBlock = some b → i = j
  di : ∀ v ∈ q.vs, ∀ b, v.v.ownBlock = some b → ¬ (X.ty.v.ownBlock = some b ∨ X.sl.v.ownBlock = some b ∨ X.pu.v.ownBlock = some b ∨ X.fu.v.ownBlock = some b)
  nm : w.ownsRow X.w.heap.size tName 3 q.nm.v q.k.nm.length (q.k.nm.flatMap nmC)
  nr : ∀ e ∈ q.k.nm, Rgb e.1 ∧ 0 ≤ e.2.2 ∧ e.2.2 < (slo q.f q.k).length
  nb : q.k.nm.length ≤ (slo q.f q.k).length
  ff : q.f < X.S.fn.length
  sb : ∀ l ∈ q.k.sl, l.length ≤ 64
structure Gk (X : Kc) (w : World) (q : Kq) (w' : World) (q' : Kq) : Prop where
  kp : Kp (Mx X q) w w'
  fr : ∀ b, b < w.heap.size → Mx X q' b → Mx X q b
theorem Gk.refl (X : Kc) (w : World) (q : Kq) : Gk X w q w q := ⟨Kp.refl _ _, fun _ _ h => h⟩
theorem Gk.trans {X : Kc} {w w1 w2 : World} {q q1 q2 : Kq} (h : Gk X w q w1 q1) (k : Gk X w1 q1 w2 q2) : Gk X w q w2 q2 :=
  ⟨h.kp.trans k.kp fun i hi hs => h.fr i hi hs, fun b hb hs => h.fr b hb (k.fr b (Nat.lt_of_lt_of_le hb h.kp.size) hs)⟩
theorem Gk.no {X : Kc} {w w1 w2 : World} {q q1 : Kq} (h : Gk X w q w1 q1) (k : Kp No w1 w2) : Gk X w q w2 q1 := ⟨h.kp.no k, h.fr⟩
theorem Gk.own {X : Kc} {w w1 w2 : World} {q q1 : Kq} {b : Nat} (h : Gk X w q w1 q1) (k : Kp (fun i => i = b) w1 w2) (hb : w.heap.size ≤ b) : Gk X w q w2 q1 :=
  ⟨h.kp.trans k fun i hi e => (by omega), h.fr⟩
/-- Types that a check's own memory hasn't. -/
def okK (e : TypeId) : Bool := !(Nat.beq e tInt || Nat.beq e tInts)
theorem own_ge {w : World} {base : Nat} {e : TypeId} {size : Nat} {v : Value} {n : Nat} {cs : List Value} (h : w.ownsRow base e size v n cs) {g : Nat} (hg : v.ownBlock = some g) : base ≤ g := (own_lt h hg).1
section
variable {X : Kc} {w0 w w' : World} {q0 q q' : Kq}
theorem Ak.inner (h : Ak X w q) {v : Sl} (hv : v ∈ q.vs) : ∃ l : List Int, w.ownsRow X.w.heap.size tInt 1 v.v l.length (l.map (Value.int .i64)) := by
  obtain ⟨i, hi⟩ := List.getElem?_of_mem hv
  have hl : i < q.k.sl.length := by rw [h.kl, ← h.vl]; exact (List.getElem?_eq_some_iff.1 hi).1
  exact ⟨_, h.inn i v _ hi (List.getElem?_eq_getElem hl)⟩
theorem Ak.mx (h : Ak X w q) {b : Nat} (hs : Mx X q b) : X.w.heap.size ≤ b ∧ ∃ cur e, w.heap[b]? = some (.cells cur e (0, 0)) ∧ (e = tInt ∨ e = tInts) := by
  have one : ∀ {v : Value} {n : Nat} {cs : List Value} {e : TypeId}, w.ownsRow X.w.heap.size e 1 v n cs → v.ownBlock = some b → (e = tInt ∨ e = tInts) → X.w.heap.size ≤ b ∧ ∃ cur e, w.heap[b]? = some (.cells cur e (0, 0)) ∧ (e = tInt ∨ e = tInts) := fun ho hb he => by
    obtain ⟨c, hc⟩ := own_ty ho hb
    exact ⟨own_ge ho hb, c, _, hc, he⟩
  obtain ⟨c1, h1⟩ := h.ty
  obtain ⟨c2, h2⟩ := h.sl
  obtain ⟨c3, h3⟩ := h.pu
  obtain ⟨c4, h4⟩ := h.fu
  rcases hs with (hs | hs | hs | hs) | hs | ⟨v, hv, hs⟩
  · exact one h1 hs (.inl rfl)
  · exact one h2 hs (.inl rfl)
  · exact one h3 hs (.inl rfl)
  · exact one h4 hs (.inl rfl)
  · exact one h.so hs (.inr rfl)
  · obtain ⟨l, hl⟩ := h.inner hv
    exact one hl hs (.inl rfl)
theorem Ak.nsx (h : Ak X w q) {g : Nat} {cur : Array Value} {e : TypeId} {fz : Nat × Nat} (hg : w.heap[g]? = some (.cells cur e fz)) (he : okK e = true) : ¬ Mx X q g := fun hs => by
  simp only [okK, Bool.not_eq_true', Bool.or_eq_false_iff] at he
  obtain ⟨_, c, e', hc, e1 | e1⟩ := h.mx hs
  · subst e1; exact ty_ne hg hc he.1 rfl
  · subst e1; exact ty_ne hg hc he.2 rfl
theorem own_gk (h : Ak X w q) (k : Kp (Mx X q) w w') {base : Nat} {e : TypeId} {size : Nat} {v : Value} {n : Nat} {cs : List Value} (ho : w.ownsRow base e size v n cs) (he : okK e = true) : w'.ownsRow base e size v n cs :=
  own_kp ho k fun g hg => by
    obtain ⟨c, hc⟩ := own_ty ho hg
    exact h.nsx hc he
/-- All is kept where nothing of it changes. -/
theorem Ak.kp {T : Nat → Prop} (h : Ak X w q) (k : Kp T w w') (h0 : ∀ b, T b → X.w.heap.size ≤ b) (h1 : ∀ b, Mx X q b → ¬ T b) (h2 : ∀ b, q.nm.v.ownBlock = some b → ¬ T b) : Ak X w' q := by
  obtain ⟨c1, o1⟩ := h.ty
  obtain ⟨c2, o2⟩ := h.sl
  obtain ⟨c3, o3⟩ := h.pu
  obtain ⟨c4, o4⟩ := h.fu
  refine ⟨h.k0.from0' k fun i hi e => (by have := h0 i e; omega), h.tr, h.pg, ⟨c1, own_kp o1 k fun g hg => h1 g (.inl (.inl hg))⟩, ⟨c2, own_kp o2 k fun g hg => h1 g (.inl (.inr (.inl hg)))⟩, ⟨c3, own_kp o3 k fun g hg => h1 g (.inl (.inr (.inr (.inl hg))))⟩, ⟨c4, own_kp o4 k fun g hg => h1 g (.inl (.inr (.inr (.inr hg))))⟩,
    own_kp h.so k fun g hg => h1 g (.inr (.inl hg)), h.vl, h.kl, fun i v l hv hl => own_kp (h.inn i v l hv hl) k fun g hg => h1 g (.inr (.inr ⟨v, List.mem_of_getElem? hv, hg⟩)), h.dj, h.di, own_kp h.nm k h2, h.nr, h.nb, h.ff, h.sb⟩
theorem Ak.no (h : Ak X w q) (k : Kp No w w') : Ak X w' q := h.kp k (fun _ h => h.elim) (fun _ _ h => h) fun _ _ h => h
theorem Ak.box {b : Nat} {cs : Array Value} {T : TypeId} (h : Ak X w q) (k : Kp (fun i => i = b) w w') (hb : w.heap[b]? = some (.cells cs T (0, 0))) (hs : ¬ Mx X q b) (hg : X.w.heap.size ≤ b) (hT : Nat.beq tName T = false) : Ak X w' q :=
  h.kp k (fun i e => e ▸ hg) (fun i hi e => hs (e ▸ hi)) fun i hi e => by
    obtain ⟨c, hc⟩ := own_ty h.nm hi
    exact ty_ne hc hb hT e
structure Sk (X : Kc) (w0 : World) (q0 : Kq) (w : World) (q : Kq) : Prop where
  at_ : Ak X w q
  gs : Gk X w0 q0 w q
theorem Sk.start (h : Ak X w q) : Sk X w q w q := ⟨h, Gk.refl _ _ _⟩
theorem Sk.no (h : Sk X w0 q0 w q) (k : Kp No w w') : Sk X w0 q0 w' q := ⟨h.at_.no k, h.gs.no k⟩
theorem Sk.call (h : Sk X w0 q0 w q) (k : Sk X w q w' q') : Sk X w0 q0 w' q' := ⟨k.at_, h.gs.trans k.gs⟩
end
/-- The state, and boxes of our own. -/
structure Wk (X : Kc) (w0 : World) (q0 : Kq) (w : World) (q : Kq) (l : List (Nat × List Value × TypeId)) : Prop where
  sg : Sk X w0 q0 w q
  g0 : X.w.heap.size ≤ w0.heap.size
  bx : ∀ (i b : Nat) (cs : List Value) (T : TypeId), l[i]? = some (b, cs, T) → w0.heap.size ≤ b ∧ w.heap[b]? = some (.cells cs.toArray T (0, 0)) ∧ ¬ Mx X q b
  nd : ∀ (i j b : Nat) (cs cs' : List Value) (T T' : TypeId), l[i]? = some (b, cs, T) → l[j]? = some (b, cs', T') → i = j
section
variable {X : Kc} {w0 w w' : World} {q0 q q' : Kq} {l : List (Nat × List Value × TypeId)}
theorem Wk.start (h : Ak X w q) : Wk X w q w q [] := ⟨Sk.start h, h.k0.size, fun i b cs T h => by simp at h, fun i j b cs cs' T T' h => by simp at h⟩
theorem Wk.at_ (h : Wk X w0 q0 w q l) : Ak X w q := h.sg.at_
theorem Wk.blk (h : Wk X w0 q0 w q l) (i : Nat) {b : Nat} {cs : List Value} {T : TypeId} (hi : l[i]? = some (b, cs, T)) : w.heap[b]? = some (.cells cs.toArray T (0, 0)) := (h.bx i b cs T hi).2.1
theorem Wk.no (h : Wk X w0 q0 w q l) (k : Kp No w w') : Wk X w0 q0 w' q l := ⟨h.sg.no k, h.g0, fun i b cs T hi => ⟨(h.bx i b cs T hi).1, k.get0 (h.bx i b cs T hi).2.1, (h.bx i b cs T hi).2.2⟩, h.nd⟩
theorem Mx.lt (h : Ak X w q) {b : Nat} (hs : Mx X q b) : b < w.heap.size := by
  obtain ⟨_, c, e, hc, _⟩ := h.mx hs
  exact lt_of_get hc
theorem Wk.new (h : Wk X w0 q0 w q l) {b : Nat} {cs : List Value} {T : TypeId} (n : Nb w b cs T w') : Wk X w0 q0 w' q ((b, cs, T) :: l) := by
  have h' := h.no n.kp
  have hz := h.sg.gs.kp.size
  have old : ∀ {i b' : Nat} {cs' : List Value} {T' : TypeId}, l[i]? = some (b', cs', T') → b' ≠ b := fun hi e => by
    have := lt_of_get (h.bx _ _ _ _ hi).2.1
    have := n.ge
    omega
  refine ⟨h'.sg, h.g0, fun i b' cs' T' hi => ?_, fun i j b' cs1 cs2 T1 T2 hi hj => ?_⟩
  · cases i with
    | zero =>
      simp at hi
      obtain ⟨rfl, rfl, rfl⟩ := hi
      exact ⟨Nat.le_trans hz n.ge, n.blk, fun hs => by have := Mx.lt h.at_ hs; have := n.ge; omega⟩
    | succ i => exact h'.bx i b' cs' T' (by simpa using hi)
  · cases i with
    | zero =>
      cases j with
      | zero => rfl
      | succ j =>
        simp at hi hj
        exact (old hj hi.1.symm).elim
    | succ i =>
      cases j with
      | zero => simp at hi hj; exact (old hi hj.1.symm).elim
      | succ j => rw [h.nd i j b' cs1 cs2 T1 T2 (by simpa using hi) (by simpa using hj)]
theorem Wk.call (h : Wk X w0 q0 w q l) (k : Sk X w q w' q') : Wk X w0 q0 w' q' l :=
  ⟨h.sg.call k, h.g0, fun i b cs T hi => ⟨(h.bx i b cs T hi).1, k.gs.kp.get (h.bx i b cs T hi).2.1 (h.bx i b cs T hi).2.2, fun hs => (h.bx i b cs T hi).2.2 (k.gs.fr b (lt_of_get (h.bx i b cs T hi).2.1) hs)⟩, h.nd⟩
theorem Wk.put (h : Wk X w0 q0 w q l) (i : Nat) {b : Nat} {cs cs' : List Value} {T : TypeId} (hi : l[i]? = some (b, cs, T)) (k : Sb w b cs' T w') (hT : Nat.beq tName T = false) : Wk X w0 q0 w' q (l.set i (b, cs', T)) := by
  obtain ⟨h1, h2, h3⟩ := h.bx i b cs T hi
  have hl : i < l.length := by
    rcases Nat.lt_or_ge i l.length with h | h
    · exact h
    · rw [List.getElem?_eq_none h] at hi; cases hi
  have at' : ∀ {j b' cs1 T1}, (l.set i (b, cs', T))[j]? = some (b', cs1, T1) → ∃ cs2, l[j]? = some (b', cs2, T1) := fun {j b' cs1 T1} hj => by
    rw [List.getElem?_set] at hj
    split at hj
    · rename_i e
      subst e
      cases hj
      exact ⟨cs, hi⟩
    · exact ⟨cs1, hj⟩
  refine ⟨⟨h.at_.box k.kp h2 h3 (Nat.le_trans h.g0 h1) hT, h.sg.gs.own k.kp h1⟩, h.g0, fun j b' cs1 T1 hj => ?_, fun j1 j2 b' cs1 cs2 T1 T2 hj1 hj2 => ?_⟩
  · rw [List.getElem?_set] at hj
    split at hj
    · cases hj
      exact ⟨h1, k.blk, h3⟩
    · rename_i hne
      obtain ⟨k1, k2, k3⟩ := h.bx j b' cs1 T1 hj
      exact ⟨k1, k.kp.get k2 fun e => hne (by subst e; exact h.nd _ _ _ _ _ _ _ hi hj), k3⟩
  · obtain ⟨_, e1⟩ := at' hj1
    obtain ⟨_, e2⟩ := at' hj2
    exact h.nd _ _ _ _ _ _ _ e1 e2
theorem Wk.mv (G : Wk X w0 q0 w q l) (k : Sk X w q w q') : Wk X w0 q0 w q' l := G.call k
theorem Wk.drop (G : Wk X w0 q0 w q l) (k : Nat) : Wk X w0 q0 w q (l.drop k) :=
  ⟨G.sg, G.g0, fun i b cs T h => G.bx (k + i) b cs T (by rw [← List.getElem?_drop]; exact h), fun i j b cs cs' T T' h h' => by
    have := G.nd (k + i) (k + j) b cs cs' T T' (by rw [← List.getElem?_drop]; exact h) (by rw [← List.getElem?_drop]; exact h')
    omega⟩
end
def needQ (ok : Bool) (p c : Int) (q : Kq) : Kq := if q.c = 0 ∧ ok = false then { q with c := c, p := p } else q
section
variable {X : Kc} {w : World} {q : Kq}
/-- An error, or none: no memory changes. -/
theorem Ak.err (h : Ak X w q) (c p : Int) : Ak X w { q with c := c, p := p } := ⟨h.k0, h.tr, h.pg, h.ty, h.sl, h.pu, h.fu, h.so, h.vl, h.kl, h.inn, h.dj, h.di, h.nm, h.nr, h.nb, h.ff, h.sb⟩
theorem Sk.err (h : Ak X w q) (c p : Int) : Sk X w q w { q with c := c, p := p } := ⟨h.err c p, Kp.refl _ _, fun _ _ h => h⟩
theorem Sk.need (h : Ak X w q) (ok : Bool) (p c : Int) : Sk X w q w (needQ ok p c q) := by
  unfold needQ
  split
  · exact Sk.err h c p
  · exact Sk.start h
theorem need_c {ok : Bool} {p c : Int} (hc : c ≠ 0) : (needQ ok p c q).c = 0 ↔ q.c = 0 ∧ ok = true := by
  unfold needQ
  split
  · rename_i h; simp [hc, h.2]
  · rename_i h
    constructor
    · intro e; exact ⟨e, by cases ok; exact (h ⟨e, rfl⟩).elim; rfl⟩
    · exact fun h => h.1
theorem need_eq {ok : Bool} {p c : Int} : ∃ c' p', needQ ok p c q = { q with c := c', p := p' } := by
  unfold needQ
  split
  · exact ⟨_, _, rfl⟩
  · exact ⟨q.c, q.p, rfl⟩
end
end Go.Proofs.Ytkllhfajldnpoaa.Ck
namespace Go.Proofs.Ytkllhfajldnpoaa.Fw
open Go Go.RowKit
section
variable {P : Program} {w : World} {S : World → Prop} {n : Nat} {l : Slots} {ds : List Deferred} {q : Pst P} {z : Nat} {ty : TypeId} {pos : String} {af : Array Edge} {v : Value} {rest : List (Nat × Bool × Oper)} {os : List Oper} {ops : Array Oper} {d i : Nat} {op : Op}
theorem h_gv {j : Nat} {b : Bool} (hy : ylk os n l j = some (.bool b)) (hS : S w) (hr : ∀ w, S w → Rn P (ev n l) ⟨some d, op, ty, pos, af, some (j, b)⟩ w (.ok (.value v) w)) (h : Wo P os.toArray q S z rest n ((d, v) :: l) ds w) :
    Wo P os.toArray q S z ((i, false, ⟨some d, op, ty, pos, af, some (j, b)⟩) :: rest) n l ds w := by
  refine ⟨hS, v, .inl ⟨by simp [Region.wanted, A, ylk_eq hy], fun w hw => by rw [eval_A]; exact (hr w hw).eq⟩, ?_⟩
  rw [put_A]; exact h.up
theorem h_gn {j : Nat} {b b' : Bool} (hy : ylk os n l j = some (.bool b')) (hb : (b' == b) = false) (hS : S w) (h : Wo P os.toArray q S z rest n ((d, undef) :: l) ds w) :
    Wo P os.toArray q S z ((i, false, ⟨some d, op, ty, pos, af, some (j, b)⟩) :: rest) n l ds w := by
  have hb2 : ¬ b' = b := by simpa using hb
  refine ⟨hS, undef, .inr ⟨by simp [Region.wanted, A, ylk_eq hy, hb2], rfl⟩, ?_⟩
  rw [put_A]; exact h.up
theorem h_gu {j : Nat} {b : Bool} (hy : ylk os n l j = some (.tuple #[])) (hS : S w) (h : Wo P os.toArray q S z rest n ((d, undef) :: l) ds w) :
    Wo P os.toArray q S z ((i, false, ⟨some d, op, ty, pos, af, some (j, b)⟩) :: rest) n l ds w := by
  refine ⟨hS, undef, .inr ⟨by simp [Region.wanted, A, ylk_none hy], rfl⟩, ?_⟩
  rw [put_A]; exact h.up
theorem Zhq (h : Wo P ops q S z rest n ((d, v) :: l) ds w) (hS : S w := by assumption) (hr : ∀ w, S w → Rn P (ev n l) ⟨some d, op, ty, pos, af, none⟩ w (.ok (.value v) w) := by intro w' hw; first | exact r_mv rfl | exact r_as rfl | exact r_nc rfl | exact r_fa rfl rfl | exact r_bin rfl | exact r_len rfl | exact r_not rfl | exact r_fd rfl | exact r_ex rfl | exact r_bd rfl | exact r_pt rfl rfl | exact r_pf rfl rfl | exact r_add rfl rfl (by omega) | exact r_sub rfl rfl (by omega) | exact r_ia rfl rfl rfl rfl (by omega) (by omega) | exact r_ld rfl rfl (by first | solve_by_elim | exact cell_of_blk (by solve_by_elim) (by rfl)) | exact r_ldw rfl (by solve_by_elim) rfl rfl) : Wo P ops q S z ((i, false, ⟨some d, op, ty, pos, af, none⟩) :: rest) n l ds w := h_v hS hr h
theorem Zhgv {j : Nat} {b : Bool} (h : Wo P os.toArray q S z rest n ((d, v) :: l) ds w) (hy : ylk os n l j = some (.bool b) := by rfl) (hS : S w := by assumption) (hr : ∀ w, S w → Rn P (ev n l) ⟨some d, op, ty, pos, af, some (j, b)⟩ w (.ok (.value v) w) := by intro w' hw; first | exact r_mv rfl | exact r_as rfl | exact r_nc rfl | exact r_fa rfl rfl | exact r_bin rfl | exact r_len rfl | exact r_not rfl | exact r_fd rfl | exact r_ex rfl | exact r_bd rfl | exact r_pt rfl rfl | exact r_pf rfl rfl | exact r_add rfl rfl (by omega) | exact r_sub rfl rfl (by omega) | exact r_ia rfl rfl rfl rfl (by omega) (by omega) | exact r_ld rfl rfl (by first | solve_by_elim | exact cell_of_blk (by solve_by_elim) (by rfl)) | exact r_ldw rfl (by solve_by_elim) rfl rfl) : Wo P os.toArray q S z ((i, false, ⟨some d, op, ty, pos, af, some (j, b)⟩) :: rest) n l ds w := h_gv hy hS hr h
theorem Zhgn {j : Nat} {b b' : Bool} (h : Wo P os.toArray q S z rest n ((d, undef) :: l) ds w) (hy : ylk os n l j = some (.bool b') := by rfl) (hb : (b' == b) = false := by rfl) (hS : S w := by assumption) : Wo P os.toArray q S z ((i, false, ⟨some d, op, ty, pos, af, some (j, b)⟩) :: rest) n l ds w := h_gn hy hb hS h
theorem Zhgu {j : Nat} {b : Bool} (h : Wo P os.toArray q S z rest n ((d, undef) :: l) ds w) (hy : ylk os n l j = some (.tuple #[]) := by rfl) (hS : S w := by assumption) : Wo P os.toArray q S z ((i, false, ⟨some d, op, ty, pos, af, some (j, b)⟩) :: rest) n l ds w := h_gu hy hS h
end
end Go.Proofs.Ytkllhfajldnpoaa.Fw
namespace Go.Proofs.Ytkllhfajldnpoaa.Ck
open Go Go.RowKit Fw Sy Rf
set_option linter.unusedVariables false
set_option maxRecDepth 20000
section
variable {X : Kc} {w : World} {q : Kq}
theorem sv_eq {a b : List Int} (ha : Rgb a) (hb : Rgb b) : ((strOfNums a).toList == (strOfNums b).toList) = decide (a = b) := by
  rw [str_eq, B_nums ha, B_nums hb]
theorem needF (h : Ak X w q) (ok : Bool) (p c : Int) : Ret Try.prog 45 [kv X q, .bool ok, .int .i64 p, .int .i64 c] w fun v w1 => v = kv X (needQ ok p c q) ∧ Kp No w w1 := by
  refine ret_enter Try.func45 rfl Try.ntmps45 rfl ?_
  (repeat refine Zlr ?_)
  refine s_box (cs := kc X q) rfl rfl (fun b w1 n => ?_)
  have G := (Wk.start h).new n
  (repeat refine Zlr ?_)
  refine s_al rfl (fun b2 w2 n2 => ?_)
  have G := G.new n2
  have h0 := G.blk 0 rfl; try have h1 := G.blk 1 rfl; try have h2 := G.blk 2 rfl; try have h3 := G.blk 3 rfl; try have h4 := G.blk 4 rfl; try have h5 := G.blk 5 rfl
  have k2 := n.kp.no n2.kp
  (repeat refine Zlr ?_)
  have good : ¬ (q.c = 0 ∧ ok = false) → needQ ok p c q = q := fun h => if_neg h
  by_cases hc : q.c = 0
  · refine s_set 12 true rfl (beq_iff_eq.2 hc) ?_
    (repeat (first | refine Zlr ?_ | refine Zn ?_ | refine Zu ?_ | refine Zg ?_ | refine Zgl ?_))
    cases ok with
    | false =>
      refine c_t rfl ?_
      have e : needQ false p c q = { q with c := c, p := p } := if_pos ⟨hc, rfl⟩
      rw [e]
      (repeat refine Zlr ?_)
      refine s_st (vs := [.int .i64 c]) rfl rfl rfl rfl rfl h1 (Nat.le_of_ble_eq_true rfl) (fun w3 s3 => ?_)
      have s3 : Sb w2 b (kc X { q with c := c }) tC w3 := s3
      have G := G.put 1 rfl s3 rfl
      have h0 := G.blk 0 rfl; try have h1 := G.blk 1 rfl; try have h2 := G.blk 2 rfl; try have h3 := G.blk 3 rfl; try have h4 := G.blk 4 rfl; try have h5 := G.blk 5 rfl
      (repeat refine Zlr ?_)
      refine s_st (vs := [.int .i64 p]) rfl rfl rfl rfl rfl h1 (Nat.le_of_ble_eq_true rfl) (fun w4 s4 => ?_)
      have s4 : Sb w3 b (kc X { q with c := c, p := p }) tC w4 := s4
      have G := G.put 1 rfl s4 rfl
      have h0 := G.blk 0 rfl; try have h1 := G.blk 1 rfl; try have h2 := G.blk 2 rfl; try have h3 := G.blk 3 rfl; try have h4 := G.blk 4 rfl; try have h5 := G.blk 5 rfl
      (repeat refine Zlr ?_)
      refine s_stw (vs := kc X { q with c := c, p := p }) rfl rfl rfl rfl rfl h0 rfl (fun w5 s5 => ?_)
      have G := G.put 0 rfl s5 rfl
      have h0 := G.blk 0 rfl; try have h1 := G.blk 1 rfl; try have h2 := G.blk 2 rfl; try have h3 := G.blk 3 rfl; try have h4 := G.blk 4 rfl; try have h5 := G.blk 5 rfl
      (repeat refine Zlr ?_)
      refine ret_c1 rfl (rv_agw rfl h0 rfl rfl) ⟨rfl, ((k2.from0' s3.kp fun i hi e => ?_).from0' s4.kp fun i hi e => ?_).from0' s5.kp fun i hi e => ?_⟩
      · have := n.ge; omega
      · have := n.ge; omega
      · have := n2.ge; have := n.kp.size; omega
    | true =>
      refine c_f rfl ?_
      rw [good (fun h => by cases h.2)]
      (repeat refine Zlr ?_)
      refine s_stw (vs := kc X q) rfl rfl rfl rfl rfl h0 rfl (fun w5 s5 => ?_)
      have G := G.put 0 rfl s5 rfl
      have h0 := G.blk 0 rfl; try have h1 := G.blk 1 rfl; try have h2 := G.blk 2 rfl; try have h3 := G.blk 3 rfl; try have h4 := G.blk 4 rfl; try have h5 := G.blk 5 rfl
      (repeat refine Zlr ?_)
      exact ret_c1 rfl (rv_agw rfl h0 rfl rfl) ⟨rfl, k2.from0' s5.kp fun i hi e => by have := n2.ge; have := n.kp.size; omega⟩
  · refine s_set 12 false rfl (beq_eq_false_iff_ne.2 hc) ?_
    (repeat (first | refine Zlr ?_ | refine Zn ?_ | refine Zu ?_ | refine Zg ?_ | refine Zgl ?_))
    refine c_f rfl ?_
    rw [good (fun h => hc h.1)]
    (repeat refine Zlr ?_)
    refine s_stw (vs := kc X q) rfl rfl rfl rfl rfl h0 rfl (fun w5 s5 => ?_)
    have G := G.put 0 rfl s5 rfl
    have h0 := G.blk 0 rfl; try have h1 := G.blk 1 rfl; try have h2 := G.blk 2 rfl; try have h3 := G.blk 3 rfl; try have h4 := G.blk 4 rfl; try have h5 := G.blk 5 rfl
    (repeat refine Zlr ?_)
    exact ret_c1 rfl (rv_agw rfl h0 rfl rfl) ⟨rfl, k2.from0' s5.kp fun i hi e => by have := n2.ge; have := n.kp.size; omega⟩
/-- Where the names lie. -/
theorem Ak.names (h : Ak X w q) {i : Nat} {e : Nm} (he : q.k.nm[i]? = some e) : ∃ b, q.nm.a = some ⟨b, 0, none⟩ ∧ q.nm.n = q.k.nm.length ∧ w.cell? ⟨b, 0 + (i : Int).toNat * 3, none⟩ = some (sv e.1) ∧ w.cell? ⟨b, 0 + (i : Int).toNat * 3 + 1, none⟩ = some (.int .i64 e.2.1) ∧ w.cell? ⟨b, 0 + (i : Int).toNat * 3 + 2, none⟩ = some (.int .i64 e.2.2) := by
  obtain ⟨a, c, e1, hnc, h0, hr⟩ := own_read h.nm
  simp only [Value.slice.injEq] at e1
  obtain ⟨rfl, e2, rfl⟩ := e1
  have hi := (List.getElem?_eq_some_iff.1 he).1
  cases ha : q.nm.a with
  | none => have := h0 ha; omega
  | some ad =>
    obtain ⟨b, rfl, _, _, hc⟩ := hr _ ha
    refine ⟨b, rfl, e2, ?_, ?_, ?_⟩
    · exact hc _ _ (flat_get (f := nmC) (sz := 3) (fun _ => rfl) q.k.nm i 0 e he (by decide))
    · exact hc _ _ (flat_get (f := nmC) (sz := 3) (fun _ => rfl) q.k.nm i 1 e he (by decide))
    · exact hc _ _ (flat_get (f := nmC) (sz := 3) (fun _ => rfl) q.k.nm i 2 e he (by decide))
theorem Ak.nlen (h : Ak X w q) : q.nm.n = q.k.nm.length ∧ q.k.nm.length ≤ 64 := by
  obtain ⟨a, c, e1, _⟩ := own_read h.nm
  simp only [Value.slice.injEq] at e1
  refine ⟨e1.2.1, ?_⟩
  have h1 := h.nb
  have hf : q.f < q.k.sl.length := by rw [h.kl]; exact h.ff
  have h2 : slo q.f q.k = q.k.sl[q.f] := by unfold slo; rw [List.getD_eq_getElem?_getD, List.getElem?_eq_getElem hf]; rfl
  have := h.sb _ (List.getElem_mem hf)
  rw [h2] at h1; omega
theorem findA_app (s : List Int) : ∀ (l m : List Nm) (z : Int), findA s (l ++ m) z = findA s m (findA s l z) := by
  intro l
  induction l with
  | nil => intro m z; rfl
  | cons e r ih => intro m z; exact ih _ _
theorem findF (h : Ak X w q) (s : List Int) (hs : Rgb s) : Ret Try.prog 76 [kv X q, sv s] w fun v w1 => v = .int .i64 (findA s q.k.nm (-1)) ∧ Kp No w w1 := by
  obtain ⟨hn1, hn2⟩ := h.nlen
  refine ret_enter Try.func76 rfl Try.ntmps76 rfl ?_
  (repeat refine Zlr ?_)
  refine s_box (cs := kc X q) rfl rfl (fun b w1 n => ?_)
  have G := (Wk.start h).new n
  have h0 := G.blk 0 rfl; try have h1 := G.blk 1 rfl; try have h2 := G.blk 2 rfl; try have h3 := G.blk 3 rfl; try have h4 := G.blk 4 rfl; try have h5 := G.blk 5 rfl
  (repeat refine Zlr ?_)
  refine k_loop (σ := Nat) (fun i => [(1, sv s), (2, .pointer (some ⟨b, 0, none⟩)), (5, .int .i64 (findA s (q.k.nm.take i) (-1))), (9, .int .i64 (q.nm.n : Int)), (10, .int .i64 (i : Int))]) (fun i w' => w' = w1 ∧ i ≤ q.k.nm.length) (fun i => q.k.nm.length - i) 0 ⟨rfl, rfl, rfl, rfl, rfl, trivial⟩ ⟨rfl, Nat.zero_le _⟩ ?_
  rintro i l w' ⟨rfl, hi⟩
  (repeat refine Zlr ?_)
  refine c_dec rfl (fun hlt => ?_) (fun hge => ?_)
  · have hlt : i < q.k.nm.length := by omega
    obtain ⟨e, he⟩ : ∃ e, q.k.nm[i]? = some e := ⟨_, List.getElem?_eq_getElem hlt⟩
    obtain ⟨b5, ha, _, c1, c2, c3⟩ := G.at_.names he
    have hst : findA s (q.k.nm.take (i + 1)) (-1) = if e.1 = s then e.2.2 else findA s (q.k.nm.take i) (-1) := by
      rw [List.take_add_one, he, findA_app]; rfl
    have hre := (h.nr e (List.mem_of_getElem? he)).1
    have hna : Value.slice q.nm.a q.nm.n q.nm.c = .slice (some ⟨b5, 0, none⟩) q.nm.n q.nm.c := by rw [ha]
    (repeat refine Zlr ?_)
    refine s_v (r_ia rfl rfl hna rfl (by omega) (by omega)) ?_
    (repeat refine Zlr ?_)
    refine c_b rfl (fun hb => ?_) (fun hb => ?_)
    · have hb : ((strOfNums e.1).toList == (strOfNums s).toList) = true := hb
      rw [sv_eq hre hs] at hb
      rw [if_pos (of_decide_eq_true hb)] at hst
      (repeat refine Zlr ?_)
      refine s_v (r_ia rfl rfl hna rfl (by omega) (by omega)) ?_
      (repeat refine Zlr ?_)
      exact l_next (i + 1) ⟨rfl, rfl, by rw [hst]; rfl, rfl, rfl, trivial⟩ ⟨rfl, hlt⟩ (by omega)
    · have hb : ((strOfNums e.1).toList == (strOfNums s).toList) = false := hb
      rw [sv_eq hre hs] at hb
      rw [if_neg (of_decide_eq_false hb)] at hst
      (repeat refine Zlr ?_)
      exact l_next (i + 1) ⟨rfl, rfl, by rw [hst]; rfl, rfl, rfl, trivial⟩ ⟨rfl, hlt⟩ (by omega)
  · (repeat refine Zlr ?_)
    have : i = q.k.nm.length := by omega
    refine ret_1 rfl rfl ⟨?_, n.kp⟩
    rw [this, List.take_length]
theorem findA_mem (s : List Int) : ∀ (l : List Nm) (z : Int), findA s l z = z ∨ ∃ e ∈ l, findA s l z = e.2.2 := by
  intro l
  induction l with
  | nil => intro z; exact .inl rfl
  | cons e r ih =>
    intro z
    show findA s r _ = z ∨ ∃ e' ∈ e :: r, findA s r _ = e'.2.2
    rcases ih (if e.1 = s then e.2.2 else z) with h | ⟨e', h1, h2⟩
    · by_cases h' : e.1 = s
      · exact .inr ⟨e, List.mem_cons_self, by rw [h, if_pos h']⟩
      · exact .inl (by rw [h, if_neg h'])
    · exact .inr ⟨e', List.mem_cons_of_mem _ h1, h2⟩
theorem Ak.find (h : Ak X w q) {s : List Int} (h0 : 0 ≤ findA s q.k.nm (-1)) : (findA s q.k.nm (-1)).toNat < (slo q.f q.k).length := by
  rcases findA_mem s q.k.nm (-1) with e | ⟨e, he, h1⟩
  · omega
  · have := (h.nr e he).2.2; omega
/-- The function's slots, where they lie. -/
theorem Ak.slots (h : Ak X w q) : ∃ (b : Nat) (v : Sl), X.so.a = some ⟨b, 0, none⟩ ∧ X.so.n = X.S.fn.length ∧ q.vs[q.f]? = some v ∧ q.k.sl[q.f]? = some (slo q.f q.k) ∧ w.cell? ⟨b, 0 + (q.f : Int).toNat * 1, none⟩ = some (.slice v.a v.n v.c) ∧ v.n = (slo q.f q.k).length ∧
    ∀ (i : Nat) (x : Int), (slo q.f q.k)[i]? = some x → ∃ b2, v.a = some ⟨b2, 0, none⟩ ∧ w.cell? ⟨b2, 0 + (i : Int).toNat * 1, none⟩ = some (.int .i64 x) := by
  obtain ⟨a, c, e1, hnc, h0, hr⟩ := own_read h.so
  simp only [Value.slice.injEq] at e1
  obtain ⟨rfl, e2, rfl⟩ := e1
  have hff := h.ff
  have hf : q.f < q.k.sl.length := by rw [h.kl]; exact hff
  have hv : q.f < q.vs.length := by rw [h.vl]; exact hff
  have hs : q.k.sl[q.f]? = some (slo q.f q.k) := by unfold slo; rw [List.getD_eq_getElem?_getD, List.getElem?_eq_getElem hf]; rfl
  have hv' : q.vs[q.f]? = some q.vs[q.f] := List.getElem?_eq_getElem hv
  cases ha : X.so.a with
  | none => have := h0 ha; omega
  | some ad =>
    obtain ⟨b, rfl, _, _, hc⟩ := hr _ ha
    obtain ⟨a2, c2, e3, _, h02, hr2⟩ := own_read (h.inn q.f _ _ hv' hs)
    simp only [Value.slice.injEq] at e3
    obtain ⟨e4, e5, e6⟩ := e3
    refine ⟨b, q.vs[q.f], rfl, e2, hv', hs, ?_, e5, fun i x hx => ?_⟩
    · have := hc q.f (q.vs[q.f]).v (by rw [List.getElem?_map, hv']; rfl)
      rw [show 0 + (q.f : Int).toNat * 1 = 0 + q.f by omega]; exact this
    · have hi := (List.getElem?_eq_some_iff.1 hx).1
      rw [e4]
      cases a2 with
      | none => have := h02 rfl; omega
      | some ad2 =>
        obtain ⟨b2, rfl, _, _, hc2⟩ := hr2 _ rfl
        refine ⟨b2, rfl, ?_⟩
        rw [show 0 + (i : Int).toNat * 1 = 0 + i by omega]
        exact hc2 i _ (by rw [List.getElem?_map, hx]; rfl)
def slotB (q : Kq) (s : List Int) (arr : Bool) : Bool := decide (0 ≤ findA s q.k.nm (-1)) && (decide ((slo q.f q.k).getD (findA s q.k.nm (-1)).toNat 0 = 3) == arr)
theorem slotB_iff {q : Kq} {s : List Int} {arr : Bool} : kslot q.f q.k s arr = if slotB q s arr = true then some (findA s q.k.nm (-1)) else none := by
  unfold kslot slotB
  by_cases h1 : 0 ≤ findA s q.k.nm (-1) <;> simp [h1]
theorem slotF (h : Ak X w q) (s : List Int) (arr : Bool) (p : Int) (hs : Rgb s) : Ret Try.prog 61 [kv X q, sv s, .bool arr, .int .i64 p] w fun v w1 => v = .tuple #[kv X (needQ (slotB q s arr) p 6 q), .int .i64 (findA s q.k.nm (-1))] ∧ Kp No w w1 := by
  have hff := h.ff
  refine ret_enter Try.func61 rfl Try.ntmps61 rfl ?_
  (repeat refine Zlr ?_)
  refine s_box (cs := kc X q) rfl rfl (fun b w1 n => ?_)
  have G := (Wk.start h).new n
  (repeat refine Zlr ?_)
  refine s_al rfl (fun b2 w2 n2 => ?_)
  have G := G.new n2
  have h0 := G.blk 0 rfl; try have h1 := G.blk 1 rfl; try have h2 := G.blk 2 rfl; try have h3 := G.blk 3 rfl; try have h4 := G.blk 4 rfl; try have h5 := G.blk 5 rfl
  have k2 := n.kp.no n2.kp
  (repeat refine Zlr ?_)
  refine s_call (us := []) (zs := []) (by kernel_rfl) rfl rfl (findF G.at_ s hs) ?_
  rintro _ w3 ⟨rfl, k3⟩
  have G := G.no k3
  have h0 := G.blk 0 rfl; try have h1 := G.blk 1 rfl; try have h2 := G.blk 2 rfl; try have h3 := G.blk 3 rfl; try have h4 := G.blk 4 rfl; try have h5 := G.blk 5 rfl
  have k3 := k2.no k3
  have n12 : b ≠ b2 := fun e => by
    have := G.nd 1 0 b _ _ _ _ rfl (by rw [e]; rfl)
    omega
  obtain ⟨sb, sl, ha, hn, hv, hsl, hc1, hln, hcs⟩ := G.at_.slots
  have hsa : Value.slice X.so.a X.so.n X.so.c = .slice (some ⟨sb, 0, none⟩) X.so.n X.so.c := by rw [ha]
  obtain ⟨z, hz⟩ : ∃ z, findA s q.k.nm (-1) = z := ⟨_, rfl⟩
  have hzl : 0 ≤ z → z.toNat < (slo q.f q.k).length := by rw [← hz]; exact h.find
  have hsb : slotB q s arr = (decide (0 ≤ z) && (decide ((slo q.f q.k).getD z.toNat 0 = 3) == arr)) := by rw [← hz]; rfl
  rw [hz, hsb]
  (repeat refine Zlr ?_)
  refine k_h (fun w' => Kp (fun i => i = b2) w3 w') [(0, false), (1, false), (2, false), (3, false), (4, false), (5, false), (6, false), (7, false), (8, false), (9, false), (10, false), (11, false), (12, false), (13, false), (14, false), (15, false), (16, false), (17, false), (18, false), (20, false), (19, true), (21, true), (22, false)] 23 (by kernel_rfl) (waits_none) (by kernel_rfl) (by kernel_rfl) (by kernel_rfl) rfl (fun w4 k4 q4 => ?_)
  have k4' : Kp (fun i => i = b2) w3 w4 := k4.mono fun _ _ h => h.elim
  have hd1 : ∀ w', Kp (fun i => i = b2) w3 w' → w'.heap[b]? = some (.cells (kc X q).toArray tC (0, 0)) := fun w' hw => hw.get h1 n12
  have hne : ∀ g, Mx X q g → g ≠ b2 := fun g hg e => (G.bx 0 _ _ _ rfl).2.2 (e ▸ hg)
  have hcl1 : ∀ w', Kp (fun i => i = b2) w3 w' → w'.cell? ⟨sb, 0 + (q.f : Int).toNat * 1, none⟩ = some (.slice sl.a sl.n sl.c) := fun w' hw => hw.cell hc1 (hne _ (.inr (.inl (congrArg Value.ownBlock hsa))))
  (repeat (first | refine Zhq ?_ | refine Zhgn ?_ | refine Zhgu ?_ | refine Zhgv ?_))
  by_cases h0z : 0 ≤ z
  · obtain ⟨x, hx⟩ : ∃ x, (slo q.f q.k)[z.toNat]? = some x := ⟨_, List.getElem?_eq_getElem (hzl h0z)⟩
    obtain ⟨ib, hia, hic⟩ := hcs _ _ hx
    have hia' : Value.slice sl.a sl.n sl.c = .slice (some ⟨ib, 0, none⟩) sl.n sl.c := by rw [hia]
    have hcl2 : ∀ w', Kp (fun i => i = b2) w3 w' → w'.cell? ⟨ib, 0 + z.toNat * 1, none⟩ = some (.int .i64 x) := fun w' hw => hw.cell (by rw [show ((z.toNat : Nat) : Int).toNat = z.toNat by omega] at hic; exact hic) (hne _ (.inr (.inr ⟨sl, List.mem_of_getElem? hv, congrArg Value.ownBlock hia'⟩)))
    have hzn := hzl h0z
    refine h_re 17 (v' := .bool true) rfl (congrArg Value.bool (decide_eq_true h0z)) ?_
    (repeat (first | refine Zhq ?_ | refine Zhgn ?_ | refine Zhgu ?_ | refine Zhgv ?_))
    refine h_gv rfl k4' (fun w' hw => r_ia rfl rfl hsa rfl (by omega) (by omega)) ?_
    (repeat (first | refine Zhq ?_ | refine Zhgn ?_ | refine Zhgu ?_ | refine Zhgv ?_))
    refine h_gv rfl k4' (fun w' hw => r_ia rfl rfl hia' rfl (by omega) (by omega)) ?_
    (repeat (first | refine Zhq ?_ | refine Zhgn ?_ | refine Zhgu ?_ | refine Zhgv ?_))
    refine h_gv rfl k4' (fun w' hw => r_beq rfl rfl rfl) ?_
    (repeat (first | refine Zhq ?_ | refine Zhgn ?_ | refine Zhgu ?_ | refine Zhgv ?_))
    have eq1 : (decide (0 ≤ z) && (decide ((slo q.f q.k).getD z.toNat 0 = 3) == arr)) = ((x == 3) == arr) := by
      rw [decide_eq_true h0z, Bool.true_and, List.getD_eq_getElem?_getD, hx]; rfl
    refine h_call (us := []) (zs := []) (by kernel_rfl) rfl rfl (needF (G.at_.no k4) _ p 6) ?_
    rintro _ w5 ⟨rfl, k5⟩
    have k5' : Kp (fun i => i = b2) w3 w5 := k4'.no k5
    refine ⟨fun _ => k5', ?_⟩
    have G := (G.no k4).no k5
    have h0 := G.blk 0 rfl; try have h1 := G.blk 1 rfl; try have h2 := G.blk 2 rfl; try have h3 := G.blk 3 rfl; try have h4 := G.blk 4 rfl; try have h5 := G.blk 5 rfl
    refine h_st (vs := kc X (needQ ((x == 3) == arr) p 6 q)) rfl rfl rfl rfl rfl h0 (Nat.le_of_ble_eq_true rfl) (fun w6 s6 => ⟨fun _ => k5'.trans s6.kp fun _ _ h => h, ?_⟩)
    have s6 : Sb w5 b2 (kc X (needQ ((x == 3) == arr) p 6 q)) tC w6 := s6
    have G := G.put 0 rfl s6 rfl
    have h0 := G.blk 0 rfl; try have h1 := G.blk 1 rfl; try have h2 := G.blk 2 rfl; try have h3 := G.blk 3 rfl; try have h4 := G.blk 4 rfl; try have h5 := G.blk 5 rfl
    have k6 : Kp (fun i => i = b2) w3 w6 := k5'.trans s6.kp fun _ _ h => h
    (repeat (first | refine Zhq ?_ | refine Zhgn ?_ | refine Zhgu ?_ | refine Zhgv ?_))
    refine h_nil ?_
    (repeat refine Zlr ?_)
    exact ret_c2 rfl (rv_agw rfl h0 rfl rfl) (rv_t rfl) ⟨by rw [eq1], k3.from0' k6 fun i hi e => by have := n2.ge; have := n.kp.size; omega⟩
  · refine h_re 17 (v' := .bool false) rfl (congrArg Value.bool (decide_eq_false h0z)) ?_
    (repeat (first | refine Zhq ?_ | refine Zhgn ?_ | refine Zhgu ?_ | refine Zhgv ?_))
    have eq1 : (decide (0 ≤ z) && (decide ((slo q.f q.k).getD z.toNat 0 = 3) == arr)) = false := by
      rw [decide_eq_false h0z]; rfl
    refine h_call (us := []) (zs := []) (by kernel_rfl) rfl rfl (needF (G.at_.no k4) _ p 6) ?_
    rintro _ w5 ⟨rfl, k5⟩
    have k5' : Kp (fun i => i = b2) w3 w5 := k4'.no k5
    refine ⟨fun _ => k5', ?_⟩
    have G := (G.no k4).no k5
    have h0 := G.blk 0 rfl; try have h1 := G.blk 1 rfl; try have h2 := G.blk 2 rfl; try have h3 := G.blk 3 rfl; try have h4 := G.blk 4 rfl; try have h5 := G.blk 5 rfl
    refine h_st (vs := kc X (needQ false p 6 q)) rfl rfl rfl rfl rfl h0 (Nat.le_of_ble_eq_true rfl) (fun w6 s6 => ⟨fun _ => k5'.trans s6.kp fun _ _ h => h, ?_⟩)
    have s6 : Sb w5 b2 (kc X (needQ false p 6 q)) tC w6 := s6
    have G := G.put 0 rfl s6 rfl
    have h0 := G.blk 0 rfl; try have h1 := G.blk 1 rfl; try have h2 := G.blk 2 rfl; try have h3 := G.blk 3 rfl; try have h4 := G.blk 4 rfl; try have h5 := G.blk 5 rfl
    have k6 : Kp (fun i => i = b2) w3 w6 := k5'.trans s6.kp fun _ _ h => h
    (repeat (first | refine Zhq ?_ | refine Zhgn ?_ | refine Zhgu ?_ | refine Zhgv ?_))
    refine h_nil ?_
    (repeat refine Zlr ?_)
    exact ret_c2 rfl (rv_agw rfl h0 rfl rfl) (rv_t rfl) ⟨by rw [eq1], k3.from0' k6 fun i hi e => by have := n2.ge; have := n.kp.size; omega⟩
end
end Go.Proofs.Ytkllhfajldnpoaa.Ck
namespace Go.Proofs.Ytkllhfajldnpoaa.Fw
open Go Go.RowKit
theorem own_put {w : World} {base : Nat} {e size n c : Nat} {a : Option Addr} {cs : List Value} {k : Nat} (h : w.ownsRow base e size (.slice a n c) n cs) (hk : k < cs.length) :
    ∃ g cur, a = some ⟨g, 0, none⟩ ∧ base ≤ g ∧ w.heap[g]? = some (.cells (List.toArray cur) e (0, 0)) ∧ k < cur.length ∧ ∀ w2 u, Sb w g (cur.set k u) e w2 → w2.ownsRow base e size (.slice a n c) n (cs.set k u) := by
  obtain ⟨hl, h⟩ := h
  rcases h with ⟨e1, h0⟩ | ⟨g, cap, cur, e1, hg, hb, hn, hm, hs, ht⟩
  · subst h0; rw [Nat.zero_mul] at hl; omega
  · cases e1
    have hcl : cs.length ≤ cur.toList.length := by rw [← ht, List.length_take]; omega
    refine ⟨g, cur.toList, rfl, hg, hb, by omega, fun w2 u s2 => ⟨by rw [List.length_set]; exact hl, .inr ⟨g, c, (cur.toList.set k u).toArray, rfl, hg, s2.blk, hn, hm, by simpa using hs, ?_⟩⟩⟩
    show (cur.toList.set k u).take (n * size) = _
    rw [List.take_set, ht]
section
variable {P : Program} {w : World} {S : World → Prop} {n : Nat} {l : Slots} {ds : List Deferred} {q : Pst P} {z : Nat} {ty : TypeId} {pos : String} {af : Array Edge} {v : Value} {rest : List (Nat × Bool × Oper)} {ops : Array Oper} {d i : Nat}
theorem h_bs0 {t e : TypeId} {size : Nat} (ht : P.underlying t = some (.slice e)) (hs : szT P e = some size)
    (h : ∀ b w1, Nb w b [] e w1 → (i ≠ z → S w1) ∧ Wo P ops q S z rest n ((d, .slice (some ⟨b, 0, none⟩) 0 0) :: l) ds w1) :
    Wo P ops q S z ((i, true, ⟨some d, .buildSlice t 0 #[], ty, pos, af, none⟩) :: rest) n l ds w := h_nb (r := fun a => .slice (some a) 0 0) (r_bs0 ht hs) h
/-- A row is put behind a row that is empty. -/
theorem h_cl {s x : Operand} {t e : TypeId} {ti : TypeInfo} {zv : Value} {size bytes base k lo : Nat} {v0 : Value} {xs : List Value} {b : Nat} (ht : P.underlying t = some (.slice e)) (hi : P.info? e = some ti) (hz : ti.zero = some zv)
    (hsize : ti.size = size) (hby : ti.bytes = bytes) (hzs : (cellsL zv).length = size) (hsz : Nat.blt 0 size = true) (hs : ev n l s = .slice (some ⟨b, 0, none⟩) 0 0) (hsz' : szT P e = some size) (blk : w.heap[b]? = some (.cells ([] : List Value).toArray e (0, 0))) (hlo : lo ≤ b) (hlw : lo ≤ w.heap.size) (own : w.ownsRow base e size v0 k xs) (hx : ev n l x = v0)
    (h1 : xs.all Value.oneCell' = true) (hb : k * bytes ≤ 140737488355328) (hk : k ≤ 9223372036854775807) (hbase : base ≤ lo)
    (h : ∀ v w1, w1.ownsRow base e size v k xs → Kp (fun i => i = b) w w1 → (∀ g, v.ownBlock = some g → lo ≤ g) → (i ≠ z → S w1) ∧ Wo P ops q S z rest n ((d, v) :: l) ds w1) :
    Wo P ops q S z ((i, true, ⟨some d, .call ⟨.builtin .append, #[s, x], #[t, t]⟩, ty, pos, af, none⟩) :: rest) n l ds w := by
  obtain ⟨a, c, rfl, hnc, h0, hr⟩ := own_read own
  have oe : w.ownsRow base e size (.slice (some ⟨b, 0, none⟩) 0 0) 0 [] := ⟨by simp, .inr ⟨b, 0, #[], rfl, Nat.le_trans hbase hlo, blk, Nat.le_refl _, by unfold maxLen; omega, by simp, by simp⟩⟩
  cases a with
  | none =>
    have hk := h0 rfl
    subst hk
    have hx0 : xs = [] := List.eq_nil_of_length_eq_zero (by have := own.1; omega)
    subst hx0
    refine h_wr blk (r_apf (c' := c) ht hsz' hs hx (Nat.le_refl 0) (by simp) (.inl rfl) rfl blk (by simp)) (fun w1 s1 => ?_)
    have s1 : Sb w b [] e w1 := by
      have : setAt ([] : List Value) (0 + 0 * size) [] = [] := rfl
      rw [this] at s1; exact s1
    refine h _ w1 ?_ s1.kp fun g hg => by cases hg; exact hlo
    exact ⟨by simp, .inr ⟨b, 0, #[], rfl, Nat.le_trans hbase hlo, s1.blk, Nat.le_refl _, by unfold maxLen; omega, by simp, by simp⟩⟩
  | some ad =>
    obtain ⟨g, rfl, _, _, hcell⟩ := hr _ rfl
    refine h_app (size := size) (bytes := bytes) (base := base) (news := xs) (m := k) (k := 0) (xs := []) ht hi hz hsize hby hzs hsz hs oe hx (fun j u hj => hcell j u hj) own.1 h1 (by rw [Nat.zero_add]; exact hb) (by omega) (Nat.le_trans hbase hlw) ?_
    intro v w1 ap
    refine h v w1 (by have := ap.own; rw [List.nil_append, Nat.zero_add] at this; exact this) (ap.kp.mono fun i _ e => Option.some.inj e) fun g' hg' => ?_
    rcases ap.row g' hg' with h2 | h2
    · cases h2; exact hlo
    · exact Nat.le_trans hlw h2
variable {listed : Array Bool} {fuel : Nat}
/-- One of several that may come first; behind it an order. -/
theorem ts_o {os : List Oper} {o : Oper} {ord : List (Nat × Bool)} {L : List (Nat × Bool × Oper)} (hz : Waits os.toArray z) (hs : Region.noSelect os.toArray = true) (hi : os.toArray[i]? = some o) (ho : okOrd os.toArray ord (listed.setIfInBounds i true) = true) (hL : ordL os ord = some L) (hn : Nat.beq ord.length fuel = true)
    (h : Wo P os.toArray q S z ((i, true, o) :: L) n l ds w) : Ws P os.toArray q S z fuel listed i n l ds w := by
  refine ⟨fun hd => ?_⟩
  obtain ⟨h1, h2⟩ := ordL_map hL
  have hlen : L.length = fuel := by rw [← Nat.eq_of_beq_eq_true hn, ← h1, List.length_map]
  have key : ∀ a w, wpO P os.toArray (NoP q.den) S z L a w → wpL P os.toArray (NoP q.den) S z fuel (listed.setIfInBounds i true) a w := fun a w hh => by
    have := wpL_of_O hz hs (fun c a b w h => h) ord L _ a w hd ho h1 (fun x hx => by simpa using h2 x hx) hh
    rw [hlen] at this
    exact this
  have hu := h.up
  unfold wpO at hu
  unfold wpOp
  simp only [hi]
  split at hu
  · rename_i hw
    rw [if_pos hw]
    exact .inl (Oper.wp_mono (fun a w hh => ⟨hh.1, key _ _ hh.2⟩) hu)
  · rename_i hw
    rw [if_neg hw]
    exact ⟨fun _ => hu.1, key _ _ hu.2⟩
theorem waits_of_out {ops : Array Oper} {z : Nat} (h : Nat.ble ops.size z = true) : Waits ops z := by
  intro listed hd hr
  exfalso
  have h' := Nat.le_of_ble_eq_true h
  unfold Region.ready at hr
  simp at hr
  omega
end
end Go.Proofs.Ytkllhfajldnpoaa.Fw
namespace Go.Proofs.Ytkllhfajldnpoaa.Ck
open Go Go.RowKit Fw Sy Rf
set_option linter.unusedVariables false
set_option maxRecDepth 20000
theorem twA_app (s : List Int) (bl : Int) : ∀ (l m : List Nm) (b : Bool), twA s bl (l ++ m) b = twA s bl m (twA s bl l b) := by
  intro l
  induction l with
  | nil => intro m b; rfl
  | cons e r ih => intro m b; exact ih _ _
/-- What declare answers. -/
def DecR (X : Kc) (w : World) (q : Kq) (s : List Int) (kd : Int) (v : Value) (w' : World) : Prop := ∃ q' n, v = .tuple #[kv X q', .int .i64 n] ∧ Sk X w q w' q' ∧ (q.c ≠ 0 → q'.c ≠ 0) ∧
  (q.c = 0 → match kdecl q.f q.k s kd with | some x => q'.c = 0 ∧ q'.k = x.1 ∧ n = x.2 | none => q'.c ≠ 0) ∧ q'.f = q.f ∧ (q'.k.bl = q.k.bl ∧ q'.k.lo = q.k.lo) ∧ (slo q.f q.k).length ≤ (slo q'.f q'.k).length
section
variable {X : Kc} {w : World} {q : Kq}
/-- A slot more: its kind is put into the function's list. -/
theorem Sk.slot (h : Ak X w q) {v : Sl} {a1 : Option Addr} {c1 : Nat} {kd : Int} {w1 w2 : World} (hv : q.vs[q.f]? = some v) (hs : q.k.sl[q.f]? = some (slo q.f q.k)) (hl : (slo q.f q.k).length < 64)
    (ap : Ap w X.w.heap.size tInt 1 v.v ((slo q.f q.k).length + 1) ((slo q.f q.k).map (Value.int .i64) ++ [.int .i64 kd]) (.slice a1 ((slo q.f q.k).length + 1) c1) w1) {sb : Nat} {cur : List Value} (hb : w1.heap[sb]? = some (.cells cur.toArray tInts (0, 0)))
    (s2 : Sb w1 sb (cur.set q.f (.slice a1 ((slo q.f q.k).length + 1) c1)) tInts w2) (o2 : w2.ownsRow X.w.heap.size tInts 1 X.so.v X.S.fn.length ((q.vs.map Sl.v).set q.f (.slice a1 ((slo q.f q.k).length + 1) c1))) (hsb : X.so.v.ownBlock = some sb) :
    Sk X w q w2 { q with vs := q.vs.set q.f ⟨a1, (slo q.f q.k).length + 1, c1⟩, k := { q.k with sl := q.k.sl.set q.f (slo q.f q.k ++ [kd]) } } := by
  have hlt : q.f < q.k.sl.length := by rw [h.kl]; exact h.ff
  have hlv : q.f < q.vs.length := by rw [h.vl]; exact h.ff
  have hvm : v ∈ q.vs := List.mem_of_getElem? hv
  have eS : slo q.f { q.k with sl := q.k.sl.set q.f (slo q.f q.k ++ [kd]) } = slo q.f q.k ++ [kd] := by
    unfold slo; rw [List.getD_eq_getElem?_getD, List.getElem?_set_self hlt]; rfl
  -- what keeps
  have keep : ∀ {base : Nat} {e : TypeId} {size : Nat} {u : Value} {n : Nat} {cs : List Value}, w.ownsRow base e size u n cs → (∀ b, u.ownBlock = some b → v.v.ownBlock ≠ some b) → (∀ b, u.ownBlock = some b → b ≠ sb) → w2.ownsRow base e size u n cs := fun ho h1 h2 =>
    own_kp (own_kp ho ap.kp fun g hg e => h1 g hg e.symm) s2.kp fun g hg => h2 g hg
  have tsb : ∀ {e : TypeId} {base size n : Nat} {u : Value} {cs : List Value}, w.ownsRow base e size u n cs → Nat.beq e tInts = false → ∀ b, u.ownBlock = some b → b ≠ sb := fun ho he b hb' => by
    obtain ⟨c, hc⟩ := own_ty ho hb'
    obtain ⟨c', hc'⟩ := own_ty h.so hsb
    exact ty_ne hc hc' he
  have kp2 : Kp (Mx X q) w w2 := (ap.kp.mono fun i _ e => .inr (.inr ⟨v, hvm, e.symm⟩)).trans s2.kp fun i _ e => .inr (.inl (e ▸ hsb))
  obtain ⟨lo, hio⟩ := h.inner hvm
  obtain ⟨t1, o1⟩ := h.ty
  obtain ⟨t2, o2'⟩ := h.sl
  obtain ⟨t3, o3⟩ := h.pu
  obtain ⟨t4, o4⟩ := h.fu
  have vty : ∀ b, v.v.ownBlock = some b → ¬ (X.ty.v.ownBlock = some b ∨ X.sl.v.ownBlock = some b ∨ X.pu.v.ownBlock = some b ∨ X.fu.v.ownBlock = some b) := h.di v hvm
  have nmt : ∀ b, q.nm.v.ownBlock = some b → v.v.ownBlock ≠ some b := fun b hb' e => by
    obtain ⟨c, hc⟩ := own_ty h.nm hb'
    obtain ⟨c', hc'⟩ := own_ty hio e
    exact ty_ne hc hc' rfl rfl
  have frow : ∀ b, (Value.slice a1 ((slo q.f q.k).length + 1) c1).ownBlock = some b → v.v.ownBlock = some b ∨ w.heap.size ≤ b := ap.row
  have vget : ∀ (i : Nat) u, (q.vs.set q.f ⟨a1, (slo q.f q.k).length + 1, c1⟩)[i]? = some u → (i = q.f ∧ u = ⟨a1, (slo q.f q.k).length + 1, c1⟩) ∨ (i ≠ q.f ∧ q.vs[i]? = some u) := fun i u hi => by
    rw [List.getElem?_set] at hi
    split at hi
    · rename_i e
      cases hi
      exact .inl ⟨e.symm, rfl⟩
    · rename_i e; exact .inr ⟨fun h => e h.symm, hi⟩
  have old : ∀ (i : Nat) u b, q.vs[i]? = some u → u.v.ownBlock = some b → b < w.heap.size := fun i u b hi hb' => by
    obtain ⟨l, hl⟩ := h.inner (List.mem_of_getElem? hi)
    obtain ⟨c, hc⟩ := own_ty hl hb'
    exact lt_of_get hc
  have bmx : ∀ b, X.w.heap.size ≤ b → ∀ i, i < X.w.heap.size → i = b → False := fun b hb i hi e => by omega
  have hsbg : X.w.heap.size ≤ sb := own_ge h.so hsb
  refine ⟨⟨?_, h.tr, h.pg, ⟨t1, keep o1 (fun b hb' e => vty b e (.inl hb')) (tsb o1 rfl)⟩, ⟨t2, keep o2' (fun b hb' e => vty b e (.inr (.inl hb'))) (tsb o2' rfl)⟩, ⟨t3, keep o3 (fun b hb' e => vty b e (.inr (.inr (.inl hb')))) (tsb o3 rfl)⟩, ⟨t4, keep o4 (fun b hb' e => vty b e (.inr (.inr (.inr hb')))) (tsb o4 rfl)⟩, ?_, by simp [h.vl], by simp [h.kl], fun i u l hu hl => ?_, fun i j u u' b hi hj hb1 hb2 => ?_, fun u hu b hb' => ?_, ?_, fun e he => ?_, ?_, h.ff, fun l hl => ?_⟩, kp2, fun b hb' hm => ?_⟩
  · refine (h.k0.from0' ap.kp fun i hi e => ?_).from0' s2.kp fun i hi e => by omega
    have := own_ge hio e.symm
    omega
  · rw [List.map_set]; exact o2
  · rcases vget i u hu with ⟨rfl, rfl⟩ | ⟨hne, hu⟩
    · rw [List.getElem?_set_self hlt] at hl
      cases hl
      have o := own_kp ap.own s2.kp fun g hg e => by
        obtain ⟨c, hc⟩ := own_ty ap.own hg
        exact ty_ne hc hb rfl e
      show w2.ownsRow X.w.heap.size tInt 1 (.slice a1 ((slo q.f q.k).length + 1) c1) (slo q.f q.k ++ [kd]).length ((slo q.f q.k ++ [kd]).map (Value.int .i64))
      rw [List.length_append, List.map_append]
      exact o
    · rw [List.getElem?_set_ne (Ne.symm hne)] at hl
      have o := h.inn i u l hu hl
      exact keep o (fun b hb' e => hne (h.dj i q.f u v b hu hv hb' e)) (tsb o rfl)
  · rcases vget i u hi with ⟨rfl, rfl⟩ | ⟨hi1, hi2⟩
    · rcases vget j u' hj with ⟨rfl, rfl⟩ | ⟨hj1, hj2⟩
      · rfl
      · rcases frow b hb1 with e | e
        · exact h.dj _ _ _ _ b hv hj2 e hb2
        · have := old j u' b hj2 hb2; omega
    · rcases vget j u' hj with ⟨rfl, rfl⟩ | ⟨hj1, hj2⟩
      · rcases frow b hb2 with e | e
        · exact h.dj _ _ _ _ b hi2 hv hb1 e
        · have := old i u b hi2 hb1; omega
      · exact h.dj _ _ _ _ b hi2 hj2 hb1 hb2
  · obtain ⟨i, hi⟩ := List.getElem?_of_mem hu
    rcases vget i u hi with ⟨rfl, rfl⟩ | ⟨hi1, hi2⟩
    · rcases frow b hb' with e | e
      · exact h.di v hvm b e
      · intro hh
        have : ∀ {e : TypeId} {n : Nat} {cs : List Value} {uu : Value}, w.ownsRow X.w.heap.size e 1 uu n cs → uu.ownBlock = some b → False := fun ho hx => by
          obtain ⟨c, hc⟩ := own_ty ho hx
          have := lt_of_get hc
          omega
        rcases hh with hh | hh | hh | hh
        · exact this o1 hh
        · exact this o2' hh
        · exact this o3 hh
        · exact this o4 hh
    · exact h.di u (List.mem_of_getElem? hi2) b hb'
  · exact keep h.nm (fun b hb' => nmt b hb') (tsb h.nm rfl)
  · obtain ⟨n1, n2, n3⟩ := h.nr e he
    refine ⟨n1, n2, ?_⟩
    show e.2.2 < (slo q.f { q.k with sl := q.k.sl.set q.f (slo q.f q.k ++ [kd]) }).length
    rw [eS, List.length_append, List.length_singleton]; omega
  · show q.k.nm.length ≤ (slo q.f { q.k with sl := q.k.sl.set q.f (slo q.f q.k ++ [kd]) }).length
    rw [eS, List.length_append, List.length_singleton]
    have := h.nb
    omega
  · rcases List.mem_or_eq_of_mem_set hl with hl | rfl
    · exact h.sb l hl
    · rw [List.length_append, List.length_singleton]; omega
  · rcases hm with hm | hm | ⟨u, hu, hm⟩
    · exact .inl hm
    · exact .inr (.inl hm)
    · obtain ⟨i, hi⟩ := List.getElem?_of_mem hu
      rcases vget i u hi with ⟨rfl, rfl⟩ | ⟨hi1, hi2⟩
      · rcases frow b hm with e | e
        · exact .inr (.inr ⟨v, hvm, e⟩)
        · omega
      · exact .inr (.inr ⟨u, List.mem_of_getElem? hi2, hm⟩)
theorem Sk.name {X : Kc} {w : World} {q : Kq} (A : Ak X w q) {s : List Int} {bl : Int} {m : Nat} (hs : Rgb s) (hm : m < (slo q.f q.k).length) (hn : q.k.nm.length < (slo q.f q.k).length) {a : Option Addr} {c : Nat}
    (o : w.ownsRow X.w.heap.size tName 3 (.slice a (q.k.nm.length + 1) c) (q.k.nm.length + 1) ((q.k.nm ++ [(s, bl, (m : Int))]).flatMap nmC)) :
    Sk X w q w { q with nm := ⟨a, q.k.nm.length + 1, c⟩, k := { q.k with nm := q.k.nm ++ [(s, bl, (m : Int))] } } := by
  refine ⟨⟨A.k0, A.tr, A.pg, A.ty, A.sl, A.pu, A.fu, A.so, A.vl, A.kl, A.inn, A.dj, A.di, ?_, fun e he => ?_, ?_, A.ff, A.sb⟩, Kp.refl _ _, fun b' _ hm => ?_⟩
  · show w.ownsRow X.w.heap.size tName 3 (.slice a (q.k.nm.length + 1) c) (q.k.nm ++ [(s, bl, (m : Int))]).length ((q.k.nm ++ [(s, bl, (m : Int))]).flatMap nmC)
    rw [List.length_append]; exact o
  · rcases List.mem_append.1 he with he | he
    · exact A.nr e he
    · rw [List.mem_singleton.1 he]
      exact ⟨hs, by simp, by show (m : Int) < (slo q.f q.k).length; omega⟩
  · show (q.k.nm ++ _).length ≤ _
    rw [List.length_append, List.length_singleton]
    have := A.nb
    show _ ≤ (slo q.f q.k).length
    omega
  · exact hm
set_option maxHeartbeats 4000000 in
theorem declareF {w0 : World} (h : Ak X w0 q) (s : List Int) (kd p : Int) (hs : Rgb s) : Ret Try.prog 46 [kv X q, sv s, .int .i64 kd, .int .i64 p] w0 (DecR X w0 q s kd) := by
  obtain ⟨hn1, hn2⟩ := h.nlen
  have hff := h.ff
  refine ret_enter Try.func46 rfl Try.ntmps46 rfl ?_
  (repeat refine Zlr ?_)
  refine s_box (cs := kc X q) rfl rfl (fun b w1 n => ?_)
  have G := (Wk.start h).new n
  (repeat refine Zlr ?_)
  refine s_al rfl (fun b2 w2 n2 => ?_)
  have G := G.new n2
  have h0 := G.blk 0 rfl; try have h1 := G.blk 1 rfl; try have h2 := G.blk 2 rfl; try have h3 := G.blk 3 rfl; try have h4 := G.blk 4 rfl; try have h5 := G.blk 5 rfl
  have k2 := n.kp.no n2.kp
  (repeat refine Zlr ?_)
  refine k_loop (σ := Nat) (fun i => [(1, sv s), (2, .int .i64 kd), (3, .int .i64 p), (4, .pointer (some ⟨b, 0, none⟩)), (8, .pointer (some ⟨b2, 0, none⟩)), (10, .bool (twA s q.k.bl (q.k.nm.take i) false)), (15, .int .i64 (q.nm.n : Int)), (16, .int .i64 (i : Int))])
    (fun i w' => i ≤ q.k.nm.length ∧ ∃ cs, cs.length = 14 ∧ Wk X w0 q w' q [(b2, cs, tC), (b, kc X q, tC)]) (fun i => q.k.nm.length - i) 0 ⟨rfl, rfl, rfl, rfl, rfl, rfl, rfl, rfl, trivial⟩ ⟨Nat.zero_le _, _, rfl, G⟩ ?_
  clear G h0 h1 k2 n n2
  rintro i l w3 ⟨hi, cs, hcs, G⟩
  have h0 := G.blk 0 rfl; try have h1 := G.blk 1 rfl; try have h2 := G.blk 2 rfl; try have h3 := G.blk 3 rfl; try have h4 := G.blk 4 rfl; try have h5 := G.blk 5 rfl
  (repeat refine Zlr ?_)
  refine c_dec rfl (fun hlt => ?_) (fun hge => ?_)
  · have hlt : i < q.k.nm.length := by omega
    obtain ⟨e, he⟩ : ∃ e, q.k.nm[i]? = some e := ⟨_, List.getElem?_eq_getElem hlt⟩
    obtain ⟨b5, ha, _, c1, c2, c3⟩ := G.at_.names he
    have hst : twA s q.k.bl (q.k.nm.take (i + 1)) false = (twA s q.k.bl (q.k.nm.take i) false || decide (e.1 = s ∧ e.2.1 = q.k.bl)) := by
      rw [List.take_add_one, he, twA_app]; rfl
    have hre := (h.nr e (List.mem_of_getElem? he)).1
    have hna : Value.slice q.nm.a q.nm.n q.nm.c = .slice (some ⟨b5, 0, none⟩) q.nm.n q.nm.c := by rw [ha]
    obtain ⟨ac, hac⟩ : ∃ ac, twA s q.k.bl (q.k.nm.take i) false = ac := ⟨_, rfl⟩
    rw [hac] at hst
    simp only [hac]
    (repeat refine Zlr ?_)
    refine k_q (by kernel_rfl) (by kernel_rfl) ?_
    (repeat (first | refine Zq ?_ | refine Zqn ?_ | refine Zqu ?_ | refine Zqg ?_))
    cases ac with
    | true =>
      (repeat (first | refine Zq ?_ | refine Zqn ?_ | refine Zqu ?_ | refine Zqg ?_))
      refine q_nil (fun w4 k4 => ?_)
      have G := G.no k4
      (repeat refine Zlr ?_)
      exact l_next (i + 1) ⟨rfl, rfl, rfl, rfl, rfl, by rw [hst]; rfl, rfl, rfl, trivial⟩ ⟨hlt, cs, hcs, G⟩ (by omega)
    | false =>
      (repeat (first | refine Zq ?_ | refine Zqn ?_ | refine Zqu ?_ | refine Zqg ?_))
      refine q_gv rfl (fun w' hw => r_ia rfl rfl hna rfl (by omega) (by omega)) ?_
      (repeat (first | refine Zq ?_ | refine Zqn ?_ | refine Zqu ?_ | refine Zqg ?_))
      by_cases ht : e.1 = s
      · refine q_set 29 true rfl (by rw [sv_eq hre hs, decide_eq_true ht]) ?_
        (repeat (first | refine Zq ?_ | refine Zqn ?_ | refine Zqu ?_ | refine Zqg ?_))
        refine q_gv rfl (fun w' hw => r_ia rfl rfl hna rfl (by omega) (by omega)) ?_
        (repeat (first | refine Zq ?_ | refine Zqn ?_ | refine Zqu ?_ | refine Zqg ?_))
        refine q_nil (fun w4 k4 => ?_)
        have G := G.no k4
        (repeat refine Zlr ?_)
        refine l_next (i + 1) ⟨rfl, rfl, rfl, rfl, rfl, ?_, rfl, rfl, trivial⟩ ⟨hlt, cs, hcs, G⟩ (by omega)
        rw [hst]
        show Value.bool (e.2.1 == q.k.bl) = _
        simp [ht]
        rfl
      · refine q_set 29 false rfl (by rw [sv_eq hre hs, decide_eq_false ht]) ?_
        (repeat (first | refine Zq ?_ | refine Zqn ?_ | refine Zqu ?_ | refine Zqg ?_))
        refine q_nil (fun w4 k4 => ?_)
        have G := G.no k4
        (repeat refine Zlr ?_)
        refine l_next (i + 1) ⟨rfl, rfl, rfl, rfl, rfl, ?_, rfl, rfl, trivial⟩ ⟨hlt, cs, hcs, G⟩ (by omega)
        rw [hst]
        show Value.bool false = _
        simp [ht]
  · have : i = q.k.nm.length := by omega
    subst this
    rw [List.take_length] at *
    obtain ⟨tw, htw⟩ : ∃ tw, twA s q.k.bl q.k.nm false = tw := ⟨_, rfl⟩
    simp only [htw]
    obtain ⟨sb, v, ha, hn, hv, hsl, hc1, hln, hcl⟩ := G.at_.slots
    have hsa : Value.slice X.so.a X.so.n X.so.c = .slice (some ⟨sb, 0, none⟩) X.so.n X.so.c := by rw [ha]
    have hsb64 : (slo q.f q.k).length ≤ 64 := h.sb _ (List.mem_of_getElem? hsl)
    (repeat refine Zlr ?_)
    refine s_v (r_ia rfl rfl hsa rfl (by omega) (by omega)) ?_
    (repeat refine Zlr ?_)
    refine s_call (us := []) (zs := []) (by kernel_rfl) rfl rfl (needF G.at_ (!tw) p 7) ?_
    rintro _ w4 ⟨rfl, k4⟩
    have G := (G.no k4).mv (Sk.need (G.no k4).at_ (!tw) p 7)
    have h0 := G.blk 0 rfl; try have h1 := G.blk 1 rfl; try have h2 := G.blk 2 rfl; try have h3 := G.blk 3 rfl; try have h4 := G.blk 4 rfl; try have h5 := G.blk 5 rfl
    (repeat refine Zlr ?_)
    refine s_call (us := []) (zs := []) (by kernel_rfl) rfl rfl (needF G.at_ (decide ((v.n : Int) < 64)) p 5) ?_
    rintro _ w5 ⟨rfl, k5⟩
    have G := (G.no k5).mv (Sk.need (G.no k5).at_ (decide ((v.n : Int) < 64)) p 5)
    have h0 := G.blk 0 rfl; try have h1 := G.blk 1 rfl; try have h2 := G.blk 2 rfl; try have h3 := G.blk 3 rfl; try have h4 := G.blk 4 rfl; try have h5 := G.blk 5 rfl
    (repeat refine Zlr ?_)
    obtain ⟨q1, hq1⟩ : ∃ q1, needQ (decide ((v.n : Int) < 64)) p 5 (needQ (!tw) p 7 q) = q1 := ⟨_, rfl⟩
    rw [hq1] at G ⊢
    have c1 : q1.c = 0 ↔ (q.c = 0 ∧ (!tw) = true) ∧ decide ((v.n : Int) < 64) = true := by rw [← hq1, need_c (by decide), need_c (by decide)]
    obtain ⟨c', p', e1⟩ : ∃ c' p', q1 = { q with c := c', p := p' } := by
      obtain ⟨c1, p1, e1⟩ := need_eq (ok := !tw) (p := p) (c := 7) (q := q)
      obtain ⟨c2, p2, e2⟩ := need_eq (ok := decide ((v.n : Int) < 64)) (p := p) (c := 5) (q := needQ (!tw) p 7 q)
      rw [← hq1, e2, e1]
      exact ⟨c2, p2, rfl⟩
    refine s_stw (vs := kc X q1) rfl rfl rfl rfl rfl h1 rfl (fun w6 s6 => ?_)
    have G := G.put 1 rfl s6 rfl
    have h0 := G.blk 0 rfl; try have h1 := G.blk 1 rfl; try have h2 := G.blk 2 rfl; try have h3 := G.blk 3 rfl; try have h4 := G.blk 4 rfl; try have h5 := G.blk 5 rfl
    (repeat refine Zlr ?_)
    by_cases hc : q1.c = 0
    · obtain ⟨⟨hc0, htw'⟩, hlen⟩ := c1.1 hc
      have htw' : tw = false := by simpa using htw'
      have hl64 : (slo q.f q.k).length < 64 := by have := of_decide_eq_true hlen; omega
      have e0 : q1 = q := by
        rw [← hq1]
        have e2 : needQ (!tw) p 7 q = q := if_neg fun h => by rw [htw'] at h; cases h.2
        rw [e2]
        exact if_neg fun h => by rw [decide_eq_true (by omega)] at h; cases h.2
      rw [e0] at G h1 hc ⊢
      clear e0 e1 c1 hq1
      refine c_f (by show Value.bool (q.c != 0) = _; rw [bne_eq_false_iff_eq.2 hc]) ?_
      (repeat refine Zlr ?_)
      have hvi : ∀ g, v.v.ownBlock = some g → g ≠ sb ∧ g ≠ b := fun g hg => by
        obtain ⟨c3, hc3⟩ := own_ty (G.at_.inn _ _ _ hv hsl) hg
        obtain ⟨c4, hc4⟩ := own_ty G.at_.so (show X.so.v.ownBlock = some sb from congrArg Value.ownBlock hsa)
        exact ⟨ty_ne hc3 hc4 rfl, ty_ne hc3 h1 rfl⟩
      obtain ⟨sb2, v', ha2, _, hv', _, hc6, _⟩ := G.at_.slots
      have esb : sb2 = sb := by rw [ha] at ha2; cases ha2; rfl
      subst esb
      obtain ⟨w, hw⟩ : ∃ w : World, w6 = w := ⟨_, rfl⟩
      rw [hw] at G h0 h1 hc6 ⊢
      have hvv : v' = v := by rw [hv] at hv'; exact (Option.some.inj hv').symm
      subst hvv
      have hg0 := h.k0.size
      have hsb0 : X.so.v.ownBlock = some sb2 := congrArg Value.ownBlock hsa
      refine k_h (fun w' => Kp (fun i => some i = v'.v.ownBlock) w w') [(0, false), (1, false), (2, false), (3, false), (4, false), (5, false), (6, false), (7, false), (8, false), (9, false), (10, false), (11, false), (12, false), (13, true), (14, true), (15, false), (16, true)] 16 (by kernel_rfl) (waits_of_last (by kernel_rfl)) (by kernel_rfl) (by kernel_rfl) (by kernel_rfl) rfl (fun w4 k4 q4 => ?_)
      have k4' : Kp (fun i => some i = v'.v.ownBlock) w w4 := k4.mono fun _ _ h => h.elim
      have hd1 : ∀ w', Kp (fun i => some i = v'.v.ownBlock) w w' → w'.heap[b]? = some (.cells (kc X q).toArray tC (0, 0)) := fun w' hw => hw.get h1 fun e => (hvi b e.symm).2 rfl
      have hcl1 : ∀ w', Kp (fun i => some i = v'.v.ownBlock) w w' → w'.cell? ⟨sb2, 0 + (q.f : Int).toNat * 1, none⟩ = some (.slice v'.a v'.n v'.c) := fun w' hw => hw.cell hc6 fun e => (hvi sb2 e.symm).1 rfl
      (repeat (first | refine Zhq ?_ | refine Zhgn ?_ | refine Zhgu ?_ | refine Zhgv ?_))
      refine h_v k4' (fun w' hw => r_ia rfl rfl hsa rfl (by omega) (by omega)) ?_
      (repeat (first | refine Zhq ?_ | refine Zhgn ?_ | refine Zhgu ?_ | refine Zhgv ?_))
      refine h_bs (cs := [.int .i64 kd]) (e := tInt) rfl (fun b6 w5 n5 => ⟨fun _ => k4'.no n5.kp, ?_⟩)
      have G := (G.no k4).no n5.kp
      have hg5 := G.sg.gs.kp.size
      refine h_app (v0 := v'.v) (k := (slo q.f q.k).length) (m := 1) (size := 1) (bytes := 8) (base := X.w.heap.size) (xs := (slo q.f q.k).map (Value.int .i64)) (news := [.int .i64 kd]) rfl rfl rfl rfl rfl rfl rfl rfl (G.at_.inn _ _ _ hv hsl) rfl (blk_cells n5.blk) rfl rfl (by omega) (by omega) (by omega) ?_
      intro v1 w7 ap
      obtain ⟨a9, c9, e9, _⟩ := own_read ap.own
      subst e9
      have kS7 : Kp (fun i => some i = v'.v.ownBlock) w w7 := (k4'.no n5.kp).trans ap.kp fun _ _ h => h
      refine ⟨fun _ => kS7, ?_⟩
      refine h_v kS7 (fun w' hw => r_ia rfl rfl hsa rfl (by omega) (by omega)) ?_
      have o7 := own_kp G.at_.so ap.kp fun g hg e => (hvi g e.symm).1 (by rw [hsb0] at hg; exact (Option.some.inj hg).symm)
      have e7 : X.so.v = .slice X.so.a X.S.fn.length X.so.c := by show Value.slice X.so.a X.so.n X.so.c = _; rw [hn]
      rw [e7] at o7
      obtain ⟨g, cur, eg, _, hb7, hk7, post⟩ := own_put (cs := q.vs.map Sl.v) (k := q.f) o7 (by rw [List.length_map, h.vl]; exact hff)
      have eg : g = sb2 := by rw [ha] at eg; cases eg; rfl
      subst eg
      have e0 : 0 + (q.f : Int).toNat * 1 = q.f := by omega
      refine h_st (vs := [.slice a9 ((slo q.f q.k).length + 1) c9]) rfl rfl rfl rfl rfl hb7 (by rw [e0]; exact hk7) (fun w8 s8 => ⟨fun h => (h rfl).elim, ?_⟩)
      rw [e0] at s8
      have s8 : Sb w7 g (cur.set q.f (.slice a9 ((slo q.f q.k).length + 1) c9)) tInts w8 := s8
      have G := G.call (Sk.slot G.at_ hv hsl hl64 ap hb7 s8 (by rw [e7]; exact post _ _ s8) hsb0)
      have h0 := G.blk 0 rfl; try have h1 := G.blk 1 rfl; try have h2 := G.blk 2 rfl; try have h3 := G.blk 3 rfl; try have h4 := G.blk 4 rfl; try have h5 := G.blk 5 rfl
      refine h_nil ?_
      (repeat refine Zlr ?_)
      obtain ⟨q2, hq2⟩ : ∃ q2 : Kq, { q with vs := q.vs.set q.f ⟨a9, (slo q.f q.k).length + 1, c9⟩, k := { q.k with sl := q.k.sl.set q.f (slo q.f q.k ++ [kd]) } } = q2 := ⟨_, rfl⟩
      have hq2' : q2.nm = q.nm ∧ q2.k = { q.k with sl := q.k.sl.set q.f (slo q.f q.k ++ [kd]) } ∧ q2.f = q.f ∧ q2.c = q.c := by rw [← hq2]; exact ⟨rfl, rfl, rfl, rfl⟩
      have ekc : kc X q2 = kc X q := by rw [← hq2]; rfl
      have G : Wk X w0 q w8 q2 [(b2, cs, tC), (b, kc X q2, tC)] := by rw [ekc, ← hq2]; exact G
      have A2 := G.at_
      obtain ⟨Sl2, hS2⟩ : ∃ m, slo q2.f q2.k = m ∧ m = slo q.f q.k ++ [kd] := ⟨_, rfl, by
        rw [hq2'.2.1, hq2'.2.2.1]
        unfold slo
        rw [List.getD_eq_getElem?_getD, List.getElem?_set_self (by rw [h.kl]; exact hff)]; rfl⟩
      have hlen2 : (slo q2.f q2.k).length = (slo q.f q.k).length + 1 := by rw [hS2.1, hS2.2]; simp
      have o2 := A2.nm
      rw [hq2'.1, hq2'.2.1] at o2
      have hone : (q.k.nm.flatMap nmC).all Value.oneCell' = true := by
        simp only [List.all_flatMap, List.all_eq_true]
        intro e _ x hx
        simp only [nmC, sv, List.mem_cons, List.mem_nil_iff, or_false] at hx
        rcases hx with rfl | rfl | rfl <;> rfl
      refine k_cutc (σ := Kq) (fun _ => [(4, .pointer (some ⟨b, 0, none⟩)), (8, .pointer (some ⟨b2, 0, none⟩)), (12, .int .i64 (v'.n : Int))])
        (fun q3 w' => Wk X w0 q w' q3 [(b2, cs, tC), (b, kc X q3, tC)] ∧ q3.k = { q2.k with nm := q2.k.nm ++ [(s, q.k.bl, (v'.n : Int))] } ∧ q3.f = q2.f ∧ q3.c = q2.c) ?_ ?_
      · have e2 : q2.k.nm = q.k.nm := by rw [hq2'.2.1]
        have ebl : q2.k.bl = q.k.bl := by rw [hq2'.2.1]
        have hsz := G.sg.gs.kp.size
        have hgs8 : X.w.heap.size ≤ w8.heap.size := by have := h.k0.size; omega
        have fin : ∀ {w13 : World} {a4 : Option Addr} {c4 : Nat} {w14 : World}, Kp No w8 w13 → w13.ownsRow X.w.heap.size tName 3 (.slice a4 (q.k.nm.length + 1) c4) (q.k.nm.length + 1) (q.k.nm.flatMap nmC ++ nmC (s, q.k.bl, (v'.n : Int))) →
            Sb w13 b ((kc X q).set 9 (.slice a4 (q.k.nm.length + 1) c4)) tC w14 → ∃ q3 : Kq, Wk X w0 q w14 q3 [(b2, cs, tC), (b, kc X q3, tC)] ∧ q3.k = { q2.k with nm := q2.k.nm ++ [(s, q.k.bl, (v'.n : Int))] } ∧ q3.f = q2.f ∧ q3.c = q2.c := by
          intro w13 a4 c4 w14 k13 o13 s14
          have G := G.no k13
          have h1 : w13.heap[b]? = some (.cells (kc X q2).toArray tC (0, 0)) := by rw [ekc]; exact k13.get0 h1
          have o := own_kp o13 s14.kp fun g hg e => by
            obtain ⟨c5, hc5⟩ := own_ty o13 hg
            exact ty_ne hc5 h1 rfl e
          rw [← ekc] at s14
          have G := G.put 1 rfl s14 rfl
          rw [hln] at o ⊢
          rw [← e2] at o G
          refine ⟨{ q2 with nm := ⟨a4, q2.k.nm.length + 1, c4⟩, k := { q2.k with nm := q2.k.nm ++ [(s, q.k.bl, ((slo q.f q.k).length : Int))] } }, ?_, rfl, rfl, rfl⟩
          exact G.mv (Sk.name (bl := q.k.bl) (m := (slo q.f q.k).length) G.at_ hs (by rw [hlen2]; omega) (by rw [hlen2, e2]; have := h.nb; omega) (by simpa using o))
        have hd2 : ∀ w', Kp No w8 w' → w'.heap[b]? = some (.cells (kc X q).toArray tC (0, 0)) := fun w' hw => hw.get0 h1
        refine k_ht (fun w' => Kp No w8 w') 12 (by kernel_rfl) (fun m1 k1 _ => ?_)
        refine t_q (i := 1) (by exact waits_of_last (by kernel_rfl)) (by kernel_rfl) rfl (by kernel_rfl) (by kernel_rfl) k1 (fun w' hw => r_fa rfl rfl) ?_
        refine t_q (i := 2) (by exact waits_of_last (by kernel_rfl)) (by kernel_rfl) rfl (by kernel_rfl) (by kernel_rfl) k1 (fun w' hw => r_ld rfl rfl (cell_of_blk (hd2 w' hw) rfl)) ?_
        refine t_q (i := 4) (by exact waits_of_last (by kernel_rfl)) (by kernel_rfl) rfl (by kernel_rfl) (by kernel_rfl) k1 (fun w' hw => r_mv rfl) ?_
        refine t_q (i := 5) (by exact waits_of_last (by kernel_rfl)) (by kernel_rfl) rfl (by kernel_rfl) (by kernel_rfl) k1 (fun w' hw => r_fa rfl rfl) ?_
        refine t_q (i := 6) (by exact waits_of_last (by kernel_rfl)) (by kernel_rfl) rfl (by kernel_rfl) (by kernel_rfl) k1 (fun w' hw => r_ld rfl rfl (cell_of_blk (hd2 w' hw) rfl)) ?_
        refine t_q (i := 7) (by exact waits_of_last (by kernel_rfl)) (by kernel_rfl) rfl (by kernel_rfl) (by kernel_rfl) k1 (fun w' hw => r_mv rfl) ?_
        refine t_q (i := 8) (by exact waits_of_last (by kernel_rfl)) (by kernel_rfl) rfl (by kernel_rfl) (by kernel_rfl) k1 (fun w' hw => r_bd rfl) ?_
        refine t_2 (i := 0) (i2 := 9) (by kernel_rfl) ?_ ?_
        · refine ts_nb (r := fun a => .slice (some a) 0 0) rfl (r_bs0 rfl rfl) (fun b7 m2 n7 => ⟨fun _ => k1.no n7.kp, ?_⟩)
          refine t_2 (i := 3) (i2 := 9) (by kernel_rfl) ?_ ?_
          · refine ts_o (ord := [(9, true), (10, true), (11, false), (12, true)]) (by exact waits_of_last (by kernel_rfl)) (by kernel_rfl) rfl (by kernel_rfl) rfl rfl ?_
            have n8 := n7
            have k2 := k1.no n7.kp
            refine h_cl (size := 3) (bytes := 32) (base := X.w.heap.size) (lo := w8.heap.size) (k := q.k.nm.length) (xs := q.k.nm.flatMap nmC) rfl rfl rfl rfl rfl rfl rfl rfl rfl n7.blk (by have := n7.ge; have := n8.ge; have := k1.size; have := n8.kp.size; have := n7.kp.size; omega) (by have := k2.size; omega) (own_kp o2 k2 fun _ _ h => h) rfl hone (by omega) (by omega) hgs8 ?_
            intro v3 w11 o11 k11 f11
            obtain ⟨a3, c3, e3, _⟩ := own_read o11
            subst e3
            have kA : Kp No w8 w11 := k2.from0' k11 fun i hi e => by have := n7.ge; have := n8.ge; have := k1.size; have := n8.kp.size; have := n7.kp.size; omega
            refine ⟨fun _ => kA, ?_⟩
            refine h_bs (cs := nmC (s, q.k.bl, (v'.n : Int))) (e := tName) rfl (fun b8 m4 n8 => ⟨fun _ => kA.no n8.kp, ?_⟩)
            have kN := kA.no n8.kp
            refine h_app (v0 := .slice a3 q.k.nm.length c3) (k := q.k.nm.length) (m := 1) (size := 3) (bytes := 32) (base := X.w.heap.size) (xs := q.k.nm.flatMap nmC) (news := nmC (s, q.k.bl, (v'.n : Int))) rfl rfl rfl rfl rfl rfl rfl rfl (own_kp o11 n8.kp fun _ _ h => h) rfl (blk_cells n8.blk) rfl rfl (by omega) (by omega) (by have := kN.size; omega) ?_
            intro v4 w13 ap
            obtain ⟨a4, c4, e4, _⟩ := own_read ap.own
            have kB : Kp No w8 w13 := kN.from0' ap.kp fun i hi e => by
              have := f11 i e.symm
              omega
            subst e4
            refine ⟨fun _ => kB, ?_⟩
            refine h_v kB (fun w' hw => r_fa rfl rfl) ?_
            refine h_st (vs := [.slice a4 (q.k.nm.length + 1) c4]) rfl rfl rfl rfl rfl (hd2 _ kB) (Nat.le_of_ble_eq_true rfl) (fun w14 s14 => ⟨fun h => (h rfl).elim, ?_⟩)
            obtain ⟨q3, hf3⟩ := fin kB ap.own s14
            refine h_nil ?_
            exact l_cut q3 ⟨rfl, rfl, rfl, trivial⟩ hf3
          · refine ts_o (ord := [(3, true), (10, true), (11, false), (12, true)]) (by exact waits_of_last (by kernel_rfl)) (by kernel_rfl) rfl (by kernel_rfl) rfl rfl ?_
            refine h_bs (cs := nmC (s, q.k.bl, (v'.n : Int))) (e := tName) rfl (fun b8 m3 n8 => ⟨fun _ => (k1.no n7.kp).no n8.kp, ?_⟩)
            have k2 := (k1.no n7.kp).no n8.kp
            refine h_cl (size := 3) (bytes := 32) (base := X.w.heap.size) (lo := w8.heap.size) (k := q.k.nm.length) (xs := q.k.nm.flatMap nmC) rfl rfl rfl rfl rfl rfl rfl rfl rfl (n8.kp.get0 n7.blk) (by have := n7.ge; have := n8.ge; have := k1.size; have := n8.kp.size; have := n7.kp.size; omega) (by have := k2.size; omega) (own_kp o2 k2 fun _ _ h => h) rfl hone (by omega) (by omega) hgs8 ?_
            intro v3 w11 o11 k11 f11
            obtain ⟨a3, c3, e3, _⟩ := own_read o11
            subst e3
            have kA : Kp No w8 w11 := k2.from0' k11 fun i hi e => by have := n7.ge; have := n8.ge; have := k1.size; have := n8.kp.size; have := n7.kp.size; omega
            refine ⟨fun _ => kA, ?_⟩
            have kN := kA
            have hb8 := k11.get n8.blk (by have := n7.lt; have := n8.ge; omega)
            refine h_app (v0 := .slice a3 q.k.nm.length c3) (k := q.k.nm.length) (m := 1) (size := 3) (bytes := 32) (base := X.w.heap.size) (xs := q.k.nm.flatMap nmC) (news := nmC (s, q.k.bl, (v'.n : Int))) rfl rfl rfl rfl rfl rfl rfl rfl o11 rfl (blk_cells hb8) rfl rfl (by omega) (by omega) (by have := kN.size; omega) ?_
            intro v4 w13 ap
            obtain ⟨a4, c4, e4, _⟩ := own_read ap.own
            have kB : Kp No w8 w13 := kN.from0' ap.kp fun i hi e => by
              have := f11 i e.symm
              omega
            subst e4
            refine ⟨fun _ => kB, ?_⟩
            refine h_v kB (fun w' hw => r_fa rfl rfl) ?_
            refine h_st (vs := [.slice a4 (q.k.nm.length + 1) c4]) rfl rfl rfl rfl rfl (hd2 _ kB) (Nat.le_of_ble_eq_true rfl) (fun w14 s14 => ⟨fun h => (h rfl).elim, ?_⟩)
            obtain ⟨q3, hf3⟩ := fin kB ap.own s14
            refine h_nil ?_
            exact l_cut q3 ⟨rfl, rfl, rfl, trivial⟩ hf3
        · refine ts_o (ord := [(0, true), (3, true), (10, true), (11, false), (12, true)]) (by exact waits_of_last (by kernel_rfl)) (by kernel_rfl) rfl (by kernel_rfl) rfl rfl ?_
          refine h_bs (cs := nmC (s, q.k.bl, (v'.n : Int))) (e := tName) rfl (fun b8 m2 n8 => ⟨fun _ => k1.no n8.kp, ?_⟩)
          refine h_bs0 rfl rfl (fun b7 m3 n7 => ⟨fun _ => (k1.no n8.kp).no n7.kp, ?_⟩)
          have k2 := (k1.no n8.kp).no n7.kp
          refine h_cl (size := 3) (bytes := 32) (base := X.w.heap.size) (lo := w8.heap.size) (k := q.k.nm.length) (xs := q.k.nm.flatMap nmC) rfl rfl rfl rfl rfl rfl rfl rfl rfl n7.blk (by have := n7.ge; have := n8.ge; have := k1.size; have := n8.kp.size; have := n7.kp.size; omega) (by have := k2.size; omega) (own_kp o2 k2 fun _ _ h => h) rfl hone (by omega) (by omega) hgs8 ?_
          intro v3 w11 o11 k11 f11
          obtain ⟨a3, c3, e3, _⟩ := own_read o11
          subst e3
          have kA : Kp No w8 w11 := k2.from0' k11 fun i hi e => by have := n7.ge; have := n8.ge; have := k1.size; have := n8.kp.size; have := n7.kp.size; omega
          refine ⟨fun _ => kA, ?_⟩
          have kN := kA
          have hb8 := k11.get (n7.kp.get0 n8.blk) (by have := n8.lt; have := n7.ge; omega)
          refine h_app (v0 := .slice a3 q.k.nm.length c3) (k := q.k.nm.length) (m := 1) (size := 3) (bytes := 32) (base := X.w.heap.size) (xs := q.k.nm.flatMap nmC) (news := nmC (s, q.k.bl, (v'.n : Int))) rfl rfl rfl rfl rfl rfl rfl rfl o11 rfl (blk_cells hb8) rfl rfl (by omega) (by omega) (by have := kN.size; omega) ?_
          intro v4 w13 ap
          obtain ⟨a4, c4, e4, _⟩ := own_read ap.own
          have kB : Kp No w8 w13 := kN.from0' ap.kp fun i hi e => by
            have := f11 i e.symm
            omega
          subst e4
          refine ⟨fun _ => kB, ?_⟩
          refine h_v kB (fun w' hw => r_fa rfl rfl) ?_
          refine h_st (vs := [.slice a4 (q.k.nm.length + 1) c4]) rfl rfl rfl rfl rfl (hd2 _ kB) (Nat.le_of_ble_eq_true rfl) (fun w14 s14 => ⟨fun h => (h rfl).elim, ?_⟩)
          obtain ⟨q3, hf3⟩ := fin kB ap.own s14
          refine h_nil ?_
          exact l_cut q3 ⟨rfl, rfl, rfl, trivial⟩ hf3
      rintro q3 l w14 ⟨G, hq3⟩
      have hsl3 : slo q3.f q3.k = slo q2.f q2.k := by rw [hq3.1, hq3.2.1]; rfl
      have h0 := G.blk 0 rfl; try have h1 := G.blk 1 rfl; try have h2 := G.blk 2 rfl; try have h3 := G.blk 3 rfl; try have h4 := G.blk 4 rfl; try have h5 := G.blk 5 rfl
      (repeat refine Zlr ?_)
      refine s_stw (vs := kc X q3) rfl rfl rfl rfl rfl h0 hcs (fun w s' => ?_)
      have G := G.put 0 rfl s' rfl
      have h0 := G.blk 0 rfl; try have h1 := G.blk 1 rfl; try have h2 := G.blk 2 rfl; try have h3 := G.blk 3 rfl; try have h4 := G.blk 4 rfl; try have h5 := G.blk 5 rfl
      (repeat refine Zlr ?_)
      have hkd : kdecl q.f q.k s kd = some ({ q.k with sl := q.k.sl.set q.f (slo q.f q.k ++ [kd]), nm := q.k.nm ++ [(s, q.k.bl, ((slo q.f q.k).length : Int))] }, ((slo q.f q.k).length : Int)) := if_pos ⟨by rw [htw, htw'], hl64⟩
      refine ret_c2 rfl (rv_agw rfl h0 rfl rfl) (rv_t rfl) ⟨q3, _, rfl, G.sg, fun h => (h hc0).elim, fun _ => ?_, by rw [hq3.2.1, hq2'.2.2.1], by rw [hq3.1, hq2'.2.1]; exact ⟨rfl, rfl⟩, by rw [hsl3, hlen2]; omega⟩
      rw [hkd]
      refine ⟨by rw [hq3.2.2, hq2'.2.2.2]; exact hc0, ?_, by simp only; omega⟩
      rw [hq3.1, hq2'.2.1, hln]
    · have hnd : q.c = 0 → kdecl q.f q.k s kd = none := fun h0 => by
        unfold kdecl
        rw [if_neg]
        rintro ⟨h2, h3⟩
        exact hc (c1.2 ⟨⟨h0, by rw [← htw, h2]; rfl⟩, decide_eq_true (by omega)⟩)
      refine c_t (by show Value.bool (q1.c != 0) = _; rw [bne_iff_ne.2 hc]) ?_
      (repeat refine Zlr ?_)
      refine s_stw (vs := kc X q1) rfl rfl rfl rfl rfl h0 hcs (fun w s => ?_)
      have G := G.put 0 rfl s rfl
      have h0 := G.blk 0 rfl; try have h1 := G.blk 1 rfl; try have h2 := G.blk 2 rfl; try have h3 := G.blk 3 rfl; try have h4 := G.blk 4 rfl; try have h5 := G.blk 5 rfl
      (repeat refine Zlr ?_)
      refine ret_c2 rfl (rv_agw rfl h0 rfl rfl) (rv_t rfl) ⟨q1, -1, rfl, G.sg, fun _ => hc, fun h0 => by rw [hnd h0]; exact hc, by rw [e1], by rw [e1]; exact ⟨rfl, rfl⟩, by rw [e1]; exact Nat.le_refl _⟩
end
end Go.Proofs.Ytkllhfajldnpoaa.Ck
