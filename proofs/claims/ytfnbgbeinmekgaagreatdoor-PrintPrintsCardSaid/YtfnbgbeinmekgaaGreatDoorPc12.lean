/- What the proofs of this seat lean on, part 12. -/
import Derived.Test.YtfnbgbeinmekgaaGreatDoorPc11
namespace Go.Proofs.YtfnbgbeinmekgaaGreatDoor.Rf
open Go Go.RowKit Fw Sy
set_option linter.unusedVariables false
set_option maxRecDepth 20000
section
variable {X : Cr} {w0 : World} {q : Q}
theorem isE {y : List Int} (hc : q.c ≠ 0) : isQ X y q = false := decide_eq_false fun h => hc h.1
abbrev Er (X : Cr) (w : World) (q : Q) (v : Value) (w' : World) : Prop := ∃ a, v = .tuple #[qv X q, .int .i64 a] ∧ Sg X w q w' q
theorem exprE (hc : q.c ≠ 0) (d : Int) (h : Aq X w0 q) : Ret Tryz.prog 110 [qv X q, .int .i64 d] w0 (Er X w0 q) := by
  refine ret_enter Tryz.func110 rfl Tryz.ntmps110 rfl ?_
  (repeat refine Zlr ?_)
  refine s_box (cs := qc X q) rfl rfl (fun b w n => ?_)
  have G := (Wb.start h).new n
  (repeat refine Zlr ?_)
  refine s_al rfl (fun b2 w n2 => ?_)
  have G := G.new n2
  have h0 := G.blk 0 rfl; try have h1 := G.blk 1 rfl; try have h2 := G.blk 2 rfl; try have h3 := G.blk 3 rfl; try have h4 := G.blk 4 rfl; try have h5 := G.blk 5 rfl
  (repeat refine Zlr ?_)
  refine s_call (us := []) (zs := []) (by kernel_rfl) rfl rfl (deepF G.at_ (d)) ?_
  rintro _ w ⟨rfl, k⟩
  have G := G.no k
  have G := G.mv (Sg.deep G.at_ (d := d))
  have h0 := G.blk 0 rfl; try have h1 := G.blk 1 rfl; try have h2 := G.blk 2 rfl; try have h3 := G.blk 3 rfl; try have h4 := G.blk 4 rfl; try have h5 := G.blk 5 rfl
  (repeat refine Zlr ?_)
  rw [deep_er hc] at G ⊢
  have h0 := G.blk 0 rfl; try have h1 := G.blk 1 rfl; try have h2 := G.blk 2 rfl; try have h3 := G.blk 3 rfl; try have h4 := G.blk 4 rfl; try have h5 := G.blk 5 rfl
  refine s_stw (vs := qc X (q)) rfl rfl rfl rfl rfl h1 rfl (fun w s => ?_)
  have G := G.put 1 rfl s rfl
  have h0 := G.blk 0 rfl; try have h1 := G.blk 1 rfl; try have h2 := G.blk 2 rfl; try have h3 := G.blk 3 rfl; try have h4 := G.blk 4 rfl; try have h5 := G.blk 5 rfl
  (repeat refine Zlr ?_)
  refine c_t (by show Value.bool (q.c != 0) = _; rw [bne_iff_ne.2 hc]) ?_
  (repeat refine Zlr ?_)
  refine s_stw (vs := qc X (q)) rfl rfl rfl rfl rfl h0 rfl (fun w s => ?_)
  have G := G.put 0 rfl s rfl
  have h0 := G.blk 0 rfl; try have h1 := G.blk 1 rfl; try have h2 := G.blk 2 rfl; try have h3 := G.blk 3 rfl; try have h4 := G.blk 4 rfl; try have h5 := G.blk 5 rfl
  (repeat refine Zlr ?_)
  exact ret_c2 rfl (rv_agw rfl h0 rfl rfl) (rv_t rfl) ⟨0, rfl, G.sg⟩
theorem primE (hc : q.c ≠ 0) (d : Int) (h : Aq X w0 q) : Ret Tryz.prog 145 [qv X q, .int .i64 d] w0 (Er X w0 q) := by
  refine ret_enter Tryz.func145 rfl Tryz.ntmps145 rfl ?_
  (repeat refine Zlr ?_)
  refine s_box (cs := qc X q) rfl rfl (fun b w n => ?_)
  have G := (Wb.start h).new n
  (repeat refine Zlr ?_)
  refine s_al rfl (fun b2 w n2 => ?_)
  have G := G.new n2
  have h0 := G.blk 0 rfl; try have h1 := G.blk 1 rfl; try have h2 := G.blk 2 rfl; try have h3 := G.blk 3 rfl; try have h4 := G.blk 4 rfl; try have h5 := G.blk 5 rfl
  (repeat refine Zlr ?_)
  refine c_t (by show Value.bool (q.c != 0) = _; rw [bne_iff_ne.2 hc]) ?_
  (repeat refine Zlr ?_)
  refine s_stw (vs := qc X (q)) rfl rfl rfl rfl rfl h0 rfl (fun w s => ?_)
  have G := G.put 0 rfl s rfl
  have h0 := G.blk 0 rfl; try have h1 := G.blk 1 rfl; try have h2 := G.blk 2 rfl; try have h3 := G.blk 3 rfl; try have h4 := G.blk 4 rfl; try have h5 := G.blk 5 rfl
  (repeat refine Zlr ?_)
  exact ret_c2 rfl (rv_agw rfl h0 rfl rfl) (rv_t rfl) ⟨0, rfl, G.sg⟩
theorem unaryE (hc : q.c ≠ 0) (d : Int) (h : Aq X w0 q) : Ret Tryz.prog 135 [qv X q, .int .i64 d] w0 (Er X w0 q) := by
  refine ret_enter Tryz.func135 rfl Tryz.ntmps135 rfl ?_
  (repeat refine Zlr ?_)
  refine s_box (cs := qc X q) rfl rfl (fun b w n => ?_)
  have G := (Wb.start h).new n
  (repeat refine Zlr ?_)
  refine s_al rfl (fun b2 w n2 => ?_)
  have G := G.new n2
  have h0 := G.blk 0 rfl; try have h1 := G.blk 1 rfl; try have h2 := G.blk 2 rfl; try have h3 := G.blk 3 rfl; try have h4 := G.blk 4 rfl; try have h5 := G.blk 5 rfl
  (repeat refine Zlr ?_)
  refine s_call (us := []) (zs := []) (by kernel_rfl) rfl rfl (hereF G.at_) ?_
  rintro _ w ⟨rfl, k⟩
  have G := G.no k
  have h0 := G.blk 0 rfl; try have h1 := G.blk 1 rfl; try have h2 := G.blk 2 rfl; try have h3 := G.blk 3 rfl; try have h4 := G.blk 4 rfl; try have h5 := G.blk 5 rfl
  (repeat refine Zlr ?_)
  refine s_set 15 true rfl (bne_iff_ne.2 hc) ?_
  (repeat (first | refine Zlr ?_ | refine Zn ?_ | refine Zu ?_ | refine Zg ?_ | refine Zgl ?_))
  refine c_t rfl ?_
  (repeat refine Zlr ?_)
  refine s_call (us := []) (zs := []) (by kernel_rfl) rfl rfl (primE hc d G.at_) ?_
  rintro _ w ⟨a, rfl, g⟩
  have G := G.call g
  have h0 := G.blk 0 rfl; try have h1 := G.blk 1 rfl; try have h2 := G.blk 2 rfl; try have h3 := G.blk 3 rfl; try have h4 := G.blk 4 rfl; try have h5 := G.blk 5 rfl
  (repeat refine Zlr ?_)
  refine s_stw (vs := qc X (q)) rfl rfl rfl rfl rfl h0 rfl (fun w s => ?_)
  have G := G.put 0 rfl s rfl
  have h0 := G.blk 0 rfl; try have h1 := G.blk 1 rfl; try have h2 := G.blk 2 rfl; try have h3 := G.blk 3 rfl; try have h4 := G.blk 4 rfl; try have h5 := G.blk 5 rfl
  (repeat refine Zlr ?_)
  exact ret_c2 rfl (rv_agw rfl h0 rfl rfl) (rv_t rfl) ⟨a, rfl, G.sg⟩
theorem rowE (hc : q.c ≠ 0) (d : Int) : ∀ (k v : Nat) (w0 : World), v + k = 5 → Aq X w0 q → Ret Tryz.prog 125 [qv X q, .int .i64 (v : Int), .int .i64 d] w0 (Er X w0 q) := by
  intro k
  induction k with
  | zero =>
    intro v w0 hv h
    have e : v = 5 := by omega
    subst e
    refine ret_enter Tryz.func125 rfl Tryz.ntmps125 rfl ?_
    (repeat refine Zlr ?_)
    refine s_box (cs := qc X q) rfl rfl (fun b w n => ?_)
    have G := (Wb.start h).new n
    (repeat refine Zlr ?_)
    refine s_al rfl (fun b2 w n2 => ?_)
    have G := G.new n2
    have h0 := G.blk 0 rfl; try have h1 := G.blk 1 rfl; try have h2 := G.blk 2 rfl; try have h3 := G.blk 3 rfl; try have h4 := G.blk 4 rfl; try have h5 := G.blk 5 rfl
    (repeat refine Zlr ?_)
    refine c_t rfl ?_
    (repeat refine Zlr ?_)
    refine s_call (us := []) (zs := []) (by kernel_rfl) rfl rfl (unaryE hc d G.at_) ?_
    rintro _ w ⟨a, rfl, g⟩
    have G := G.call g
    have h0 := G.blk 0 rfl; try have h1 := G.blk 1 rfl; try have h2 := G.blk 2 rfl; try have h3 := G.blk 3 rfl; try have h4 := G.blk 4 rfl; try have h5 := G.blk 5 rfl
    (repeat refine Zlr ?_)
    refine s_stw (vs := qc X (q)) rfl rfl rfl rfl rfl h0 rfl (fun w s => ?_)
    have G := G.put 0 rfl s rfl
    have h0 := G.blk 0 rfl; try have h1 := G.blk 1 rfl; try have h2 := G.blk 2 rfl; try have h3 := G.blk 3 rfl; try have h4 := G.blk 4 rfl; try have h5 := G.blk 5 rfl
    (repeat refine Zlr ?_)
    exact ret_c2 rfl (rv_agw rfl h0 rfl rfl) (rv_t rfl) ⟨a, rfl, G.sg⟩
  | succ k ih =>
    intro v w0 hv h
    refine ret_enter Tryz.func125 rfl Tryz.ntmps125 rfl ?_
    (repeat refine Zlr ?_)
    refine s_box (cs := qc X q) rfl rfl (fun b w n => ?_)
    have G := (Wb.start h).new n
    (repeat refine Zlr ?_)
    refine s_al rfl (fun b2 w n2 => ?_)
    have G := G.new n2
    have h0 := G.blk 0 rfl; try have h1 := G.blk 1 rfl; try have h2 := G.blk 2 rfl; try have h3 := G.blk 3 rfl; try have h4 := G.blk 4 rfl; try have h5 := G.blk 5 rfl
    (repeat refine Zlr ?_)
    refine c_eq rfl (fun e => by omega) (fun _ => ?_)
    (repeat refine Zlr ?_)
    refine s_call (us := []) (zs := []) (by kernel_rfl) rfl rfl (hereF G.at_) ?_
    rintro _ w ⟨rfl, k⟩
    have G := G.no k
    have h0 := G.blk 0 rfl; try have h1 := G.blk 1 rfl; try have h2 := G.blk 2 rfl; try have h3 := G.blk 3 rfl; try have h4 := G.blk 4 rfl; try have h5 := G.blk 5 rfl
    (repeat refine Zlr ?_)
    refine s_call (us := []) (zs := []) (by kernel_rfl) rfl rfl (ih (v + 1) _ (by omega) G.at_) ?_
    rintro _ w ⟨a, rfl, g⟩
    have G := G.call g
    have h0 := G.blk 0 rfl; try have h1 := G.blk 1 rfl; try have h2 := G.blk 2 rfl; try have h3 := G.blk 3 rfl; try have h4 := G.blk 4 rfl; try have h5 := G.blk 5 rfl
    (repeat refine Zlr ?_)
    refine s_stw (vs := qc X (q)) rfl rfl rfl rfl rfl h1 rfl (fun w s => ?_)
    have G := G.put 1 rfl s rfl
    have h0 := G.blk 0 rfl; try have h1 := G.blk 1 rfl; try have h2 := G.blk 2 rfl; try have h3 := G.blk 3 rfl; try have h4 := G.blk 4 rfl; try have h5 := G.blk 5 rfl
    (repeat refine Zlr ?_)
    refine k_loop (σ := Unit) (fun _ => [(1, .int .i64 (v : Int)), (3, .pointer (some ⟨b, 0, none⟩)), (6, .pointer (some ⟨b2, 0, none⟩)), (9, .int .i64 a)]) (fun _ w' => ∃ cs, cs.length = 8 ∧ Wb X w0 q w' q [(b2, cs, Tp), (b, qc X q, Tp)]) (fun _ => 0) () ⟨rfl, rfl, rfl, rfl, trivial⟩ ⟨_, rfl, G⟩ ?_
    rintro _ l w ⟨cs, hcs, G⟩
    have h0 := G.blk 0 rfl; try have h1 := G.blk 1 rfl; try have h2 := G.blk 2 rfl; try have h3 := G.blk 3 rfl; try have h4 := G.blk 4 rfl; try have h5 := G.blk 5 rfl
    (repeat refine Zlr ?_)
    refine s_call (us := []) (zs := []) (by kernel_rfl) rfl rfl (signF G.at_ v (by omega)) ?_
    rintro _ w ⟨rfl, k⟩
    have G := G.no k
    have h0 := G.blk 0 rfl; try have h1 := G.blk 1 rfl; try have h2 := G.blk 2 rfl; try have h3 := G.blk 3 rfl; try have h4 := G.blk 4 rfl; try have h5 := G.blk 5 rfl
    (repeat refine Zlr ?_)
    have es : signQ X v q = [] := if_neg fun h => hc h.1
    rw [es]
    refine c_f (congrArg Value.bool ez_sv) ?_
    (repeat refine Zlr ?_)
    refine s_stw (vs := qc X (q)) rfl rfl rfl rfl rfl h0 hcs (fun w s => ?_)
    have G := G.put 0 rfl s rfl
    have h0 := G.blk 0 rfl; try have h1 := G.blk 1 rfl; try have h2 := G.blk 2 rfl; try have h3 := G.blk 3 rfl; try have h4 := G.blk 4 rfl; try have h5 := G.blk 5 rfl
    (repeat refine Zlr ?_)
    exact ret_c2 rfl (rv_agw rfl h0 rfl rfl) (rv_t rfl) ⟨a, rfl, G.sg⟩
theorem blockE (hc : q.c ≠ 0) (d : Int) (h : Aq X w0 q) : Ret Tryz.prog 61 [qv X q, .int .i64 d] w0 fun v w' => v = .tuple #[qv X q, nilS] ∧ Sg X w0 q w' q := by
  refine ret_enter Tryz.func61 rfl Tryz.ntmps61 rfl ?_
  (repeat refine Zlr ?_)
  refine s_box (cs := qc X q) rfl rfl (fun b w n => ?_)
  have G := (Wb.start h).new n
  (repeat refine Zlr ?_)
  refine s_al rfl (fun b2 w n2 => ?_)
  have G := G.new n2
  have h0 := G.blk 0 rfl; try have h1 := G.blk 1 rfl; try have h2 := G.blk 2 rfl; try have h3 := G.blk 3 rfl; try have h4 := G.blk 4 rfl; try have h5 := G.blk 5 rfl
  (repeat refine Zlr ?_)
  refine s_call (us := []) (zs := []) (by kernel_rfl) rfl rfl (isW G.at_ wLcur (by decide) (by decide)) ?_
  rintro _ w ⟨rfl, k⟩
  have G := G.no k
  have h0 := G.blk 0 rfl; try have h1 := G.blk 1 rfl; try have h2 := G.blk 2 rfl; try have h3 := G.blk 3 rfl; try have h4 := G.blk 4 rfl; try have h5 := G.blk 5 rfl
  (repeat refine Zlr ?_)
  rw [isE hc]
  refine c_f rfl ?_
  (repeat refine Zlr ?_)
  refine s_call (us := []) (zs := []) (by kernel_rfl) rfl rfl (wantW G.at_ wLcur (by decide) (by decide)) ?_
  rintro _ w ⟨rfl, k⟩
  have G := G.no k
  have G := G.mv (Sg.want G.at_ (show wLcur ≠ [] by decide))
  have h0 := G.blk 0 rfl; try have h1 := G.blk 1 rfl; try have h2 := G.blk 2 rfl; try have h3 := G.blk 3 rfl; try have h4 := G.blk 4 rfl; try have h5 := G.blk 5 rfl
  (repeat refine Zlr ?_)
  rw [want_er hc] at G ⊢
  have h0 := G.blk 0 rfl; try have h1 := G.blk 1 rfl; try have h2 := G.blk 2 rfl; try have h3 := G.blk 3 rfl; try have h4 := G.blk 4 rfl; try have h5 := G.blk 5 rfl
  refine s_stw (vs := qc X (q)) rfl rfl rfl rfl rfl h1 rfl (fun w s => ?_)
  have G := G.put 1 rfl s rfl
  have h0 := G.blk 0 rfl; try have h1 := G.blk 1 rfl; try have h2 := G.blk 2 rfl; try have h3 := G.blk 3 rfl; try have h4 := G.blk 4 rfl; try have h5 := G.blk 5 rfl
  (repeat refine Zlr ?_)
  refine k_loop (σ := Unit) (fun _ => [(1, .int .i64 d), (2, .pointer (some ⟨b, 0, none⟩)), (4, .pointer (some ⟨b2, 0, none⟩)), (6, nilS)]) (fun _ w' => ∃ cs, cs.length = 8 ∧ Wb X w0 q w' q [(b2, cs, Tp), (b, qc X q, Tp)]) (fun _ => 0) () ⟨rfl, rfl, rfl, rfl, trivial⟩ ⟨_, rfl, G⟩ ?_
  rintro _ l w ⟨cs, hcs, G⟩
  have h0 := G.blk 0 rfl; try have h1 := G.blk 1 rfl; try have h2 := G.blk 2 rfl; try have h3 := G.blk 3 rfl; try have h4 := G.blk 4 rfl; try have h5 := G.blk 5 rfl
  (repeat refine Zlr ?_)
  refine s_set 19 false rfl (beq_eq_false_iff_ne.2 hc) ?_
  (repeat (first | refine Zlr ?_ | refine Zn ?_ | refine Zu ?_ | refine Zg ?_ | refine Zgl ?_))
  refine c_f rfl ?_
  (repeat refine Zlr ?_)
  refine s_call (us := []) (zs := []) (by kernel_rfl) rfl rfl (wantW G.at_ wRcur (by decide) (by decide)) ?_
  rintro _ w ⟨rfl, k⟩
  have G := G.no k
  have G := G.mv (Sg.want G.at_ (show wRcur ≠ [] by decide))
  have h0 := G.blk 0 rfl; try have h1 := G.blk 1 rfl; try have h2 := G.blk 2 rfl; try have h3 := G.blk 3 rfl; try have h4 := G.blk 4 rfl; try have h5 := G.blk 5 rfl
  (repeat refine Zlr ?_)
  rw [want_er hc] at G ⊢
  have h0 := G.blk 0 rfl; try have h1 := G.blk 1 rfl; try have h2 := G.blk 2 rfl; try have h3 := G.blk 3 rfl; try have h4 := G.blk 4 rfl; try have h5 := G.blk 5 rfl
  refine s_stw (vs := qc X (q)) rfl rfl rfl rfl rfl h0 hcs (fun w s => ?_)
  have G := G.put 0 rfl s rfl
  have h0 := G.blk 0 rfl; try have h1 := G.blk 1 rfl; try have h2 := G.blk 2 rfl; try have h3 := G.blk 3 rfl; try have h4 := G.blk 4 rfl; try have h5 := G.blk 5 rfl
  (repeat refine Zlr ?_)
  exact ret_c2 rfl (rv_agw rfl h0 rfl rfl) (rv_t rfl) ⟨rfl, G.sg⟩
theorem addE (hc : q.c ≠ 0) (fr : Int) (x : St) (la ma : Option Addr) (ln lc mn mc : Nat) (h : Aq X w0 q) :
    Ret Tryz.prog 111 [qv X q, .int .i64 fr, .agg (stC (x, .slice la ln lc, .slice ma mn mc)).toArray] w0 (RecS X w0 q (.er q.c q.p)) := by
  have := addF h fr x la ma ln lc mn mc (fun e => (hc e).elim)
  rwa [stt_e hc, bind_er] at this
theorem branchE (hc : q.c ≠ 0) (fr d : Int) (h : Aq X w0 q) (hd : 0 ≤ d ∧ d ≤ 65) : Ret Tryz.prog 109 [qv X q, .int .i64 fr, .int .i64 d] w0 (RecS X w0 q (.er q.c q.p)) := by
  refine ret_enter Tryz.func109 rfl Tryz.ntmps109 rfl ?_
  (repeat refine Zlr ?_)
  refine s_box (cs := qc X q) rfl rfl (fun b w n => ?_)
  have G := (Wb.start h).new n
  (repeat refine Zlr ?_)
  refine s_al rfl (fun b2 w n2 => ?_)
  have G := G.new n2
  have h0 := G.blk 0 rfl; try have h1 := G.blk 1 rfl; try have h2 := G.blk 2 rfl; try have h3 := G.blk 3 rfl; try have h4 := G.blk 4 rfl; try have h5 := G.blk 5 rfl
  (repeat refine Zlr ?_)
  refine s_call (us := []) (zs := []) (by kernel_rfl) rfl rfl (exprE hc d G.at_) ?_
  rintro _ w ⟨a, rfl, g⟩
  have G := G.call g
  have h0 := G.blk 0 rfl; try have h1 := G.blk 1 rfl; try have h2 := G.blk 2 rfl; try have h3 := G.blk 3 rfl; try have h4 := G.blk 4 rfl; try have h5 := G.blk 5 rfl
  (repeat refine Zlr ?_)
  refine s_al rfl (fun b' w n' => ?_)
  have G := G.new n'
  have h0 := G.blk 0 rfl; try have h1 := G.blk 1 rfl; try have h2 := G.blk 2 rfl; try have h3 := G.blk 3 rfl; try have h4 := G.blk 4 rfl; try have h5 := G.blk 5 rfl
  (repeat refine Zlr ?_)
  refine s_stw (vs := qc X (q)) rfl rfl rfl rfl rfl h0 rfl (fun w s => ?_)
  have G := G.put 0 rfl s rfl
  have h0 := G.blk 0 rfl; try have h1 := G.blk 1 rfl; try have h2 := G.blk 2 rfl; try have h3 := G.blk 3 rfl; try have h4 := G.blk 4 rfl; try have h5 := G.blk 5 rfl
  (repeat refine Zlr ?_)
  refine s_call (us := []) (zs := []) (by kernel_rfl) rfl rfl (blockE hc (d + 1) G.at_) ?_
  rintro _ w ⟨rfl, g⟩
  have G := G.call g
  have h0 := G.blk 0 rfl; try have h1 := G.blk 1 rfl; try have h2 := G.blk 2 rfl; try have h3 := G.blk 3 rfl; try have h4 := G.blk 4 rfl; try have h5 := G.blk 5 rfl
  (repeat refine Zlr ?_)
  refine s_al rfl (fun b' w n' => ?_)
  have G := G.new n'
  have h0 := G.blk 0 rfl; try have h1 := G.blk 1 rfl; try have h2 := G.blk 2 rfl; try have h3 := G.blk 3 rfl; try have h4 := G.blk 4 rfl; try have h5 := G.blk 5 rfl
  (repeat refine Zlr ?_)
  refine s_stw (vs := qc X (q)) rfl rfl rfl rfl rfl h0 rfl (fun w s => ?_)
  have G := G.put 0 rfl s rfl
  have h0 := G.blk 0 rfl; try have h1 := G.blk 1 rfl; try have h2 := G.blk 2 rfl; try have h3 := G.blk 3 rfl; try have h4 := G.blk 4 rfl; try have h5 := G.blk 5 rfl
  (repeat refine Zlr ?_)
  refine s_al rfl (fun b' w n' => ?_)
  have G := G.new n'
  have h0 := G.blk 0 rfl; try have h1 := G.blk 1 rfl; try have h2 := G.blk 2 rfl; try have h3 := G.blk 3 rfl; try have h4 := G.blk 4 rfl; try have h5 := G.blk 5 rfl
  (repeat refine Zlr ?_)
  refine s_stw (vs := stC ({ k := 5, a := a }, nilS, nilS)) rfl rfl rfl rfl rfl h0 rfl (fun w s => ?_)
  have G := G.put 0 rfl s rfl
  have h0 := G.blk 0 rfl; try have h1 := G.blk 1 rfl; try have h2 := G.blk 2 rfl; try have h3 := G.blk 3 rfl; try have h4 := G.blk 4 rfl; try have h5 := G.blk 5 rfl
  (repeat refine Zlr ?_)
  refine s_call (us := []) (zs := []) (by kernel_rfl) rfl rfl (isW G.at_ wElse (by decide) (by decide)) ?_
  rintro _ w ⟨rfl, k⟩
  have G := G.no k
  have h0 := G.blk 0 rfl; try have h1 := G.blk 1 rfl; try have h2 := G.blk 2 rfl; try have h3 := G.blk 3 rfl; try have h4 := G.blk 4 rfl; try have h5 := G.blk 5 rfl
  (repeat refine Zlr ?_)
  rw [isE hc]
  refine c_f rfl ?_
  (repeat refine Zlr ?_)
  refine s_call (us := []) (zs := []) (by kernel_rfl) rfl rfl (addE hc fr { k := 5, a := a } none none 0 0 0 0 G.at_) ?_
  rintro _ w ⟨q7, a7, rfl, g, r7⟩
  have G := G.call g
  have h0 := G.blk 0 rfl; try have h1 := G.blk 1 rfl; try have h2 := G.blk 2 rfl; try have h3 := G.blk 3 rfl; try have h4 := G.blk 4 rfl; try have h5 := G.blk 5 rfl
  (repeat refine Zlr ?_)
  refine s_stw (vs := qc X (q7)) rfl rfl rfl rfl rfl h3 rfl (fun w s => ?_)
  have G := G.put 3 rfl s rfl
  have h0 := G.blk 0 rfl; try have h1 := G.blk 1 rfl; try have h2 := G.blk 2 rfl; try have h3 := G.blk 3 rfl; try have h4 := G.blk 4 rfl; try have h5 := G.blk 5 rfl
  (repeat refine Zlr ?_)
  refine ret_c2 rfl (rv_agw rfl h3 rfl rfl) (rv_t rfl) ⟨q7, a7, rfl, G.sg, ?_⟩
  exact r7
set_option maxHeartbeats 1000000 in
theorem stmtE (hc : q.c ≠ 0) (d : Int) (h : Aq X w0 q) : Ret Tryz.prog 92 [qv X q, .int .i64 d] w0 (RecS X w0 q (.er q.c q.p)) := by
  refine ret_enter Tryz.func92 rfl Tryz.ntmps92 rfl ?_
  (repeat refine Zlr ?_)
  refine s_box (cs := qc X q) rfl rfl (fun b w n => ?_)
  have G := (Wb.start h).new n
  (repeat refine Zlr ?_)
  refine s_al rfl (fun b2 w n2 => ?_)
  have G := G.new n2
  have h0 := G.blk 0 rfl; try have h1 := G.blk 1 rfl; try have h2 := G.blk 2 rfl; try have h3 := G.blk 3 rfl; try have h4 := G.blk 4 rfl; try have h5 := G.blk 5 rfl
  (repeat refine Zlr ?_)
  refine s_call (us := []) (zs := []) (by kernel_rfl) rfl rfl (hereF G.at_) ?_
  rintro _ w ⟨rfl, k⟩
  have G := G.no k
  have h0 := G.blk 0 rfl; try have h1 := G.blk 1 rfl; try have h2 := G.blk 2 rfl; try have h3 := G.blk 3 rfl; try have h4 := G.blk 4 rfl; try have h5 := G.blk 5 rfl
  (repeat refine Zlr ?_)
  refine s_al rfl (fun b7 w n' => ?_)
  have G := G.new n'
  have h0 := G.blk 0 rfl; try have h1 := G.blk 1 rfl; try have h2 := G.blk 2 rfl; try have h3 := G.blk 3 rfl; try have h4 := G.blk 4 rfl; try have h5 := G.blk 5 rfl
  (repeat refine Zlr ?_)
  refine s_stw (vs := stC ({ k := 0 }, nilS, nilS)) rfl rfl rfl rfl rfl h0 rfl (fun w s => ?_)
  have G := G.put 0 rfl s rfl
  have h0 := G.blk 0 rfl; try have h1 := G.blk 1 rfl; try have h2 := G.blk 2 rfl; try have h3 := G.blk 3 rfl; try have h4 := G.blk 4 rfl; try have h5 := G.blk 5 rfl
  (repeat refine Zlr ?_)
  refine s_call (us := []) (zs := []) (by kernel_rfl) rfl rfl (isW G.at_ wIf (by decide) (by decide)) ?_
  rintro _ w ⟨rfl, k⟩
  have G := G.no k
  have h0 := G.blk 0 rfl; try have h1 := G.blk 1 rfl; try have h2 := G.blk 2 rfl; try have h3 := G.blk 3 rfl; try have h4 := G.blk 4 rfl; try have h5 := G.blk 5 rfl
  (repeat refine Zlr ?_)
  rw [isE hc]
  refine c_f rfl ?_
  (repeat refine Zlr ?_)
  refine s_call (us := []) (zs := []) (by kernel_rfl) rfl rfl (isW G.at_ wWhile (by decide) (by decide)) ?_
  rintro _ w ⟨rfl, k⟩
  have G := G.no k
  have h0 := G.blk 0 rfl; try have h1 := G.blk 1 rfl; try have h2 := G.blk 2 rfl; try have h3 := G.blk 3 rfl; try have h4 := G.blk 4 rfl; try have h5 := G.blk 5 rfl
  (repeat refine Zlr ?_)
  rw [isE hc]
  refine c_f rfl ?_
  (repeat refine Zlr ?_)
  refine s_call (us := []) (zs := []) (by kernel_rfl) rfl rfl (isW G.at_ wVar (by decide) (by decide)) ?_
  rintro _ w ⟨rfl, k⟩
  have G := G.no k
  have h0 := G.blk 0 rfl; try have h1 := G.blk 1 rfl; try have h2 := G.blk 2 rfl; try have h3 := G.blk 3 rfl; try have h4 := G.blk 4 rfl; try have h5 := G.blk 5 rfl
  (repeat refine Zlr ?_)
  rw [isE hc]
  refine c_f rfl ?_
  (repeat refine Zlr ?_)
  refine s_call (us := []) (zs := []) (by kernel_rfl) rfl rfl (isW G.at_ wBreak (by decide) (by decide)) ?_
  rintro _ w ⟨rfl, k⟩
  have G := G.no k
  have h0 := G.blk 0 rfl; try have h1 := G.blk 1 rfl; try have h2 := G.blk 2 rfl; try have h3 := G.blk 3 rfl; try have h4 := G.blk 4 rfl; try have h5 := G.blk 5 rfl
  (repeat refine Zlr ?_)
  rw [isE hc]
  refine c_f rfl ?_
  (repeat refine Zlr ?_)
  refine s_call (us := []) (zs := []) (by kernel_rfl) rfl rfl (isW G.at_ wCont (by decide) (by decide)) ?_
  rintro _ w ⟨rfl, k⟩
  have G := G.no k
  have h0 := G.blk 0 rfl; try have h1 := G.blk 1 rfl; try have h2 := G.blk 2 rfl; try have h3 := G.blk 3 rfl; try have h4 := G.blk 4 rfl; try have h5 := G.blk 5 rfl
  (repeat refine Zlr ?_)
  rw [isE hc]
  refine c_f rfl ?_
  (repeat refine Zlr ?_)
  refine s_call (us := []) (zs := []) (by kernel_rfl) rfl rfl (isW G.at_ wReturn (by decide) (by decide)) ?_
  rintro _ w ⟨rfl, k⟩
  have G := G.no k
  have h0 := G.blk 0 rfl; try have h1 := G.blk 1 rfl; try have h2 := G.blk 2 rfl; try have h3 := G.blk 3 rfl; try have h4 := G.blk 4 rfl; try have h5 := G.blk 5 rfl
  (repeat refine Zlr ?_)
  rw [isE hc]
  refine c_f rfl ?_
  (repeat refine Zlr ?_)
  refine s_call (us := []) (zs := []) (by kernel_rfl) rfl rfl (isW G.at_ wPrint (by decide) (by decide)) ?_
  rintro _ w ⟨rfl, k⟩
  have G := G.no k
  have h0 := G.blk 0 rfl; try have h1 := G.blk 1 rfl; try have h2 := G.blk 2 rfl; try have h3 := G.blk 3 rfl; try have h4 := G.blk 4 rfl; try have h5 := G.blk 5 rfl
  (repeat refine Zlr ?_)
  rw [isE hc]
  refine c_f rfl ?_
  (repeat refine Zlr ?_)
  refine s_call (us := []) (zs := []) (by kernel_rfl) rfl rfl (kindF G.at_ 1 (by decide)) ?_
  rintro _ w ⟨rfl, k⟩
  have G := G.no k
  have G := G.mv (Sg.kind G.at_ (show (1 : Int) ≠ 0 by decide))
  have h0 := G.blk 0 rfl; try have h1 := G.blk 1 rfl; try have h2 := G.blk 2 rfl; try have h3 := G.blk 3 rfl; try have h4 := G.blk 4 rfl; try have h5 := G.blk 5 rfl
  (repeat refine Zlr ?_)
  rw [(kind_er hc).1] at G ⊢
  rw [(kind_er hc).2]
  have h0 := G.blk 0 rfl; try have h1 := G.blk 1 rfl; try have h2 := G.blk 2 rfl; try have h3 := G.blk 3 rfl; try have h4 := G.blk 4 rfl; try have h5 := G.blk 5 rfl
  refine s_al rfl (fun b' w n' => ?_)
  have G := G.new n'
  have h0 := G.blk 0 rfl; try have h1 := G.blk 1 rfl; try have h2 := G.blk 2 rfl; try have h3 := G.blk 3 rfl; try have h4 := G.blk 4 rfl; try have h5 := G.blk 5 rfl
  (repeat refine Zlr ?_)
  refine s_stw (vs := qc X (q)) rfl rfl rfl rfl rfl h0 rfl (fun w s => ?_)
  have G := G.put 0 rfl s rfl
  have h0 := G.blk 0 rfl; try have h1 := G.blk 1 rfl; try have h2 := G.blk 2 rfl; try have h3 := G.blk 3 rfl; try have h4 := G.blk 4 rfl; try have h5 := G.blk 5 rfl
  (repeat refine Zlr ?_)
  refine s_stw (vs := qc X (q)) rfl rfl rfl rfl rfl h3 rfl (fun w s => ?_)
  have G := G.put 3 rfl s rfl
  have h0 := G.blk 0 rfl; try have h1 := G.blk 1 rfl; try have h2 := G.blk 2 rfl; try have h3 := G.blk 3 rfl; try have h4 := G.blk 4 rfl; try have h5 := G.blk 5 rfl
  (repeat refine Zlr ?_)
  refine s_call (us := []) (zs := []) (by kernel_rfl) rfl rfl (isW G.at_ wLpar (by decide) (by decide)) ?_
  rintro _ w ⟨rfl, k⟩
  have G := G.no k
  have h0 := G.blk 0 rfl; try have h1 := G.blk 1 rfl; try have h2 := G.blk 2 rfl; try have h3 := G.blk 3 rfl; try have h4 := G.blk 4 rfl; try have h5 := G.blk 5 rfl
  (repeat refine Zlr ?_)
  rw [isE hc]
  refine c_f rfl ?_
  (repeat refine Zlr ?_)
  refine s_call (us := []) (zs := []) (by kernel_rfl) rfl rfl (isW G.at_ wLbra (by decide) (by decide)) ?_
  rintro _ w ⟨rfl, k⟩
  have G := G.no k
  have h0 := G.blk 0 rfl; try have h1 := G.blk 1 rfl; try have h2 := G.blk 2 rfl; try have h3 := G.blk 3 rfl; try have h4 := G.blk 4 rfl; try have h5 := G.blk 5 rfl
  (repeat refine Zlr ?_)
  rw [isE hc]
  refine c_f rfl ?_
  (repeat refine Zlr ?_)
  refine s_call (us := []) (zs := []) (by kernel_rfl) rfl rfl (wantW G.at_ wEq (by decide) (by decide)) ?_
  rintro _ w ⟨rfl, k⟩
  have G := G.no k
  have G := G.mv (Sg.want G.at_ (show wEq ≠ [] by decide))
  have h0 := G.blk 0 rfl; try have h1 := G.blk 1 rfl; try have h2 := G.blk 2 rfl; try have h3 := G.blk 3 rfl; try have h4 := G.blk 4 rfl; try have h5 := G.blk 5 rfl
  (repeat refine Zlr ?_)
  rw [want_er hc] at G ⊢
  have h0 := G.blk 0 rfl; try have h1 := G.blk 1 rfl; try have h2 := G.blk 2 rfl; try have h3 := G.blk 3 rfl; try have h4 := G.blk 4 rfl; try have h5 := G.blk 5 rfl
  refine s_call (us := []) (zs := []) (by kernel_rfl) rfl rfl (exprE hc d G.at_) ?_
  rintro _ w ⟨a, rfl, g⟩
  have G := G.call g
  have h0 := G.blk 0 rfl; try have h1 := G.blk 1 rfl; try have h2 := G.blk 2 rfl; try have h3 := G.blk 3 rfl; try have h4 := G.blk 4 rfl; try have h5 := G.blk 5 rfl
  (repeat refine Zlr ?_)
  refine s_al rfl (fun b' w n' => ?_)
  have G := G.new n'
  have h0 := G.blk 0 rfl; try have h1 := G.blk 1 rfl; try have h2 := G.blk 2 rfl; try have h3 := G.blk 3 rfl; try have h4 := G.blk 4 rfl; try have h5 := G.blk 5 rfl
  (repeat refine Zlr ?_)
  refine s_stw (vs := qc X (q)) rfl rfl rfl rfl rfl h0 rfl (fun w s => ?_)
  have G := G.put 0 rfl s rfl
  have h0 := G.blk 0 rfl; try have h1 := G.blk 1 rfl; try have h2 := G.blk 2 rfl; try have h3 := G.blk 3 rfl; try have h4 := G.blk 4 rfl; try have h5 := G.blk 5 rfl
  (repeat refine Zlr ?_)
  refine s_stw (vs := qc X (q)) rfl rfl rfl rfl rfl h4 rfl (fun w s => ?_)
  have G := G.put 4 rfl s rfl
  have h0 := G.blk 0 rfl; try have h1 := G.blk 1 rfl; try have h2 := G.blk 2 rfl; try have h3 := G.blk 3 rfl; try have h4 := G.blk 4 rfl; try have h5 := G.blk 5 rfl
  (repeat refine Zlr ?_)
  refine s_stw (vs := stC ({ k := 3, nm := [], a := a }, nilS, nilS)) rfl rfl rfl rfl rfl h2 rfl (fun w s => ?_)
  have G := G.put 2 rfl s rfl
  have h0 := G.blk 0 rfl; try have h1 := G.blk 1 rfl; try have h2 := G.blk 2 rfl; try have h3 := G.blk 3 rfl; try have h4 := G.blk 4 rfl; try have h5 := G.blk 5 rfl
  (repeat refine Zlr ?_)
  have hb7 := G.bx 2 _ _ _ rfl
  have hb := G.bx 4 _ _ _ rfl
  have n72 : b7 ≠ b2 := fun e => by
    have := G.nd 2 3 b7 _ _ _ _ rfl (by rw [e]; rfl)
    omega
  have nb2 : b ≠ b2 := fun e => by
    have := G.nd 4 3 b _ _ _ _ rfl (by rw [e]; rfl)
    omega
  (repeat refine Zlr ?_)
  refine k_h (fun w' => Kp (fun i => Sx q i ∨ i = b2) w w') [(0, false), (2, false), (3, false), (1, true), (4, true), (5, false), (6, false), (7, true), (8, false)] 9 (by kernel_rfl) (waits_none) (by kernel_rfl) (by kernel_rfl) (by kernel_rfl) rfl (fun w4 k4 q4' => ?_)
  have k4' : Kp (fun i => Sx q i ∨ i = b2) w w4 := k4.mono fun _ _ h => h.elim
  have G := G.no k4
  refine h_v k4' (fun w' hw => r_ldw rfl (hw.get hb.2.1 (fun e => e.elim hb.2.2 nb2)) rfl rfl) ?_
  refine h_v k4' (fun w' hw => r_mv rfl) ?_
  refine h_v k4' (fun w' hw => r_ldw rfl (hw.get hb7.2.1 (fun e => e.elim hb7.2.2 n72)) rfl rfl) ?_
  refine h_call (us := []) (zs := []) (by kernel_rfl) rfl rfl (wantW G.at_ wSemi (by decide) (by decide)) ?_
  rintro _ w5 ⟨rfl, k5⟩
  have G := G.no k5
  have k5' : Kp (fun i => Sx q i ∨ i = b2) _ w5 := k4'.no k5
  refine ⟨fun _ => k5', ?_⟩
  rw [want_er hc]
  refine h_call (us := []) (zs := []) (by kernel_rfl) rfl rfl (addE hc (Sy.hr X.E q.s) { k := 3, nm := [], a := a } none none 0 0 0 0 G.at_) ?_
  rintro _ w6 ⟨q6, a6, rfl, g6, r6⟩
  have G := G.call g6
  have k6 : Kp (fun i => Sx q i ∨ i = b2) _ w6 := k5'.trans (g6.gs.kp.mono fun _ _ h => .inl h) fun _ _ h => h
  refine ⟨fun _ => k6, ?_⟩
  refine h_v k6 (fun w' hw => r_ex rfl) ?_
  refine h_v k6 (fun w' hw => r_ex rfl) ?_
  have g1 := G.blk 3 rfl
  refine h_st (vs := qc X q6) rfl rfl rfl rfl rfl g1 (Nat.le_of_ble_eq_true rfl) (fun w7 s7 => ⟨fun _ => k6.trans s7.kp fun _ _ h => .inr h, ?_⟩)
  have s7 : Sb _ b2 (qc X q6) _ w7 := s7
  have G := G.put 3 rfl s7 rfl
  have k7 : Kp (fun i => Sx q i ∨ i = b2) _ w7 := k6.trans s7.kp fun _ _ h => .inr h
  refine h_v k7 (fun w' hw => r_as rfl) ?_
  refine h_nil ?_
  have g1 := G.blk 3 rfl
  (repeat refine Zlr ?_)
  exact ret_c2 rfl (rv_agw rfl g1 rfl rfl) (rv_t rfl) ⟨q6, a6, rfl, G.sg, r6⟩
end
theorem Er.rec {X : Cr} {w : World} {q : Q} (hc : q.c ≠ 0) {g : PS → Rs Int} {v : Value} {w' : World} (h : Er X w q v w') : RecS X w q (On q g) v w' := by
  obtain ⟨a, rfl, g⟩ := h
  exact ⟨q, a, rfl, g, Res.of_er hc hc⟩
theorem wk_of {X : Cr} {L : Lv}
    (h1 : ∀ (v : Nat) (d : Int) (q : Q) (w : World), q.c = 0 → v ≤ 5 → 0 ≤ d ∧ d ≤ 64 → Aq X w q → On q (L.row v d) ≠ .out → Ret Tryz.prog 125 [qv X q, .int .i64 (v : Int), .int .i64 d] w (RecS X w q (On q (L.row v d))))
    (h2 : ∀ (d : Int) (q : Q) (w : World), q.c = 0 → 0 ≤ d ∧ d ≤ 65 → Aq X w q → On q (L.expr d) ≠ .out → Ret Tryz.prog 110 [qv X q, .int .i64 d] w (RecS X w q (On q (L.expr d))))
    (h3 : ∀ (d : Int) (q : Q) (w : World), q.c = 0 → 0 ≤ d ∧ d ≤ 64 → Aq X w q → On q (L.unary d) ≠ .out → Ret Tryz.prog 135 [qv X q, .int .i64 d] w (RecS X w q (On q (L.unary d))))
    (h4 : ∀ (d : Int) (q : Q) (w : World), q.c = 0 → 0 ≤ d ∧ d ≤ 64 → Aq X w q → On q (L.prim d) ≠ .out → Ret Tryz.prog 145 [qv X q, .int .i64 d] w (RecS X w q (On q (L.prim d))))
    (h5 : ∀ (d : Int) (q : Q) (w : World), q.c = 0 → 0 ≤ d ∧ d ≤ 64 → Aq X w q → On q (L.stmt d) ≠ .out → Ret Tryz.prog 92 [qv X q, .int .i64 d] w (RecS X w q (On q (L.stmt d))))
    (h6 : ∀ (fr d : Int) (q : Q) (w : World), q.c = 0 → 0 ≤ d ∧ d ≤ 65 → (q.c = 0 → d ≤ 64) → Aq X w q → On q (L.branch fr d) ≠ .out → Ret Tryz.prog 109 [qv X q, .int .i64 fr, .int .i64 d] w (RecS X w q (On q (L.branch fr d)))) : Wk X L := by
  refine ⟨fun v d q w hv hd h hr => ?_, fun d q w hd h hr => ?_, fun d q w hd h hr => ?_, fun d q w hd h hr => ?_, fun d q w hd h hr => ?_, fun fr d q w hd hd4 h hr => ?_⟩ <;> by_cases hc : q.c = 0
  · exact h1 v d q w hc hv hd h hr
  · exact (rowE hc d (5 - v) v w (by omega) h).mono fun _ _ k => Er.rec hc k
  · exact h2 d q w hc hd h hr
  · exact (exprE hc d h).mono fun _ _ k => Er.rec hc k
  · exact h3 d q w hc hd h hr
  · exact (unaryE hc d h).mono fun _ _ k => Er.rec hc k
  · exact h4 d q w hc hd h hr
  · exact (primE hc d h).mono fun _ _ k => Er.rec hc k
  · exact h5 d q w hc hd h hr
  · rw [On_e hc]; exact stmtE hc d h
  · exact h6 fr d q w hc hd hd4 h hr
  · rw [On_e hc]; exact branchE hc fr d h hd
theorem wk_lv {X : Cr} : ∀ n, ∀ m, m ≤ n → Wk X (lv X.E m) := by
  intro n
  induction n with
  | zero =>
    intro m hm
    rw [show m = 0 by omega]
    have no : ∀ {q : Q}, q.c = 0 → On q (fun _ => (.out : Rs Int)) ≠ .out → False := fun hc h => h (by rw [On_c hc])
    exact wk_of (fun v d q w hc _ _ _ h => (no hc h).elim) (fun d q w hc _ _ h => (no hc h).elim) (fun d q w hc _ _ h => (no hc h).elim) (fun d q w hc _ _ h => (no hc h).elim) (fun d q w hc _ _ h => (no hc h).elim) (fun fr d q w hc _ _ _ h => (no hc h).elim)
  | succ n ih =>
    intro m hm
    rcases Nat.lt_or_ge m (n + 1) with h1 | h1
    · exact ih m (by omega)
    · rw [show m = n + 1 by omega]
      have hL := ih n (Nat.le_refl _)
      have hB := bd_lv (E := X.E) n
      have hC := callF ih
      have hK := blockF ih
      exact wk_of (fun v d q w _ hv hd h hr => rowF ih v d hv hd h hr) (fun d q w _ hd h hr => exprF hL d hd h hr) (fun d q w _ hd h hr => unaryF hB hL d hd h hr) (fun d q w _ hd h hr => primF hB hL hC d hd h hr) (fun d q w _ hd h hr => stmtF hB hL hK hC d q w hd h hr) (fun fr d q w _ hd hd4 h hr => branchF hB hL hK fr d q w hd hd4 h hr)
end Go.Proofs.YtfnbgbeinmekgaaGreatDoor.Rf
namespace Go.Proofs.YtfnbgbeinmekgaaGreatDoor.Rf
open Go Go.RowKit Fw Sy
set_option linter.unusedVariables false
set_option maxRecDepth 20000
structure FctS where
  m : Nat
  l : List (List Int)
  a : Option Addr
  c : Nat
  q : Q
def prmsX (E : Env) (n : Nat) (l : List (List Int)) (s : PS) : Rs (List (List Int)) := if l = [] ∨ wd E s = wComma ∨ wd E s = wRpar then prms E n l s else Sy.er E 3 s
theorem prmsX_snoc {E : Env} {n : Nat} {l : List (List Int)} {a : List Int} {s : PS} : prmsX E n (l ++ [a]) s = if wd E s = wComma ∨ wd E s = wRpar then prms E n (l ++ [a]) s else Sy.er E 3 s := by
  simp [prmsX]
theorem snoc_sv {l : List (List Int)} {a : List Int} : l.map sv ++ [sv a] = (l ++ [a]).map sv := by simp
section
variable {X : Cr}
/-- What stands behind the parameters. -/
def tlF (E : Env) (N : Nat) (fr : Int) (nm : List Int) (ps : List (List Int)) (s4 : PS) : Rs Unit :=
  (if wd E s4 = wInt then Rs.ok (1 : Int) (adv s4) else .ok 4 s4).bind fun ty s5 => (block E (lv E N) 1 s5).bind fun bd s6 => .ok () { s6 with fn := s6.fn ++ [{ nm := nm, f := fr, e := pe E s6, ps := ps, ty := ty, bd := bd }] }
theorem fct_eq (E : Env) (N : Nat) (s : PS) : fct E N s = (if wd E s = wFunc ∧ 32 ≤ s.fn.length then Sy.er E 5 s else .ok () s).bind fun _ s0 => (Sy.want E wFunc s0).bind fun _ s1 => (knd E 1 s1).bind fun nm s2 => (Sy.want E wLpar s2).bind fun _ s3 => (prms E N [] s3).bind fun ps s4 => tlF E N (Sy.hr E s) nm ps s4 := rfl
set_option maxHeartbeats 8000000 in
theorem functionF (N : Nat) (q : Q) (w0 : World) (hc0 : q.c = 0) (h : Aq X w0 q) (hr : fct X.E N q.s ≠ .out) : Ret Tryz.prog 31 [qv X q] w0 fun v w' => ∃ q', v = qv X q' ∧ Sg X w0 q w' q' ∧ Res (fct X.E N q.s) q' () := by
  have hK : BlockD X (lv X.E N) := blockF (wk_lv N)
  refine ret_enter Tryz.func31 rfl Tryz.ntmps31 rfl ?_
  (repeat refine Zlr ?_)
  refine s_box (cs := qc X q) rfl rfl (fun b w n => ?_)
  have G := (Wb.start h).new n
  (repeat refine Zlr ?_)
  refine s_al rfl (fun b2 w n2 => ?_)
  have G := G.new n2
  have h0 := G.blk 0 rfl; try have h1 := G.blk 1 rfl; try have h2 := G.blk 2 rfl; try have h3 := G.blk 3 rfl; try have h4 := G.blk 4 rfl; try have h5 := G.blk 5 rfl
  (repeat refine Zlr ?_)
  refine s_call (us := []) (zs := []) (by kernel_rfl) rfl rfl (hereF G.at_) ?_
  rintro _ w ⟨rfl, k⟩
  have G := G.no k
  have h0 := G.blk 0 rfl; try have h1 := G.blk 1 rfl; try have h2 := G.blk 2 rfl; try have h3 := G.blk 3 rfl; try have h4 := G.blk 4 rfl; try have h5 := G.blk 5 rfl
  (repeat (first | refine k_nil ?_ | refine k_n ?_ | refine k_r ?_ | refine k_x ?_ | refine b_n ?_ | refine b_r ?_ | refine b_y rfl ?_ | refine b_z rfl ?_ | refine l_r ?_ | refine l_x ?_ | refine k_seq ?_ | refine k_blk ?_ | refine k_ret ?_ | refine k_exit ?_ | refine k_skip ?_ | refine Zs ?_ | refine Zl ?_))
  obtain ⟨_, _, hzn⟩ := (h.gd hc0).ny
  have hfl := (h.gd hc0).fl
  obtain ⟨fr, hfr⟩ : ∃ fr, Sy.hr X.E q.s = fr := ⟨_, rfl⟩
  rw [hfr]
  refine k_cutc (σ := Unit) (fun _ => [(1, .pointer (some ⟨b, 0, none⟩)), (2, .pointer (some ⟨b2, 0, none⟩)), (3, .int .i64 fr), (21, .bool (decide (wd X.E q.s = wFunc ∧ 32 ≤ q.s.fn.length)))])
    (fun _ w' => ∃ cs, cs.length = 8 ∧ Wb X w0 q w' q [(b2, cs, Tp), (b, qc X q, Tp)]) ?_ ?_
  · (repeat refine Zlr ?_)
    refine s_call (us := []) (zs := []) (by kernel_rfl) rfl rfl (isW G.at_ wFunc (by decide) (by decide)) ?_
    rintro _ w ⟨rfl, k⟩
    have G := G.no k
    have h0 := G.blk 0 rfl; try have h1 := G.blk 1 rfl; try have h2 := G.blk 2 rfl; try have h3 := G.blk 3 rfl; try have h4 := G.blk 4 rfl; try have h5 := G.blk 5 rfl
    (repeat refine Zlr ?_)
    cases hi : isQ X wFunc q with
    | true =>
      have hw := (is_yes hi).2
      (repeat (first | refine Zlr ?_ | refine Zn ?_ | refine Zu ?_ | refine Zg ?_ | refine Zgl ?_))
      refine l_cut () ⟨rfl, rfl, rfl, ?_, trivial⟩ ⟨_, rfl, G⟩
      show Value.bool (decide ((q.z.n : Int) ≥ 32)) = Value.bool _
      congr 1
      rw [hzn]
      simp [hw]
      omega
    | false =>
      (repeat (first | refine Zlr ?_ | refine Zn ?_ | refine Zu ?_ | refine Zg ?_ | refine Zgl ?_))
      refine l_cut () ⟨rfl, rfl, rfl, ?_, trivial⟩ ⟨_, rfl, G⟩
      show Value.bool false = Value.bool _
      congr 1
      have := is_no hi hc0
      simp [this]
  clear G h0 h1
  rintro _ lx w ⟨cs, hcs, G⟩
  have h0 := G.blk 0 rfl; try have h1 := G.blk 1 rfl; try have h2 := G.blk 2 rfl; try have h3 := G.blk 3 rfl; try have h4 := G.blk 4 rfl; try have h5 := G.blk 5 rfl
  (repeat (first | refine k_nil ?_ | refine k_n ?_ | refine k_r ?_ | refine k_x ?_ | refine b_n ?_ | refine b_r ?_ | refine b_y rfl ?_ | refine b_z rfl ?_ | refine l_r ?_ | refine l_x ?_ | refine k_seq ?_ | refine k_blk ?_ | refine k_ret ?_ | refine k_exit ?_ | refine k_skip ?_ | refine Zs ?_ | refine Zl ?_))
  rw [fct_eq, hfr] at hr ⊢
  refine k_cutc (σ := Q) (fun _ => [(1, .pointer (some ⟨b, 0, none⟩)), (2, .pointer (some ⟨b2, 0, none⟩)), (3, .int .i64 fr)])
    (fun q1 w' => Wb X w0 q w' q1 [(b2, cs, Tp), (b, qc X q1, Tp)] ∧ Res (if wd X.E q.s = wFunc ∧ 32 ≤ q.s.fn.length then Sy.er X.E 5 q.s else .ok () q.s) q1 () ∧ (q1.c = 0 → wd X.E q1.s = wFunc → q1.s.fn.length < 32)) ?_ ?_
  · by_cases hbad : wd X.E q.s = wFunc ∧ 32 ≤ q.s.fn.length
    · refine c_t (congrArg Value.bool (decide_eq_true hbad)) ?_
      (repeat refine Zlr ?_)
      refine s_call (us := []) (zs := []) (by kernel_rfl) rfl rfl (failF 5 G.at_) ?_
      rintro _ w ⟨rfl, k⟩
      have G := G.no k
      have G := G.mv (Sg.fail G.at_ (show (5 : Int) ≠ 0 by decide))
      have h0 := G.blk 0 rfl; try have h1 := G.blk 1 rfl; try have h2 := G.blk 2 rfl; try have h3 := G.blk 3 rfl; try have h4 := G.blk 4 rfl; try have h5 := G.blk 5 rfl
      (repeat refine Zlr ?_)
      refine s_stw (vs := qc X (failQ X 5 q)) rfl rfl rfl rfl rfl h1 rfl (fun w s => ?_)
      have G := G.put 1 rfl s rfl
      have h0 := G.blk 0 rfl; try have h1 := G.blk 1 rfl; try have h2 := G.blk 2 rfl; try have h3 := G.blk 3 rfl; try have h4 := G.blk 4 rfl; try have h5 := G.blk 5 rfl
      (repeat refine Zlr ?_)
      refine l_cut (failQ X 5 q) ⟨rfl, rfl, rfl, trivial⟩ ⟨G, ?_, fun h => (failQ_c (by decide) h).elim⟩
      rw [if_pos hbad]; exact failQ_c (by decide)
    · refine c_f (congrArg Value.bool (decide_eq_false hbad)) ?_
      (repeat refine Zlr ?_)
      refine l_cut q ⟨rfl, rfl, rfl, trivial⟩ ⟨G, ?_, fun _ hw => ?_⟩
      · rw [if_neg hbad]; exact ⟨hc0, rfl, rfl⟩
      · rcases Nat.lt_or_ge q.s.fn.length 32 with h | h
        · exact h
        · exact (hbad ⟨hw, h⟩).elim
  clear G h0 h1
  rintro q1 lx w ⟨G, r1, f1⟩
  have h0 := G.blk 0 rfl; try have h1 := G.blk 1 rfl; try have h2 := G.blk 2 rfl; try have h3 := G.blk 3 rfl; try have h4 := G.blk 4 rfl; try have h5 := G.blk 5 rfl
  (repeat refine Zlr ?_)
  refine s_call (us := []) (zs := []) (by kernel_rfl) rfl rfl (wantW G.at_ wFunc (by decide) (by decide)) ?_
  rintro _ w ⟨rfl, k⟩
  have G := G.no k
  have G := G.mv (Sg.want G.at_ (show wFunc ≠ [] by decide))
  have h0 := G.blk 0 rfl; try have h1 := G.blk 1 rfl; try have h2 := G.blk 2 rfl; try have h3 := G.blk 3 rfl; try have h4 := G.blk 4 rfl; try have h5 := G.blk 5 rfl
  (repeat refine Zlr ?_)
  have r2 : q1.c = 0 → Res (Sy.want X.E wFunc q1.s) (wantQ X wFunc q1) () := fun h => want_res wFunc h
  have e2 : q1.c ≠ 0 → (wantQ X wFunc q1).c ≠ 0 := fun h => by rw [want_er h]; exact h
  have f2 : (wantQ X wFunc q1).c = 0 → (wantQ X wFunc q1).s.fn.length < 32 := fun h => by
    obtain ⟨h1, h2, h3⟩ := want_c h
    rw [h3]; exact f1 h1 h2
  have b2' : (wantQ X wFunc q1).c = 0 → q1.c = 0 := fun h => (want_c h).1
  generalize wantQ X wFunc q1 = q2 at *
  refine s_call (us := []) (zs := []) (by kernel_rfl) rfl rfl (kindF G.at_ 1 (by decide)) ?_
  rintro _ w ⟨rfl, k⟩
  have G := G.no k
  have G := G.mv (Sg.kind G.at_ (show (1 : Int) ≠ 0 by decide))
  have h0 := G.blk 0 rfl; try have h1 := G.blk 1 rfl; try have h2 := G.blk 2 rfl; try have h3 := G.blk 3 rfl; try have h4 := G.blk 4 rfl; try have h5 := G.blk 5 rfl
  (repeat refine Zlr ?_)
  have r3 : q2.c = 0 → Res (knd X.E 1 q2.s) (kindQ X 1 q2) (kindW X 1 q2) := fun h => kind_res 1 h
  have e3 : q2.c ≠ 0 → (kindQ X 1 q2).c ≠ 0 := fun h => by rw [(kind_er h).1]; exact h
  have f3 : (kindQ X 1 q2).c = 0 → (kindQ X 1 q2).s.fn.length < 32 := fun h => by
    obtain ⟨h1, h2, h3, _⟩ := kind_c h
    rw [h3]; exact f2 h1
  have b3' : (kindQ X 1 q2).c = 0 → q2.c = 0 := fun h => (kind_c h).1
  generalize kindQ X 1 q2 = q3 at *
  generalize kindW X 1 q2 = nm at *
  refine s_al rfl (fun b' w n' => ?_)
  have G := G.new n'
  have h0 := G.blk 0 rfl; try have h1 := G.blk 1 rfl; try have h2 := G.blk 2 rfl; try have h3 := G.blk 3 rfl; try have h4 := G.blk 4 rfl; try have h5 := G.blk 5 rfl
  (repeat refine Zlr ?_)
  refine s_stw (vs := qc X (q3)) rfl rfl rfl rfl rfl h0 rfl (fun w s => ?_)
  have G := G.put 0 rfl s rfl
  have h0 := G.blk 0 rfl; try have h1 := G.blk 1 rfl; try have h2 := G.blk 2 rfl; try have h3 := G.blk 3 rfl; try have h4 := G.blk 4 rfl; try have h5 := G.blk 5 rfl
  (repeat refine Zlr ?_)
  refine s_call (us := []) (zs := []) (by kernel_rfl) rfl rfl (wantW G.at_ wLpar (by decide) (by decide)) ?_
  rintro _ w ⟨rfl, k⟩
  have G := G.no k
  have G := G.mv (Sg.want G.at_ (show wLpar ≠ [] by decide))
  have h0 := G.blk 0 rfl; try have h1 := G.blk 1 rfl; try have h2 := G.blk 2 rfl; try have h3 := G.blk 3 rfl; try have h4 := G.blk 4 rfl; try have h5 := G.blk 5 rfl
  (repeat refine Zlr ?_)
  refine s_stw (vs := qc X (wantQ X wLpar q3)) rfl rfl rfl rfl rfl h2 rfl (fun w s => ?_)
  have G := G.put 2 rfl s rfl
  have h0 := G.blk 0 rfl; try have h1 := G.blk 1 rfl; try have h2 := G.blk 2 rfl; try have h3 := G.blk 3 rfl; try have h4 := G.blk 4 rfl; try have h5 := G.blk 5 rfl
  (repeat refine Zlr ?_)
  have r4 : q3.c = 0 → Res (Sy.want X.E wLpar q3.s) (wantQ X wLpar q3) () := fun h => want_res wLpar h
  have e4 : q3.c ≠ 0 → (wantQ X wLpar q3).c ≠ 0 := fun h => by rw [want_er h]; exact h
  have f4 : (wantQ X wLpar q3).c = 0 → (wantQ X wLpar q3).s.fn.length < 32 := fun h => by
    obtain ⟨h1, h2, h3⟩ := want_c h
    rw [h3]; exact f3 h1
  have b4' : (wantQ X wLpar q3).c = 0 → q3.c = 0 := fun h => (want_c h).1
  generalize wantQ X wLpar q3 = q4 at *
  refine s_al rfl (fun b6 w n' => ?_)
  have G := G.new n'
  have h0 := G.blk 0 rfl; try have h1 := G.blk 1 rfl; try have h2 := G.blk 2 rfl; try have h3 := G.blk 3 rfl; try have h4 := G.blk 4 rfl; try have h5 := G.blk 5 rfl
  (repeat refine Zlr ?_)
  refine s_stw (vs := fnC ({ nm := nm, ty := 4, ps := [] }, nilS, nilS)) rfl rfl rfl rfl rfl h0 rfl (fun w s => ?_)
  have G := G.put 0 rfl s rfl
  have h0 := G.blk 0 rfl; try have h1 := G.blk 1 rfl; try have h2 := G.blk 2 rfl; try have h3 := G.blk 3 rfl; try have h4 := G.blk 4 rfl; try have h5 := G.blk 5 rfl
  (repeat refine Zlr ?_)
  obtain ⟨R, hR⟩ : ∃ R, (if wd X.E q.s = wFunc ∧ 32 ≤ q.s.fn.length then Sy.er X.E 5 q.s else .ok () q.s).bind (fun _ s0 => (Sy.want X.E wFunc s0).bind fun _ s1 => (knd X.E 1 s1).bind fun nm s2 => (Sy.want X.E wLpar s2).bind fun _ s3 => (prms X.E N [] s3).bind fun ps s4 => tlF X.E N fr nm ps s4) = R := ⟨_, rfl⟩
  have hI : ∀ q', Res (On q4 fun s => (prmsX X.E N [] s).bind fun ps s4 => tlF X.E N fr nm ps s4) q' () → Res R q' () := fun q' r => by
    rw [← hR]
    refine r1.bind (fun h1 => (r2 h1).bind (fun h2 => (r3 h2).bind (fun h3 => (r4 h3).bind (fun h4 => ?_) fun h => r.on_er h) fun h => r.on_er (e4 h)) fun h => r.on_er (e4 (e3 h))) fun h => r.on_er (e4 (e3 (e2 h)))
    have := r.on h4
    rw [prmsX, if_pos (.inl rfl)] at this
    exact this
  have hN : On q4 (fun s => (prmsX X.E N [] s).bind fun ps s4 => tlF X.E N fr nm ps s4) ≠ .out := On_ne fun h4 => by
    have h3 := b4' h4
    have h2 := b3' h3
    have h1 := b2' h2
    rw [prmsX, if_pos (.inl rfl)]
    exact (r4 h3).next ((r3 h2).next ((r2 h1).next (r1.next hr h1) h2) h3) h4
  rw [hR]
  clear hr hR r1 r2 r3 r4 e2 e3 e4 f1 f2 f3 b2' b3' b4'
  have G := G.drop 0
  refine k_loop (σ := FctS) (fun x => [(1, .pointer (some ⟨b, 0, none⟩)), (2, .pointer (some ⟨b2, 0, none⟩)), (3, .int .i64 fr), (6, .pointer (some ⟨b6, 0, none⟩))])
    (fun x w' => x.m ≤ N ∧ Wb X w0 q w' x.q [(b6, fnC ({ nm := nm, ty := 4, ps := x.l }, .slice x.a x.l.length x.c, nilS), 62), (b', qc X q3, Tp), (b2, cs, Tp), (b, qc X x.q, Tp)] ∧ Ls w0 w' x.q 9 (.slice x.a x.l.length x.c) x.l.length (x.l.map sv) ∧ ((x.l.length ≤ 20001 ∧ (x.q.c = 0 → x.l.length ≤ x.q.s.i)) ∧ (x.q.c = 0 → x.q.s.fn.length < 32)) ∧
      (∀ q', Res (On x.q fun s => (prmsX X.E x.m x.l s).bind fun ps s4 => tlF X.E N fr nm ps s4) q' () → Res R q' ()) ∧ On x.q (fun s => (prmsX X.E x.m x.l s).bind fun ps s4 => tlF X.E N fr nm ps s4) ≠ .out) (fun x => if x.q.c = 0 then x.m + 1 else 0) ⟨N, [], none, 0, q4⟩ ⟨rfl, rfl, rfl, rfl, trivial⟩ ⟨Nat.le_refl _, G, Ls.nil, ⟨⟨Nat.zero_le _, fun _ => Nat.zero_le _⟩, f4⟩, hI, hN⟩ ?_
  clear hI hN G h0 h1 h2 h3 f4
  rintro ⟨m, l, la, lc, q5⟩ lx w ⟨hm, G, LL, ⟨⟨hl0, hl1⟩, f5⟩, hI, hN⟩
  simp only at hm G LL hl0 hl1 f5 hI hN
  have h0 := G.blk 0 rfl; try have h1 := G.blk 1 rfl; try have h2 := G.blk 2 rfl; try have h3 := G.blk 3 rfl; try have h4 := G.blk 4 rfl; try have h5 := G.blk 5 rfl
  (repeat (first | refine k_nil ?_ | refine k_n ?_ | refine k_r ?_ | refine k_x ?_ | refine b_n ?_ | refine b_r ?_ | refine b_y rfl ?_ | refine b_z rfl ?_ | refine l_r ?_ | refine l_x ?_ | refine k_seq ?_ | refine k_blk ?_ | refine k_ret ?_ | refine k_exit ?_ | refine k_skip ?_ | refine Zs ?_ | refine Zl ?_))
  refine k_cutc (σ := Unit) (fun _ => [(1, .pointer (some ⟨b, 0, none⟩)), (2, .pointer (some ⟨b2, 0, none⟩)), (3, .int .i64 fr), (6, .pointer (some ⟨b6, 0, none⟩)), (41, .bool (decide (q5.c = 0 ∧ wd X.E q5.s ≠ wRpar)))])
    (fun _ w' => Wb X w0 q w' q5 [(b6, fnC ({ nm := nm, ty := 4, ps := l }, .slice la l.length lc, nilS), 62), (b', qc X q3, Tp), (b2, cs, Tp), (b, qc X q5, Tp)] ∧ Ls w0 w' q5 9 (.slice la l.length lc) l.length (l.map sv)) ?_ ?_
  · (repeat refine Zlr ?_)
    by_cases hc : q5.c = 0
    · refine s_set 37 true rfl (beq_iff_eq.2 hc) ?_
      (repeat (first | refine Zlr ?_ | refine Zn ?_ | refine Zu ?_ | refine Zg ?_ | refine Zgl ?_))
      refine s_gcall (us := []) (zs := []) rfl (by kernel_rfl) rfl rfl (isW G.at_ wRpar (by decide) (by decide)) ?_
      rintro _ w ⟨rfl, k⟩
      have G := G.no k
      have LL := LL.no k
      have h0 := G.blk 0 rfl; try have h1 := G.blk 1 rfl; try have h2 := G.blk 2 rfl; try have h3 := G.blk 3 rfl; try have h4 := G.blk 4 rfl; try have h5 := G.blk 5 rfl
      (repeat (first | refine Zlr ?_ | refine Zn ?_ | refine Zu ?_ | refine Zg ?_ | refine Zgl ?_))
      refine l_cut () ⟨rfl, rfl, rfl, rfl, ?_, trivial⟩ ⟨G, LL⟩
      show Value.bool (!isQ X wRpar q5) = _
      congr 1
      rw [isQ]
      simp [hc]
    · refine s_set 37 false rfl (beq_eq_false_iff_ne.2 hc) ?_
      (repeat (first | refine Zlr ?_ | refine Zn ?_ | refine Zu ?_ | refine Zg ?_ | refine Zgl ?_))
      refine l_cut () ⟨rfl, rfl, rfl, rfl, ?_, trivial⟩ ⟨G, LL⟩
      show Value.bool false = Value.bool _
      congr 1
      simp [hc]
  clear G LL h0 h1 h2 h3
  rintro _ lx w ⟨G, LL⟩
  have h0 := G.blk 0 rfl; try have h1 := G.blk 1 rfl; try have h2 := G.blk 2 rfl; try have h3 := G.blk 3 rfl; try have h4 := G.blk 4 rfl; try have h5 := G.blk 5 rfl
  (repeat refine Zlr ?_)
  by_cases hgo : q5.c = 0 ∧ wd X.E q5.s ≠ wRpar
  · obtain ⟨hc, nw⟩ := hgo
    refine c_t (congrArg Value.bool (decide_eq_true ⟨hc, nw⟩)) ?_
    have hl1 := hl1 hc
    have f5 := f5 hc
    have hsm := G.at_.small
    have eA : ∀ m l s, prms X.E (m + 1) l s = if wd X.E s = wRpar then .ok l (adv s) else (if l = [] then .ok () s else Sy.want X.E wComma s).bind fun _ s1 => (knd X.E 1 s1).bind fun w s2 => if wd X.E s2 = wComma ∨ wd X.E s2 = wRpar then prms X.E m (l ++ [w]) s2 else Sy.er X.E 3 s2 := fun _ _ _ => rfl
    have MM : (l = [] ∨ wd X.E q5.s = wComma) → m = (m - 1) + 1 := fun A => by
      cases m with
      | zero =>
        refine (hN ?_).elim
        rw [On_c hc, prmsX, if_pos (A.imp id .inl)]; rfl
      | succ m => rfl
    have E1 : (l = [] ∨ wd X.E q5.s = wComma) → prmsX X.E m l q5.s = (if l = [] then .ok () q5.s else Sy.want X.E wComma q5.s).bind fun _ s1 => (knd X.E 1 s1).bind fun w s2 => if wd X.E s2 = wComma ∨ wd X.E s2 = wRpar then prms X.E (m - 1) (l ++ [w]) s2 else Sy.er X.E 3 s2 := fun A => by
      rw [prmsX, if_pos (A.imp id .inl)]
      rw [MM A, eA, if_neg nw]; rfl
    (repeat refine Zlr ?_)
    by_cases hl : l = []
    · refine c_f (by show Value.bool (decide ((l.length : Int) > 0)) = _; rw [hl]; rfl) ?_
      (repeat refine Zlr ?_)
      obtain ⟨q6, hq6⟩ : ∃ q6, q5 = q6 := ⟨_, rfl⟩
      have F1 : q6.c = 0 → l = [] ∨ wd X.E q5.s = wComma := fun _ => .inl hl
      have F2 : Res (if l = [] then .ok () q5.s else Sy.want X.E wComma q5.s) q6 () := by rw [if_pos hl, ← hq6]; exact ⟨hc, rfl, rfl⟩
      have I6 : q6.c = 0 → l.length ≤ q6.s.i := fun _ => by rw [← hq6]; exact hl1
      have f6 : q6.c = 0 → q6.s.fn.length < 32 := fun _ => by rw [← hq6]; exact f5
      rw [hq6] at G LL h3
      rw [show qc X q5 = qc X q6 by rw [hq6]]
      refine s_call (us := []) (zs := []) (by kernel_rfl) rfl rfl (kindF G.at_ 1 (by decide)) ?_
      rintro _ w ⟨rfl, k⟩
      have G := G.no k
      have LL := LL.no k
      have LL := LL.gs G.at_ (Sg.kind G.at_ (show (1 : Int) ≠ 0 by decide)).gs rfl
      have G := G.mv (Sg.kind G.at_ (show (1 : Int) ≠ 0 by decide))
      have h0 := G.blk 0 rfl; try have h1 := G.blk 1 rfl; try have h2 := G.blk 2 rfl; try have h3 := G.blk 3 rfl; try have h4 := G.blk 4 rfl; try have h5 := G.blk 5 rfl
      (repeat refine Zlr ?_)
      have r6 : q6.c = 0 → Res (knd X.E 1 q6.s) (kindQ X 1 q6) (kindW X 1 q6) := fun h => kind_res 1 h
      have e6 : q6.c ≠ 0 → (kindQ X 1 q6).c ≠ 0 := fun h => by rw [(kind_er h).1]; exact h
      have b6' : (kindQ X 1 q6).c = 0 → q6.c = 0 ∧ (kindQ X 1 q6).s.i = q6.s.i + 1 ∧ (kindQ X 1 q6).s.fn = q6.s.fn := fun h => by
        obtain ⟨h1, h2, h3, _⟩ := kind_c h
        rw [h3]; exact ⟨h1, rfl, rfl⟩
      generalize kindQ X 1 q6 = q7 at *
      generalize kindW X 1 q6 = pw at *
      refine s_al rfl (fun b9 w n' => ?_)
      have G := G.new n'
      have LL := LL.no n'.kp
      have h0 := G.blk 0 rfl; try have h1 := G.blk 1 rfl; try have h2 := G.blk 2 rfl; try have h3 := G.blk 3 rfl; try have h4 := G.blk 4 rfl; try have h5 := G.blk 5 rfl
      (repeat refine Zlr ?_)
      refine s_stw (vs := qc X (q7)) rfl rfl rfl rfl rfl h0 rfl (fun w s => ?_)
      have LL := LL.box s h0 rfl
      have G := G.put 0 rfl s rfl
      have h0 := G.blk 0 rfl; try have h1 := G.blk 1 rfl; try have h2 := G.blk 2 rfl; try have h3 := G.blk 3 rfl; try have h4 := G.blk 4 rfl; try have h5 := G.blk 5 rfl
      (repeat refine Zlr ?_)
      refine s_stw (vs := qc X (q7)) rfl rfl rfl rfl rfl h4 rfl (fun w s => ?_)
      have LL := LL.box s h4 rfl
      have G := G.put 4 rfl s rfl
      have h0 := G.blk 0 rfl; try have h1 := G.blk 1 rfl; try have h2 := G.blk 2 rfl; try have h3 := G.blk 3 rfl; try have h4 := G.blk 4 rfl; try have h5 := G.blk 5 rfl
      (repeat refine Zlr ?_)
      refine s_bs (cs := [sv pw]) (e := 9) rfl (fun b4 w n4 => ?_)
      have LL := LL.no n4.kp
      have G := G.no n4.kp
      have h0 := G.blk 0 rfl; try have h1 := G.blk 1 rfl; try have h2 := G.blk 2 rfl; try have h3 := G.blk 3 rfl; try have h4 := G.blk 4 rfl; try have h5 := G.blk 5 rfl
      have h4 := n4.blk
      (repeat refine Zlr ?_)
      refine s_app (v0 := .slice la l.length lc) (k := l.length) (m := 1) (size := 1) (bytes := 16) (base := 0) (xs := l.map sv) (news := [sv pw]) rfl rfl rfl rfl rfl rfl rfl rfl LL.own rfl (blk_cells h4) rfl rfl (by omega) (by omega) (Nat.zero_le _) ?_
      intro v w ap
      obtain ⟨a9, c9, e9, _⟩ := own_read ap.own
      subst e9
      rw [snoc_sv] at ap
      obtain ⟨G, LL⟩ := (G.drop 1).lst h LL ap rfl (fun i b cs T hi => by
        match i, hi with
        | 0, hi => cases hi; rfl
        | 1, hi => cases hi; rfl
        | 2, hi => cases hi; rfl
        | 3, hi => cases hi; rfl
        | i + 4, hi => exact absurd hi (by simp))
      have h0 := G.blk 0 rfl; try have h1 := G.blk 1 rfl; try have h2 := G.blk 2 rfl; try have h3 := G.blk 3 rfl; try have h4 := G.blk 4 rfl; try have h5 := G.blk 5 rfl
      (repeat refine Zlr ?_)
      refine s_st (vs := [.slice a9 (l.length + 1) c9]) rfl rfl rfl rfl rfl h0 (Nat.le_of_ble_eq_true rfl) (fun w s => ?_)
      have s : Sb _ b6 (fnC ({ nm := nm, ty := 4, ps := l ++ [pw] }, .slice a9 (l.length + 1) c9, nilS)) _ w := s
      have LL := LL.box s h0 rfl
      have G := G.put 0 rfl s rfl
      (repeat refine Zlr ?_)
      have hll : (l ++ [pw]).length = l.length + 1 := by simp
      refine l_next ⟨m - 1, l ++ [pw], a9, c9, q7⟩ ⟨rfl, rfl, rfl, rfl, trivial⟩ ⟨by simp only; omega, by simp only [hll]; exact G, by simp only [hll]; exact LL, ⟨⟨by simp only [hll]; omega, fun h7 => by
        obtain ⟨i1, i2, _⟩ := b6' h7
        have := I6 i1
        simp only [hll]
        omega⟩, fun h7 => by
        obtain ⟨i1, _, i3⟩ := b6' h7
        show q7.s.fn.length < 32
        rw [i3]; exact f6 i1⟩, fun q' r => hI _ (Res.of_c hc ?_), On_ne fun h7 => ?_⟩ ?_
      · by_cases A : l = [] ∨ wd X.E q5.s = wComma
        · rw [E1 A, bind_assoc]
          refine F2.bind (fun h6 => ?_) fun h => r.on_er (e6 h)
          rw [bind_assoc]
          refine (r6 h6).bind (fun h7 => ?_) fun h => r.on_er h
          have := r.on h7
          rw [prmsX_snoc] at this
          exact this
        · rw [prmsX, if_neg (fun h => h.elim (fun h => A (.inl h)) fun h => h.elim (fun h => A (.inr h)) nw)]
          exact r.on_er (e6 fun h => A (F1 h))
      · obtain ⟨h6, _⟩ := b6' h7
        have A := F1 h6
        rw [On_c hc, E1 A, bind_assoc] at hN
        have hN2 := F2.next hN h6
        rw [bind_assoc] at hN2
        have := (r6 h6).next hN2 h7
        show (prmsX _ _ _ _).bind _ ≠ _
        rw [prmsX_snoc]; exact this
      · simp only [if_pos hc]
        split
        · rename_i h7
          have := MM (F1 (b6' h7).1)
          omega
        · omega
    · have hlp : 0 < l.length := List.length_pos_iff.2 hl
      refine c_t (by show Value.bool (decide ((l.length : Int) > 0)) = _; rw [decide_eq_true (by omega)]) ?_
      (repeat refine Zlr ?_)
      refine s_call (us := []) (zs := []) (by kernel_rfl) rfl rfl (wantW G.at_ wComma (by decide) (by decide)) ?_
      rintro _ w ⟨rfl, k⟩
      have G := G.no k
      have LL := LL.no k
      have LL := LL.gs G.at_ (Sg.want G.at_ (show wComma ≠ [] by decide)).gs rfl
      have G := G.mv (Sg.want G.at_ (show wComma ≠ [] by decide))
      have h0 := G.blk 0 rfl; try have h1 := G.blk 1 rfl; try have h2 := G.blk 2 rfl; try have h3 := G.blk 3 rfl; try have h4 := G.blk 4 rfl; try have h5 := G.blk 5 rfl
      (repeat refine Zlr ?_)
      refine s_stw (vs := qc X (wantQ X wComma q5)) rfl rfl rfl rfl rfl h3 rfl (fun w s => ?_)
      have LL := LL.box s h3 rfl
      have G := G.put 3 rfl s rfl
      have h0 := G.blk 0 rfl; try have h1 := G.blk 1 rfl; try have h2 := G.blk 2 rfl; try have h3 := G.blk 3 rfl; try have h4 := G.blk 4 rfl; try have h5 := G.blk 5 rfl
      (repeat refine Zlr ?_)
      obtain ⟨q6, hq6⟩ : ∃ q6, wantQ X wComma q5 = q6 := ⟨_, rfl⟩
      have F1 : q6.c = 0 → l = [] ∨ wd X.E q5.s = wComma := fun h => by rw [← hq6] at h; exact .inr (want_c h).2.1
      have F2 : Res (if l = [] then .ok () q5.s else Sy.want X.E wComma q5.s) q6 () := by rw [if_neg hl, ← hq6]; exact want_res wComma hc
      have I6 : q6.c = 0 → l.length ≤ q6.s.i := fun h => by
        rw [← hq6] at h ⊢
        rw [(want_c h).2.2]
        exact Nat.le_succ_of_le hl1
      have f6 : q6.c = 0 → q6.s.fn.length < 32 := fun h => by
        rw [← hq6] at h ⊢
        rw [(want_c h).2.2]; exact f5
      rw [hq6] at G LL h3 ⊢
      refine s_call (us := []) (zs := []) (by kernel_rfl) rfl rfl (kindF G.at_ 1 (by decide)) ?_
      rintro _ w ⟨rfl, k⟩
      have G := G.no k
      have LL := LL.no k
      have LL := LL.gs G.at_ (Sg.kind G.at_ (show (1 : Int) ≠ 0 by decide)).gs rfl
      have G := G.mv (Sg.kind G.at_ (show (1 : Int) ≠ 0 by decide))
      have h0 := G.blk 0 rfl; try have h1 := G.blk 1 rfl; try have h2 := G.blk 2 rfl; try have h3 := G.blk 3 rfl; try have h4 := G.blk 4 rfl; try have h5 := G.blk 5 rfl
      (repeat refine Zlr ?_)
      have r6 : q6.c = 0 → Res (knd X.E 1 q6.s) (kindQ X 1 q6) (kindW X 1 q6) := fun h => kind_res 1 h
      have e6 : q6.c ≠ 0 → (kindQ X 1 q6).c ≠ 0 := fun h => by rw [(kind_er h).1]; exact h
      have b6' : (kindQ X 1 q6).c = 0 → q6.c = 0 ∧ (kindQ X 1 q6).s.i = q6.s.i + 1 ∧ (kindQ X 1 q6).s.fn = q6.s.fn := fun h => by
        obtain ⟨h1, h2, h3, _⟩ := kind_c h
        rw [h3]; exact ⟨h1, rfl, rfl⟩
      generalize kindQ X 1 q6 = q7 at *
      generalize kindW X 1 q6 = pw at *
      refine s_al rfl (fun b9 w n' => ?_)
      have G := G.new n'
      have LL := LL.no n'.kp
      have h0 := G.blk 0 rfl; try have h1 := G.blk 1 rfl; try have h2 := G.blk 2 rfl; try have h3 := G.blk 3 rfl; try have h4 := G.blk 4 rfl; try have h5 := G.blk 5 rfl
      (repeat refine Zlr ?_)
      refine s_stw (vs := qc X (q7)) rfl rfl rfl rfl rfl h0 rfl (fun w s => ?_)
      have LL := LL.box s h0 rfl
      have G := G.put 0 rfl s rfl
      have h0 := G.blk 0 rfl; try have h1 := G.blk 1 rfl; try have h2 := G.blk 2 rfl; try have h3 := G.blk 3 rfl; try have h4 := G.blk 4 rfl; try have h5 := G.blk 5 rfl
      (repeat refine Zlr ?_)
      refine s_stw (vs := qc X (q7)) rfl rfl rfl rfl rfl h4 rfl (fun w s => ?_)
      have LL := LL.box s h4 rfl
      have G := G.put 4 rfl s rfl
      have h0 := G.blk 0 rfl; try have h1 := G.blk 1 rfl; try have h2 := G.blk 2 rfl; try have h3 := G.blk 3 rfl; try have h4 := G.blk 4 rfl; try have h5 := G.blk 5 rfl
      (repeat refine Zlr ?_)
      refine s_bs (cs := [sv pw]) (e := 9) rfl (fun b4 w n4 => ?_)
      have LL := LL.no n4.kp
      have G := G.no n4.kp
      have h0 := G.blk 0 rfl; try have h1 := G.blk 1 rfl; try have h2 := G.blk 2 rfl; try have h3 := G.blk 3 rfl; try have h4 := G.blk 4 rfl; try have h5 := G.blk 5 rfl
      have h4 := n4.blk
      (repeat refine Zlr ?_)
      refine s_app (v0 := .slice la l.length lc) (k := l.length) (m := 1) (size := 1) (bytes := 16) (base := 0) (xs := l.map sv) (news := [sv pw]) rfl rfl rfl rfl rfl rfl rfl rfl LL.own rfl (blk_cells h4) rfl rfl (by omega) (by omega) (Nat.zero_le _) ?_
      intro v w ap
      obtain ⟨a9, c9, e9, _⟩ := own_read ap.own
      subst e9
      rw [snoc_sv] at ap
      obtain ⟨G, LL⟩ := (G.drop 1).lst h LL ap rfl (fun i b cs T hi => by
        match i, hi with
        | 0, hi => cases hi; rfl
        | 1, hi => cases hi; rfl
        | 2, hi => cases hi; rfl
        | 3, hi => cases hi; rfl
        | i + 4, hi => exact absurd hi (by simp))
      have h0 := G.blk 0 rfl; try have h1 := G.blk 1 rfl; try have h2 := G.blk 2 rfl; try have h3 := G.blk 3 rfl; try have h4 := G.blk 4 rfl; try have h5 := G.blk 5 rfl
      (repeat refine Zlr ?_)
      refine s_st (vs := [.slice a9 (l.length + 1) c9]) rfl rfl rfl rfl rfl h0 (Nat.le_of_ble_eq_true rfl) (fun w s => ?_)
      have s : Sb _ b6 (fnC ({ nm := nm, ty := 4, ps := l ++ [pw] }, .slice a9 (l.length + 1) c9, nilS)) _ w := s
      have LL := LL.box s h0 rfl
      have G := G.put 0 rfl s rfl
      (repeat refine Zlr ?_)
      have hll : (l ++ [pw]).length = l.length + 1 := by simp
      refine l_next ⟨m - 1, l ++ [pw], a9, c9, q7⟩ ⟨rfl, rfl, rfl, rfl, trivial⟩ ⟨by simp only; omega, by simp only [hll]; exact G, by simp only [hll]; exact LL, ⟨⟨by simp only [hll]; omega, fun h7 => by
        obtain ⟨i1, i2, _⟩ := b6' h7
        have := I6 i1
        simp only [hll]
        omega⟩, fun h7 => by
        obtain ⟨i1, _, i3⟩ := b6' h7
        show q7.s.fn.length < 32
        rw [i3]; exact f6 i1⟩, fun q' r => hI _ (Res.of_c hc ?_), On_ne fun h7 => ?_⟩ ?_
      · by_cases A : l = [] ∨ wd X.E q5.s = wComma
        · rw [E1 A, bind_assoc]
          refine F2.bind (fun h6 => ?_) fun h => r.on_er (e6 h)
          rw [bind_assoc]
          refine (r6 h6).bind (fun h7 => ?_) fun h => r.on_er h
          have := r.on h7
          rw [prmsX_snoc] at this
          exact this
        · rw [prmsX, if_neg (fun h => h.elim (fun h => A (.inl h)) fun h => h.elim (fun h => A (.inr h)) nw)]
          exact r.on_er (e6 fun h => A (F1 h))
      · obtain ⟨h6, _⟩ := b6' h7
        have A := F1 h6
        rw [On_c hc, E1 A, bind_assoc] at hN
        have hN2 := F2.next hN h6
        rw [bind_assoc] at hN2
        have := (r6 h6).next hN2 h7
        show (prmsX _ _ _ _).bind _ ≠ _
        rw [prmsX_snoc]; exact this
      · simp only [if_pos hc]
        split
        · rename_i h7
          have := MM (F1 (b6' h7).1)
          omega
        · omega
  · refine c_f (congrArg Value.bool (decide_eq_false hgo)) ?_
    have hP : q5.c = 0 → Res (prmsX X.E m l q5.s) (wantQ X wRpar q5) l := fun hc => by
      have hw : wd X.E q5.s = wRpar := Decidable.byContradiction fun h => hgo ⟨hc, h⟩
      obtain ⟨hc1, hs1⟩ := want_ok (X := X) hc hw
      rw [prmsX, if_pos (.inr (.inr hw))]
      rw [On_c hc, prmsX, if_pos (.inr (.inr hw))] at hN
      cases m with
      | zero => exact (hN rfl).elim
      | succ m =>
        show Res (if wd X.E q5.s = wRpar then _ else _) _ _
        rw [if_pos hw]; exact ⟨hc1, hs1, rfl⟩
    have hI : ∀ q', Res (On (wantQ X wRpar q5) fun s => tlF X.E N fr nm l s) q' () → Res R q' () := fun q' r => hI q' (by
      by_cases hc : q5.c = 0
      · exact Res.of_c hc ((hP hc).bind (fun h => r.on h) fun h => r.on_er h)
      · rw [want_er hc] at r
        exact Res.of_er hc (r.on_er hc))
    have hN : On (wantQ X wRpar q5) (fun s => tlF X.E N fr nm l s) ≠ .out := On_ne fun h6 => by
      obtain ⟨hc, _⟩ := want_c h6
      rw [On_c hc] at hN
      exact (hP hc).next hN h6
    have f6 : (wantQ X wRpar q5).c = 0 → (wantQ X wRpar q5).s.fn.length < 32 ∧ 1 ≤ (wantQ X wRpar q5).s.i := fun h => by
      obtain ⟨hc, _, e⟩ := want_c h
      rw [e]; exact ⟨f5 hc, Nat.succ_le_succ (Nat.zero_le _)⟩
    clear hP hgo f5 hl1
    (repeat refine Zlr ?_)
    refine s_call (us := []) (zs := []) (by kernel_rfl) rfl rfl (wantW G.at_ wRpar (by decide) (by decide)) ?_
    rintro _ w ⟨rfl, k⟩
    have G := G.no k
    have LL := LL.no k
    have LL := LL.gs G.at_ (Sg.want G.at_ (show wRpar ≠ [] by decide)).gs rfl
    have G := G.mv (Sg.want G.at_ (show wRpar ≠ [] by decide))
    have h0 := G.blk 0 rfl; try have h1 := G.blk 1 rfl; try have h2 := G.blk 2 rfl; try have h3 := G.blk 3 rfl; try have h4 := G.blk 4 rfl; try have h5 := G.blk 5 rfl
    (repeat refine Zlr ?_)
    refine s_stw (vs := qc X (wantQ X wRpar q5)) rfl rfl rfl rfl rfl h3 rfl (fun w s => ?_)
    have LL := LL.box s h3 rfl
    have G := G.put 3 rfl s rfl
    have h0 := G.blk 0 rfl; try have h1 := G.blk 1 rfl; try have h2 := G.blk 2 rfl; try have h3 := G.blk 3 rfl; try have h4 := G.blk 4 rfl; try have h5 := G.blk 5 rfl
    (repeat refine Zlr ?_)
    generalize wantQ X wRpar q5 = q6 at *
    refine s_call (us := []) (zs := []) (by kernel_rfl) rfl rfl (isW G.at_ wInt (by decide) (by decide)) ?_
    rintro _ w ⟨rfl, k⟩
    have G := G.no k
    have LL := LL.no k
    have h0 := G.blk 0 rfl; try have h1 := G.blk 1 rfl; try have h2 := G.blk 2 rfl; try have h3 := G.blk 3 rfl; try have h4 := G.blk 4 rfl; try have h5 := G.blk 5 rfl
    (repeat refine Zlr ?_)
    refine k_cutc (σ := Int × Q) (fun _ => [(1, .pointer (some ⟨b, 0, none⟩)), (2, .pointer (some ⟨b2, 0, none⟩)), (3, .int .i64 fr), (6, .pointer (some ⟨b6, 0, none⟩))])
      (fun x w' => Wb X w0 q w' x.2 [(b6, fnC ({ nm := nm, ty := x.1, ps := l }, .slice la l.length lc, nilS), 62), (b', qc X q3, Tp), (b2, cs, Tp), (b, qc X x.2, Tp)] ∧ Ls w0 w' x.2 9 (.slice la l.length lc) l.length (l.map sv) ∧ Res (On q6 fun s => if wd X.E s = wInt then Rs.ok (1 : Int) (adv s) else .ok 4 s) x.2 x.1 ∧ (x.2.c = 0 → x.2.s.fn.length < 32 ∧ 1 ≤ x.2.s.i)) ?_ ?_
    · cases hi : isQ X wInt q6 with
      | true =>
        obtain ⟨hc, hw⟩ := is_yes hi
        obtain ⟨hc1, hs1⟩ := want_ok (X := X) hc hw
        refine c_t rfl ?_
        (repeat refine Zlr ?_)
        refine s_call (us := []) (zs := []) (by kernel_rfl) rfl rfl (wantW G.at_ wInt (by decide) (by decide)) ?_
        rintro _ w ⟨rfl, k⟩
        have G := G.no k
        have LL := LL.no k
        have LL := LL.gs G.at_ (Sg.want G.at_ (show wInt ≠ [] by decide)).gs rfl
        have G := G.mv (Sg.want G.at_ (show wInt ≠ [] by decide))
        have h0 := G.blk 0 rfl; try have h1 := G.blk 1 rfl; try have h2 := G.blk 2 rfl; try have h3 := G.blk 3 rfl; try have h4 := G.blk 4 rfl; try have h5 := G.blk 5 rfl
        (repeat refine Zlr ?_)
        refine s_stw (vs := qc X (wantQ X wInt q6)) rfl rfl rfl rfl rfl h3 rfl (fun w s => ?_)
        have LL := LL.box s h3 rfl
        have G := G.put 3 rfl s rfl
        have h0 := G.blk 0 rfl; try have h1 := G.blk 1 rfl; try have h2 := G.blk 2 rfl; try have h3 := G.blk 3 rfl; try have h4 := G.blk 4 rfl; try have h5 := G.blk 5 rfl
        (repeat refine Zlr ?_)
        refine s_st (vs := [.int .i64 1]) rfl rfl rfl rfl rfl h0 (Nat.le_of_ble_eq_true rfl) (fun w s => ?_)
        have s : Sb _ b6 (fnC ({ nm := nm, ty := 1, ps := l }, .slice la l.length lc, nilS)) _ w := s
        have LL := LL.box s h0 rfl
        have G := G.put 0 rfl s rfl
        (repeat refine Zlr ?_)
        refine l_cut (1, wantQ X wInt q6) ⟨rfl, rfl, rfl, rfl, trivial⟩ ⟨G, LL, Res.of_c hc (by rw [if_pos hw]; exact ⟨hc1, hs1, rfl⟩), fun _ => ?_⟩
        simp only [hs1]
        exact ⟨(f6 hc).1, Nat.succ_le_succ (Nat.zero_le _)⟩
      | false =>
        refine c_f rfl ?_
        (repeat refine Zlr ?_)
        refine l_cut (4, q6) ⟨rfl, rfl, rfl, rfl, trivial⟩ ⟨G, LL, ?_, f6⟩
        by_cases hc : q6.c = 0
        · exact Res.of_c hc (by rw [if_neg (is_no hi hc)]; exact ⟨hc, rfl, rfl⟩)
        · exact Res.of_er hc hc
    clear G LL h0 h1 h2 h3
    rintro ⟨ty, q7⟩ lx w ⟨G, LL, r7, f7⟩
    simp only at G LL r7 f7
    have eT : On q6 (fun s => tlF X.E N fr nm l s) = (On q6 fun s => if wd X.E s = wInt then Rs.ok (1 : Int) (adv s) else .ok 4 s).bind fun ty s5 => (block X.E (lv X.E N) 1 s5).bind fun bd s6 => .ok () { s6 with fn := s6.fn ++ [{ nm := nm, f := fr, e := pe X.E s6, ps := l, ty := ty, bd := bd }] } := by
      by_cases hc : q6.c = 0
      · rw [On_c hc, On_c hc]; rfl
      · rw [On_e hc, On_e hc]; rfl
    rw [eT] at hN
    have hn8 : On q7 (block X.E (lv X.E N) 1) ≠ .out := On_ne fun h7 => bind_ne' (r7.next hN h7)
    have h0 := G.blk 0 rfl; try have h1 := G.blk 1 rfl; try have h2 := G.blk 2 rfl; try have h3 := G.blk 3 rfl; try have h4 := G.blk 4 rfl; try have h5 := G.blk 5 rfl
    (repeat refine Zlr ?_)
    refine s_call (us := []) (zs := []) (by kernel_rfl) rfl rfl (hK 1 q7 _ (by omega) G.at_ hn8) ?_
    rintro _ w ⟨q8, bd, bda, bdc, rfl, g, r8, LT⟩
    have LL := LL.gs G.at_ (g).gs rfl
    have hsz := G.sg.gs.kp.size
    have LT : Ls w0 w q8 3 (.slice bda bd.length bdc) bd.length (bd.map (Value.int .i64)) := ⟨LT.own, fun g hg => ⟨Nat.le_trans hsz (LT.nw g hg).1, (LT.nw g hg).2⟩⟩
    have G := G.call g
    have h0 := G.blk 0 rfl; try have h1 := G.blk 1 rfl; try have h2 := G.blk 2 rfl; try have h3 := G.blk 3 rfl; try have h4 := G.blk 4 rfl; try have h5 := G.blk 5 rfl
    (repeat refine Zlr ?_)
    refine s_al rfl (fun b9 w n' => ?_)
    have G := G.new n'
    have LL := LL.no n'.kp
    have LT := LT.no n'.kp
    have h0 := G.blk 0 rfl; try have h1 := G.blk 1 rfl; try have h2 := G.blk 2 rfl; try have h3 := G.blk 3 rfl; try have h4 := G.blk 4 rfl; try have h5 := G.blk 5 rfl
    (repeat refine Zlr ?_)
    refine s_stw (vs := qc X (q8)) rfl rfl rfl rfl rfl h0 rfl (fun w s => ?_)
    have LL := LL.box s h0 rfl
    have LT := LT.box s h0 rfl
    have G := G.put 0 rfl s rfl
    have h0 := G.blk 0 rfl; try have h1 := G.blk 1 rfl; try have h2 := G.blk 2 rfl; try have h3 := G.blk 3 rfl; try have h4 := G.blk 4 rfl; try have h5 := G.blk 5 rfl
    (repeat refine Zlr ?_)
    have eR : ∀ q', (q8.c = 0 → q'.c = 0 ∧ q'.s = { q8.s with fn := q8.s.fn ++ [{ nm := nm, f := fr, e := pe X.E q8.s, ps := l, ty := ty, bd := bd }] }) → (q8.c ≠ 0 → q'.c ≠ 0) → Res R q' () := fun q' j1 j2 => hI q' (by
      rw [eT]
      exact r7.bind (fun h7 => (r8.on h7).bind (fun h8 => ⟨(j1 h8).1, (j1 h8).2, rfl⟩) j2) fun h7 => j2 (r8.on_er h7))
    by_cases hc : q8.c = 0
    · refine c_f (by show Value.bool (q8.c != 0) = _; rw [bne_eq_false_iff_eq.2 hc]) ?_
      obtain ⟨h7, e8⟩ := r8.up hc
      obtain ⟨f7a, f7b⟩ := f7 h7
      have u := block_up (bd_lv (E := X.E) N) e8
      have fn8 : q8.s.fn = q7.s.fn := u.2.2.1
      have i8 : 1 ≤ q8.s.i := by unfold Up at u; omega
      have hsm := G.at_.small
      have hlt := G.at_.lt
      (repeat refine Zlr ?_)
      refine s_st (vs := [.slice bda bd.length bdc]) rfl rfl rfl rfl rfl h1 (Nat.le_of_ble_eq_true rfl) (fun w s => ?_)
      have s : Sb _ b6 (fnC ({ nm := nm, ty := ty, ps := l, bd := bd }, .slice la l.length lc, .slice bda bd.length bdc)) _ w := s
      have LL := LL.box s h1 rfl
      have LT := LT.box s h1 rfl
      have G := G.put 1 rfl s rfl
      have h0 := G.blk 0 rfl; try have h1 := G.blk 1 rfl; try have h2 := G.blk 2 rfl; try have h3 := G.blk 3 rfl; try have h4 := G.blk 4 rfl; try have h5 := G.blk 5 rfl
      obtain ⟨t, ht, e1⟩ := G.at_.prev i8
      obtain ⟨c1, c2, c3⟩ := G.at_.tokens _ _ ht
      rw [show ((q8.s.i - 1 : Nat) : Int) = (q8.s.i : Int) - 1 by omega] at c1 c2 c3
      (repeat refine Zlr ?_)
      refine s_v (r_ia rfl rfl rfl rfl (by omega) (by omega)) ?_
      (repeat refine Zlr ?_)
      rw [← e1]
      refine s_st (vs := [.int .i64 fr, .int .i64 (pe X.E q8.s)]) rfl rfl rfl rfl rfl h1 (Nat.le_of_ble_eq_true rfl) (fun w s => ?_)
      have s : Sb _ b6 (fnC ({ nm := nm, f := fr, e := pe X.E q8.s, ty := ty, ps := l, bd := bd }, .slice la l.length lc, .slice bda bd.length bdc)) _ w := s
      have LL := LL.box s h1 rfl
      have LT := LT.box s h1 rfl
      have G := G.put 1 rfl s rfl
      have h0 := G.blk 0 rfl; try have h1 := G.blk 1 rfl; try have h2 := G.blk 2 rfl; try have h3 := G.blk 3 rfl; try have h4 := G.blk 4 rfl; try have h5 := G.blk 5 rfl
      (repeat refine Zlr ?_)
      refine s_bs (cs := fnC ({ nm := nm, f := fr, e := pe X.E q8.s, ty := ty, ps := l, bd := bd }, .slice la l.length lc, .slice bda bd.length bdc)) (e := 62) rfl (fun b4 w n4 => ?_)
      have LL := LL.no n4.kp
      have LT := LT.no n4.kp
      have G := G.new n4
      have h0 := G.blk 0 rfl; try have h1 := G.blk 1 rfl; try have h2 := G.blk 2 rfl; try have h3 := G.blk 3 rfl; try have h4 := G.blk 4 rfl; try have h5 := G.blk 5 rfl
      have G := (G.more (.slice la l.length lc) LL.rng).more (.slice bda bd.length bdc) LT.rng
      obtain ⟨rz, a1, o1, l1⟩ := (G.at_.gd hc).fs
      (repeat refine Zlr ?_)
      refine s_app (v0 := q8.z.v) (k := q8.s.fn.length) (m := 1) (size := 6) (bytes := 88) (base := 0) (xs := rz.flatMap fnC) (news := fnC ({ nm := nm, f := fr, e := pe X.E q8.s, ty := ty, ps := l, bd := bd }, .slice la l.length lc, .slice bda bd.length bdc)) rfl rfl rfl rfl rfl rfl rfl rfl o1 rfl (blk_cells h0) rfl rfl (by rw [fn8]; omega) (by rw [fn8]; omega) (Nat.zero_le _) ?_
      intro v w ap
      obtain ⟨a9, c9, e9, _⟩ := own_read ap.own
      subst e9
      have G := G.call (Sg.putz (x := { nm := nm, f := fr, e := pe X.E q8.s, ty := ty, ps := l, bd := bd }) G.at_ hc a1 o1 l1 LL.own (fun g hg => .inl (.inr hg)) LT.own (fun g hg => .inr hg) (by show q8.s.fn.length + 1 ≤ 32; rw [fn8]; omega) ap)
      have h0 := G.blk 0 rfl; try have h1 := G.blk 1 rfl; try have h2 := G.blk 2 rfl; try have h3 := G.blk 3 rfl; try have h4 := G.blk 4 rfl; try have h5 := G.blk 5 rfl
      (repeat refine Zlr ?_)
      refine s_st (vs := [.slice a9 (q8.s.fn.length + 1) c9]) rfl rfl rfl rfl rfl h1 (Nat.le_of_ble_eq_true rfl) (fun w s => ?_)
      have s : Sb _ b9 (qc X { ((q8.add (.slice la l.length lc)).add (.slice bda bd.length bdc)) with s := { q8.s with fn := q8.s.fn ++ [{ nm := nm, f := fr, e := pe X.E q8.s, ty := ty, ps := l, bd := bd }] }, z := ⟨a9, q8.s.fn.length + 1, c9⟩ }) _ w := s
      have G := G.put 1 rfl s rfl
      have h0 := G.blk 0 rfl; try have h1 := G.blk 1 rfl; try have h2 := G.blk 2 rfl; try have h3 := G.blk 3 rfl; try have h4 := G.blk 4 rfl; try have h5 := G.blk 5 rfl
      (repeat refine Zlr ?_)
      refine s_stw (vs := qc X ({ ((q8.add (.slice la l.length lc)).add (.slice bda bd.length bdc)) with s := { q8.s with fn := q8.s.fn ++ [{ nm := nm, f := fr, e := pe X.E q8.s, ty := ty, ps := l, bd := bd }] }, z := ⟨a9, q8.s.fn.length + 1, c9⟩ })) rfl rfl rfl rfl rfl h4 hcs (fun w s => ?_)
      have G := G.put 4 rfl s rfl
      have h0 := G.blk 0 rfl; try have h1 := G.blk 1 rfl; try have h2 := G.blk 2 rfl; try have h3 := G.blk 3 rfl; try have h4 := G.blk 4 rfl; try have h5 := G.blk 5 rfl
      (repeat refine Zlr ?_)
      exact ret_c1 rfl (rv_agw rfl h4 rfl rfl) ⟨{ ((q8.add (.slice la l.length lc)).add (.slice bda bd.length bdc)) with s := { q8.s with fn := q8.s.fn ++ [{ nm := nm, f := fr, e := pe X.E q8.s, ty := ty, ps := l, bd := bd }] }, z := ⟨a9, q8.s.fn.length + 1, c9⟩ }, rfl, G.sg, eR _ (fun _ => ⟨hc, rfl⟩) fun h => (h hc).elim⟩
    · refine c_t (by show Value.bool (q8.c != 0) = _; rw [bne_iff_ne.2 hc]) ?_
      (repeat refine Zlr ?_)
      refine s_stw (vs := qc X (q8)) rfl rfl rfl rfl rfl h3 hcs (fun w s => ?_)
      have G := G.put 3 rfl s rfl
      have h0 := G.blk 0 rfl; try have h1 := G.blk 1 rfl; try have h2 := G.blk 2 rfl; try have h3 := G.blk 3 rfl; try have h4 := G.blk 4 rfl; try have h5 := G.blk 5 rfl
      (repeat refine Zlr ?_)
      exact ret_c1 rfl (rv_agw rfl h3 rfl rfl) ⟨q8, rfl, G.sg, eR _ (fun h => (hc h).elim) fun h => h⟩
end
end Go.Proofs.YtfnbgbeinmekgaaGreatDoor.Rf
namespace Go.Proofs.YtfnbgbeinmekgaaGreatDoor.Rf
open Go Go.RowKit Fw Sy
set_option linter.unusedVariables false
set_option maxRecDepth 20000
structure PaS where
  m : Nat
  q : Q
/-- What the document's parser answers. -/
def ParR (s : ByteArray) (w : World) (v : Value) (w1 : World) : Prop := ∃ ux us uf a c, v = .tuple #[.agg #[ux, us, uf], .int .i64 a, .int .i64 c] ∧ Kp No w w1 ∧ ((∃ S, prs (B s) = .ok () S ∧ c = 0 ∧ Tr w1 ux us uf S ∧ S.ex.length ≤ 1000001 ∧ S.st.length ≤ 1000 ∧ S.fn.length ≤ 32) ∨ ((∀ S, prs (B s) ≠ .ok () S) ∧ c ≠ 0 ∧ ux = nilS ∧ us = nilS ∧ uf = nilS))
theorem Gd.tr {w : World} {q : Q} (h : Gd w q) : Tr w q.x.v q.y.v q.z.v q.s := by
  obtain ⟨⟨rx, e1, o1, l1⟩, ⟨ry, e2, o2, l2⟩, ⟨rz, e3, o3, l3⟩, _⟩ := h
  exact ⟨⟨rx, e1, o1, fun r hr => ⟨(l1 r hr).1, fun _ _ => trivial⟩⟩, ⟨ry, e2, o2, fun r hr => ⟨⟨(l2 r hr).1.1, fun _ _ => trivial⟩, (l2 r hr).2.1, fun _ _ => trivial⟩⟩, ⟨rz, e3, o3, fun r hr => ⟨⟨(l3 r hr).1.1, fun _ _ => trivial⟩, (l3 r hr).2.1, fun _ _ => trivial⟩⟩⟩
set_option maxHeartbeats 4000000 in
theorem parseF (s : ByteArray) (w0 : World) (hs : s.size ≤ 1000000) : Ret Tryz.prog 12 [.string s] w0 (ParR s w0) := by
  refine ret_enter Tryz.func12 rfl Tryz.ntmps12 rfl ?_
  (repeat refine Zlr ?_)
  refine s_al rfl (fun b2 w n2 => ?_)
  (repeat refine Zlr ?_)
  refine s_call (us := []) (zs := []) (by kernel_rfl) rfl rfl (Tk.rAll s w hs) ?_
  rintro _ w4 ⟨u, rfl, own4, k4⟩
  have k04 := n2.kp.no k4
  have hb2 := k4.get0 n2.blk
  obtain ⟨ua, uc, rfl, _, u0, ur⟩ := own_read own4
  (repeat refine Zlr ?_)
  refine c_ne rfl (fun hbad => ?_) (fun hgood => ?_)
  · have ep : Sy.prs (B s) = .er (Tk.allT (B s)).2.2 (Tk.allT (B s)).2.1 := by unfold Sy.prs; rw [if_pos hbad]
    (repeat refine Zlr ?_)
    refine s_stw (vs := [nilS, nilS, nilS]) rfl rfl rfl rfl rfl hb2 rfl (fun w5 s5 => ?_)
    (repeat refine Zlr ?_)
    exact ret_c3 rfl (rv_agw rfl s5.blk rfl rfl) (rv_t rfl) (rv_t rfl) ⟨_, _, _, _, _, rfl, k04.from0' s5.kp fun i hi e => by (have := n2.ge; omega), .inr ⟨fun S e => (by rw [ep] at e; cases e), hbad, rfl, rfl, rfl⟩⟩
  have ok := tok_of hgood
  have own0 : w4.ownsRow 0 64 3 (.slice ua (Tk.allT (B s)).1.length uc) (Tk.allT (B s)).1.length (Tk.tc (Tk.allT (B s)).1) := by
    refine ⟨own4.1, ?_⟩
    rcases own4.2 with h | ⟨g, cap, cur, e1, _, e3⟩
    · exact .inl h
    · exact .inr ⟨g, cap, cur, e1, Nat.zero_le _, e3⟩
  obtain ⟨g, rfl⟩ : ∃ g, ua = some ⟨g, 0, none⟩ := by
    cases ua with
    | none => exact (ok.ne (List.length_eq_zero_iff.1 (u0 rfl))).elim
    | some ad =>
      obtain ⟨g, rfl, _⟩ := ur _ rfl
      exact ⟨g, rfl⟩
  obtain ⟨X, hX⟩ : ∃ X : Cr, (⟨s, g, uc⟩ : Cr) = X := ⟨_, rfl⟩
  obtain ⟨q, hq⟩ : ∃ q : Q, (⟨⟨0, [], [], []⟩, ⟨none, 0, 0⟩, ⟨none, 0, 0⟩, ⟨none, 0, 0⟩, 0, 0, fun _ => False⟩ : Q) = q := ⟨_, rfl⟩
  have hc : q.c = 0 := by rw [← hq]
  have A4 : Aq X w4 q := by
    rw [← hX, ← hq]
    refine ⟨hgood, own0, ?_, fun _ => ⟨⟨[], rfl, nilown, fun r hr => (by cases hr)⟩, ⟨[], rfl, nilown, fun r hr => (by cases hr)⟩, ⟨[], rfl, nilown, fun r hr => (by cases hr)⟩, Nat.le_refl _, Nat.zero_le _, Nat.zero_le _, fun b hb => hb.elim⟩⟩
    exact List.length_pos_iff.2 ok.ne
  have nsx : ∀ b, ¬ Sx q b := fun b hb => by
    rw [← hq] at hb
    rcases hb.2 with h | h | h <;> cases h
  have no : ∀ b, ¬ q.o b := fun b hb => by rw [← hq] at hb; exact hb
  have G : Wb X w0 q w4 q [(b2, _, 27)] := ⟨⟨A4, k04.mono fun _ _ h => h.elim, fun _ _ h => h, fun b _ _ ho => (no b ho).elim⟩, fun i b cs T hi => by
    cases i with
    | zero => cases hi; exact ⟨n2.ge, hb2, nsx _⟩
    | succ i => simp at hi, fun i j b cs cs' T T' hi hj => by
    cases i with
    | zero => cases j with
      | zero => rfl
      | succ j => simp at hj
    | succ i => simp at hi⟩
  have hsX : X.t = s := by rw [← hX]
  (repeat refine Zlr ?_)
  refine s_al rfl (fun b8 w n8 => ?_)
  have G := G.new n8
  have h0 := G.blk 0 rfl; try have h1 := G.blk 1 rfl; try have h2 := G.blk 2 rfl; try have h3 := G.blk 3 rfl; try have h4 := G.blk 4 rfl; try have h5 := G.blk 5 rfl
  (repeat refine Zlr ?_)
  refine s_stw (vs := qc X q) rfl (by rw [← hX, ← hq]; rfl) rfl rfl rfl h0 rfl (fun w s' => ?_)
  have G := G.put 0 rfl s' rfl
  clear h0 h1
  have ep : Sy.prs (B s) = fcts X.E (fuel (B s)) (fuel (B s)) q.s := by rw [← hX, ← hq]; unfold Sy.prs; rw [if_neg (fun h => h hgood)]
  obtain ⟨R, hR⟩ : ∃ R, Sy.prs (B s) = R := ⟨_, rfl⟩
  have hno : R ≠ .out := by rw [← hR]; exact prs_no _
  rw [ep] at hR
  have hI : ∀ q', Res (On q (fcts X.E (fuel (B s)) (fuel (B s)))) q' () → Res R q' () := fun q' r => by rw [← hR]; exact r.on hc
  have hN : On q (fcts X.E (fuel (B s)) (fuel (B s))) ≠ .out := On_ne fun _ => by rw [hR]; exact hno
  have fin : ∀ {v : Value} {q' : Q} {w1 : World}, Res R q' () → Sg X w0 q w1 q' → (∃ ux us uf a c, v = .tuple #[.agg #[ux, us, uf], .int .i64 a, .int .i64 c] ∧ c = q'.c ∧ (q'.c = 0 → ux = q'.x.v ∧ us = q'.y.v ∧ uf = q'.z.v) ∧ (q'.c ≠ 0 → ux = nilS ∧ us = nilS ∧ uf = nilS)) → ParR s w0 v w1 := by
    rintro v q' w1 r g ⟨ux, us, uf, a, c, rfl, hcc, hu, he⟩
    refine ⟨ux, us, uf, a, c, rfl, g.gs.kp.mono fun i _ h => nsx i h, ?_⟩
    by_cases h : q'.c = 0
    · obtain ⟨rfl, rfl, rfl⟩ := hu h
      exact .inl ⟨q'.s, by rw [ep, hR]; exact r.ok h, hcc.trans h, (g.at_.gd h).tr, by have := (g.at_.gd h).xl; have := g.at_.lt; have := g.at_.small; omega, (g.at_.gd h).sl, (g.at_.gd h).fl⟩
    · refine .inr ⟨fun S e => ?_, by rw [hcc]; exact h, he h⟩
      rw [ep, hR] at e
      rw [e] at r
      exact h r.1
  clear ep hR hno own4 own0 k4 hb2 n2 k04 A4
  (repeat refine Zlr ?_)
  refine k_loop (σ := PaS) (fun x => [(2, .pointer (some ⟨b2, 0, none⟩)), (8, .pointer (some ⟨b8, 0, none⟩))])
    (fun x w' => (∃ cs, cs.length = 3 ∧ Wb X w0 q w' x.q [(b8, qc X x.q, Tp), (b2, cs, 27)]) ∧ (∀ q', Res (On x.q (fcts X.E (fuel (B s)) x.m)) q' () → Res R q' ()) ∧ On x.q (fcts X.E (fuel (B s)) x.m) ≠ .out) (fun x => if x.q.c = 0 then x.m + 1 else 0) ⟨fuel (B s), q⟩ ⟨rfl, rfl, trivial⟩ ⟨⟨_, rfl, G⟩, hI, hN⟩ ?_
  clear hI hN G
  rintro ⟨m, q3⟩ lx w ⟨⟨cs, hcs, G⟩, hI, hN⟩
  simp only at G hI hN
  have h0 := G.blk 0 rfl; try have h1 := G.blk 1 rfl; try have h2 := G.blk 2 rfl; try have h3 := G.blk 3 rfl; try have h4 := G.blk 4 rfl; try have h5 := G.blk 5 rfl
  (repeat (first | refine k_nil ?_ | refine k_n ?_ | refine k_r ?_ | refine k_x ?_ | refine b_n ?_ | refine b_r ?_ | refine b_y rfl ?_ | refine b_z rfl ?_ | refine l_r ?_ | refine l_x ?_ | refine k_seq ?_ | refine k_blk ?_ | refine k_ret ?_ | refine k_exit ?_ | refine k_skip ?_ | refine Zs ?_ | refine Zl ?_))
  refine k_cutc (σ := Unit) (fun _ => [(2, .pointer (some ⟨b2, 0, none⟩)), (8, .pointer (some ⟨b8, 0, none⟩)), (42, .bool (decide (q3.c = 0 ∧ ¬ (q3.s.fn ≠ [] ∧ kd X.E q3.s = 0))))])
    (fun _ w' => Wb X w0 q w' q3 [(b8, qc X q3, Tp), (b2, cs, 27)]) ?_ ?_
  · (repeat refine Zlr ?_)
    by_cases hc : q3.c = 0
    · obtain ⟨_, _, hzn⟩ := (G.at_.gd hc).ny
      obtain ⟨t, ht, e1, e2, e3⟩ := G.at_.tok
      have hlt := G.at_.lt
      obtain ⟨c1, c2, c3⟩ := G.at_.tokens _ _ ht
      refine s_set 26 true rfl (beq_iff_eq.2 hc) ?_
      (repeat (first | refine Zlr ?_ | refine Zn ?_ | refine Zu ?_ | refine Zg ?_ | refine Zgl ?_))
      by_cases hf : q3.s.fn = []
      · refine s_set 32 true rfl (beq_iff_eq.2 (by rw [hzn, hf]; rfl)) ?_
        (repeat (first | refine Zlr ?_ | refine Zn ?_ | refine Zu ?_ | refine Zg ?_ | refine Zgl ?_))
        refine l_cut () ⟨rfl, rfl, ?_, trivial⟩ G
        show Value.bool true = Value.bool _
        congr 1
        simp [hc, hf]
      · refine s_set 32 false rfl (beq_eq_false_iff_ne.2 (by rw [hzn]; have := List.length_pos_iff.2 hf; omega)) ?_
        (repeat (first | refine Zlr ?_ | refine Zn ?_ | refine Zu ?_ | refine Zg ?_ | refine Zgl ?_))
        refine s_gv rfl (r_ia rfl rfl rfl rfl (by omega) (by omega)) ?_
        (repeat (first | refine Zlr ?_ | refine Zn ?_ | refine Zu ?_ | refine Zg ?_ | refine Zgl ?_))
        refine l_cut () ⟨rfl, rfl, ?_, trivial⟩ G
        show Value.bool (t.1 != 0) = Value.bool _
        congr 1
        rw [e1]
        by_cases hk : t.1 = 0 <;> simp [hc, hf, hk]
    · refine s_set 26 false rfl (beq_eq_false_iff_ne.2 hc) ?_
      (repeat (first | refine Zlr ?_ | refine Zn ?_ | refine Zu ?_ | refine Zg ?_ | refine Zgl ?_))
      refine l_cut () ⟨rfl, rfl, ?_, trivial⟩ G
      show Value.bool false = Value.bool _
      congr 1
      simp [hc]
  clear G h0 h1
  rintro _ lx w G
  have h0 := G.blk 0 rfl; try have h1 := G.blk 1 rfl; try have h2 := G.blk 2 rfl; try have h3 := G.blk 3 rfl; try have h4 := G.blk 4 rfl; try have h5 := G.blk 5 rfl
  (repeat refine Zlr ?_)
  by_cases hgo : q3.c = 0 ∧ ¬ (q3.s.fn ≠ [] ∧ kd X.E q3.s = 0)
  · obtain ⟨hc, hgo⟩ := hgo
    refine c_t (congrArg Value.bool (decide_eq_true ⟨hc, hgo⟩)) ?_
    (repeat refine Zlr ?_)
    cases m with
    | zero => exact (hN (by rw [On_c hc]; rfl)).elim
    | succ m =>
    have eA : fcts X.E (fuel (B s)) (m + 1) q3.s = (fct X.E (fuel (B s)) q3.s).bind fun _ s1 => fcts X.E (fuel (B s)) m s1 := if_neg hgo
    rw [On_c hc, eA] at hN
    refine s_call (us := []) (zs := []) (by kernel_rfl) rfl rfl (functionF (fuel (B s)) q3 _ hc G.at_ (bind_ne' hN)) ?_
    rintro _ w ⟨q4, rfl, g, r4⟩
    have G := G.call g
    have h0 := G.blk 0 rfl; try have h1 := G.blk 1 rfl; try have h2 := G.blk 2 rfl; try have h3 := G.blk 3 rfl; try have h4 := G.blk 4 rfl; try have h5 := G.blk 5 rfl
    (repeat refine Zlr ?_)
    refine s_stw (vs := qc X q4) rfl rfl rfl rfl rfl h0 rfl (fun w s' => ?_)
    have G := G.put 0 rfl s' rfl
    (repeat refine Zlr ?_)
    refine l_next ⟨m, q4⟩ ⟨rfl, rfl, trivial⟩ ⟨⟨cs, hcs, G⟩, fun q' r => hI _ (Res.of_c hc ?_), On_ne fun h4 => r4.next hN h4⟩ ?_
    · rw [eA]; exact r4.bind (fun h => r.on h) fun h => r.on_er h
    · simp only [if_pos hc]
      split <;> omega
  · refine c_f (congrArg Value.bool (decide_eq_false hgo)) ?_
    have r3 : Res R q3 () := hI q3 (by
      by_cases hc : q3.c = 0
      · have hx : q3.s.fn ≠ [] ∧ kd X.E q3.s = 0 := Decidable.byContradiction fun h => hgo ⟨hc, h⟩
        cases m with
        | zero => exact (hN (by rw [On_c hc]; rfl)).elim
        | succ m =>
          refine Res.of_c hc ?_
          show Res (if _ then _ else _) _ _
          rw [if_pos hx]; exact ⟨hc, rfl, rfl⟩
      · exact Res.of_er hc hc)
    (repeat refine Zlr ?_)
    by_cases hc : q3.c = 0
    · refine c_f (by show Value.bool (q3.c != 0) = _; rw [bne_eq_false_iff_eq.2 hc]) ?_
      (repeat refine Zlr ?_)
      refine s_v (r_ldb (vs := [.slice q3.x.a q3.x.n q3.x.c, .slice q3.y.a q3.y.n q3.y.c, .slice q3.z.a q3.z.n q3.z.c]) rfl rfl rfl h0 rfl rfl) ?_
      refine s_stw (vs := [.slice q3.x.a q3.x.n q3.x.c, .slice q3.y.a q3.y.n q3.y.c, .slice q3.z.a q3.z.n q3.z.c]) rfl rfl rfl rfl rfl h1 hcs (fun w s' => ?_)
      have G := G.put 1 rfl s' rfl
      have h0 := G.blk 0 rfl; try have h1 := G.blk 1 rfl; try have h2 := G.blk 2 rfl; try have h3 := G.blk 3 rfl; try have h4 := G.blk 4 rfl; try have h5 := G.blk 5 rfl
      (repeat refine Zlr ?_)
      exact ret_c3 rfl (rv_agw rfl h1 rfl rfl) (rv_t rfl) (rv_t rfl) (fin r3 G.sg ⟨_, _, _, _, _, rfl, hc.symm, fun _ => ⟨rfl, rfl, rfl⟩, fun h => (h hc).elim⟩)
    · refine c_t (by show Value.bool (q3.c != 0) = _; rw [bne_iff_ne.2 hc]) ?_
      have n82 : b8 ≠ b2 := fun e => by
        have := G.nd 0 1 b8 _ _ _ _ rfl (by rw [e]; rfl)
        omega
      (repeat refine Zlr ?_)
      refine k_h (fun w' => Kp (fun i => i = b2) w w') [(0, false), (1, false), (2, false), (3, false), (4, false), (5, true), (6, false), (7, false)] 8 (by kernel_rfl) (waits_none) (by kernel_rfl) (by kernel_rfl) (by kernel_rfl) rfl (fun w4 k4 q4' => ?_)
      have k4' : Kp (fun i => i = b2) w w4 := k4.mono fun _ _ h => h.elim
      have hd := fun (w' : World) (hw : Kp (fun i => i = b2) w w') => hw.get h0 n82
      have G := G.no k4
      refine h_v k4' (fun w' hw => r_bd rfl) ?_
      refine h_v k4' (fun w' hw => r_fa rfl rfl) ?_
      refine h_v k4' (fun w' hw => r_ld rfl rfl (cell_of_blk (hd w' hw) rfl)) ?_
      refine h_v k4' (fun w' hw => r_fa rfl rfl) ?_
      refine h_v k4' (fun w' hw => r_ld rfl rfl (cell_of_blk (hd w' hw) rfl)) ?_
      have g1 := G.blk 1 rfl
      refine h_st (vs := [nilS, nilS, nilS]) rfl rfl rfl rfl rfl g1 (by rw [hcs]; exact Nat.le_refl _) (fun w7 s7 => ⟨fun _ => k4'.trans s7.kp fun _ _ h => h, ?_⟩)
      rw [setAt_all (by rw [hcs]; rfl)] at s7
      have G := G.put 1 rfl s7 rfl
      have k7 : Kp (fun i => i = b2) _ w7 := k4'.trans s7.kp fun _ _ h => h
      refine h_v k7 (fun w' hw => r_as rfl) ?_
      refine h_v k7 (fun w' hw => r_as rfl) ?_
      refine h_nil ?_
      have g1 := G.blk 1 rfl
      (repeat refine Zlr ?_)
      exact ret_c3 rfl (rv_agw rfl g1 rfl rfl) (rv_t rfl) (rv_t rfl) (fin r3 G.sg ⟨_, _, _, _, _, rfl, rfl, fun h => (hc h).elim, fun _ => ⟨rfl, rfl, rfl⟩⟩)
end Go.Proofs.YtfnbgbeinmekgaaGreatDoor.Rf
