/- What the proofs of this seat lean on, part 11. -/
import Derived.Test.YtfnbgbeinmekgaaGreatDoorPd10
namespace Go.Proofs.YtfnbgbeinmekgaaGreatDoor.Rf
open Go Go.RowKit Fw Sy
set_option linter.unusedVariables false
set_option maxRecDepth 20000
structure CallS where
  m : Nat
  l : List Int
  a : Option Addr
  c : Nat
  q : Q
def argsX (E : Env) (L : Lv) (fr : Int) (nm : List Int) (d : Int) (l : List Int) (s : PS) : Rs Int := if l = [] ∨ wd E s = wComma ∨ wd E s = wRpar then L.args fr nm d l s else Sy.er E 3 s
theorem argsX_snoc {E : Env} {L : Lv} {fr : Int} {nm : List Int} {d : Int} {l : List Int} {a : Int} {s : PS} : argsX E L fr nm d (l ++ [a]) s = if wd E s = wComma ∨ wd E s = wRpar then L.args fr nm d (l ++ [a]) s else Sy.er E 3 s := by
  simp [argsX]
section
variable {X : Cr}
theorem snoc_int {l : List Int} {a : Int} : l.map (Value.int .i64) ++ [Value.int .i64 a] = (l ++ [a]).map (Value.int .i64) := by simp
set_option maxHeartbeats 4000000 in
theorem callF {N : Nat} (hW : ∀ m, m ≤ N → Wk X (lv X.E m)) : CallD X (lv X.E N) := by
  intro fr nm d q w0 hd h hr
  refine ret_enter Tryz.func113 rfl Tryz.ntmps113 rfl ?_
  (repeat refine Zlr ?_)
  refine s_box (cs := qc X q) rfl rfl (fun b w n => ?_)
  have G := (Wb.start h).new n
  (repeat refine Zlr ?_)
  refine s_al rfl (fun b2 w n2 => ?_)
  have G := G.new n2
  have h0 := G.blk 0 rfl; try have h1 := G.blk 1 rfl; try have h2 := G.blk 2 rfl; try have h3 := G.blk 3 rfl; try have h4 := G.blk 4 rfl; try have h5 := G.blk 5 rfl
  (repeat refine Zlr ?_)
  refine s_call (us := []) (zs := []) (by kernel_rfl) rfl rfl (wantW G.at_ wLpar (by decide) (by decide)) ?_
  rintro _ w ⟨rfl, k⟩
  have G := G.no k
  have G := G.mv (Sg.want G.at_ (show wLpar ≠ [] by decide))
  have h0 := G.blk 0 rfl; try have h1 := G.blk 1 rfl; try have h2 := G.blk 2 rfl; try have h3 := G.blk 3 rfl; try have h4 := G.blk 4 rfl; try have h5 := G.blk 5 rfl
  (repeat refine Zlr ?_)
  refine s_stw (vs := qc X (wantQ X wLpar q)) rfl rfl rfl rfl rfl h1 rfl (fun w s => ?_)
  have G := G.put 1 rfl s rfl
  have h0 := G.blk 0 rfl; try have h1 := G.blk 1 rfl; try have h2 := G.blk 2 rfl; try have h3 := G.blk 3 rfl; try have h4 := G.blk 4 rfl; try have h5 := G.blk 5 rfl
  (repeat refine Zlr ?_)
  refine s_al rfl (fun b3 w n' => ?_)
  have G := G.new n'
  have h0 := G.blk 0 rfl; try have h1 := G.blk 1 rfl; try have h2 := G.blk 2 rfl; try have h3 := G.blk 3 rfl; try have h4 := G.blk 4 rfl; try have h5 := G.blk 5 rfl
  (repeat refine Zlr ?_)
  refine s_stw (vs := exC ({ k := 6, nm := nm }, nilS)) rfl rfl rfl rfl rfl h0 rfl (fun w s => ?_)
  have G := G.put 0 rfl s rfl
  have h0 := G.blk 0 rfl; try have h1 := G.blk 1 rfl; try have h2 := G.blk 2 rfl; try have h3 := G.blk 3 rfl; try have h4 := G.blk 4 rfl; try have h5 := G.blk 5 rfl
  (repeat refine Zlr ?_)
  obtain ⟨R, hR⟩ : ∃ R, On q (call X.E (lv X.E N) fr nm d) = R := ⟨_, rfl⟩
  have hI : ∀ q' a', Res (On (wantQ X wLpar q) (argsX X.E (lv X.E N) fr nm d [])) q' a' → Res R q' a' := fun q' a' r => by
    rw [← hR]
    by_cases hc : q.c = 0
    · refine Res.of_c hc ?_
      exact (want_res wLpar hc).bind (fun hc1 => by have := r.on hc1; rw [argsX, if_pos (.inl rfl)] at this; exact this) fun h => r.on_er h
    · rw [want_er hc] at r
      exact Res.of_er hc (r.on_er hc)
  have hN : On (wantQ X wLpar q) (argsX X.E (lv X.E N) fr nm d []) ≠ .out := On_ne fun hc1 => by
    obtain ⟨hc, _⟩ := want_c hc1
    rw [On_c hc] at hr
    have := (want_res wLpar hc).next hr hc1
    rw [argsX, if_pos (.inl rfl)]; exact this
  rw [hR]
  clear hr hR
  refine k_loop (σ := CallS) (fun x => [(1, .int .i64 fr), (3, .int .i64 d), (4, .pointer (some ⟨b, 0, none⟩)), (8, .pointer (some ⟨b2, 0, none⟩)), (10, .pointer (some ⟨b3, 0, none⟩))])
    (fun x w' => x.m ≤ N ∧ (∃ cs, cs.length = 8 ∧ Wb X w0 q w' x.q [(b3, exC ({ k := 6, nm := nm, l := x.l }, .slice x.a x.l.length x.c), 67), (b2, cs, Tp), (b, qc X x.q, Tp)]) ∧ Ls w0 w' x.q 3 (.slice x.a x.l.length x.c) x.l.length (x.l.map (Value.int .i64)) ∧ (x.l.length ≤ 20001 ∧ (x.q.c = 0 → x.l.length ≤ x.q.s.i)) ∧
      (∀ q' a', Res (On x.q (argsX X.E (lv X.E x.m) fr nm d x.l)) q' a' → Res R q' a') ∧ On x.q (argsX X.E (lv X.E x.m) fr nm d x.l) ≠ .out) (fun x => if x.q.c = 0 then x.m + 1 else 0) ⟨N, [], none, 0, wantQ X wLpar q⟩ ⟨rfl, rfl, rfl, rfl, rfl, trivial⟩ ⟨Nat.le_refl _, ⟨_, rfl, G⟩, Ls.nil, ⟨Nat.zero_le _, fun _ => Nat.zero_le _⟩, hI, hN⟩ ?_
  clear hI hN G h0 h1 h2
  rintro ⟨m, l, la, lc, q3⟩ lx w ⟨hm, ⟨cs, hcs, G⟩, LL, ⟨hl0, hl1⟩, hI, hN⟩
  simp only at hm G LL hl0 hl1 hI hN
  have h0 := G.blk 0 rfl; try have h1 := G.blk 1 rfl; try have h2 := G.blk 2 rfl; try have h3 := G.blk 3 rfl; try have h4 := G.blk 4 rfl; try have h5 := G.blk 5 rfl
  (repeat refine Zlr ?_)
  by_cases hc : q3.c = 0
  · refine s_set 20 true rfl (beq_iff_eq.2 hc) ?_
    (repeat (first | refine Zlr ?_ | refine Zn ?_ | refine Zu ?_ | refine Zg ?_ | refine Zgl ?_))
    refine s_gcall (us := []) (zs := []) rfl (by kernel_rfl) rfl rfl (isW G.at_ wRpar (by decide) (by decide)) ?_
    rintro _ w ⟨rfl, k⟩
    have G := G.no k
    have LL := LL.no k
    have h0 := G.blk 0 rfl; try have h1 := G.blk 1 rfl; try have h2 := G.blk 2 rfl; try have h3 := G.blk 3 rfl; try have h4 := G.blk 4 rfl; try have h5 := G.blk 5 rfl
    (repeat (first | refine Zlr ?_ | refine Zn ?_ | refine Zu ?_ | refine Zg ?_ | refine Zgl ?_))
    have hl1 := hl1 hc
    have hsm := G.at_.small
    have eA : ∀ m l s, (lv X.E (m + 1)).args fr nm d l s = sArgs X.E (lv X.E m) fr nm d l s := fun _ _ _ => rfl
    cases hi : isQ X wRpar q3 with
    | true =>
      refine c_f rfl ?_
      obtain ⟨_, hw⟩ := is_yes hi
      obtain ⟨hc1, hs1⟩ := want_ok (X := X) hc hw
      obtain ⟨q4, hq4⟩ : ∃ q4, (wantQ X wRpar q3).add (.slice la l.length lc) = q4 := ⟨_, rfl⟩
      have Gw := (G.mv (Sg.want G.at_ (show wRpar ≠ [] by decide))).more (.slice la l.length lc) LL.rng
      have LO := LL.own
      rw [hq4] at Gw
      have hb3 := Gw.bx 0 _ _ _ rfl
      have hb := Gw.bx 2 _ _ _ rfl
      have n32 : b3 ≠ b2 := fun e => by
        have := Gw.nd 0 1 b3 _ _ _ _ rfl (by rw [e]; rfl)
        omega
      have n2 : b ≠ b2 := fun e => by
        have := Gw.nd 2 1 b _ _ _ _ rfl (by rw [e]; rfl)
        omega
      (repeat refine Zlr ?_)
      refine k_h (fun w' => Kp (fun i => Sx q4 i ∨ i = b2) w w') [(0, false), (2, false), (3, false), (1, true), (4, true), (5, false), (6, false), (7, true), (8, false)] 9 (by kernel_rfl) (waits_none) (by kernel_rfl) (by kernel_rfl) (by kernel_rfl) rfl (fun w4 k4 q4' => ?_)
      have k4' : Kp (fun i => Sx q4 i ∨ i = b2) w w4 := k4.mono fun _ _ h => h.elim
      have G := G.no k4
      have Gw := Gw.no k4
      have LO := own_kp LO k4 fun _ _ h => h
      refine h_v k4' (fun w' hw => r_ldw rfl (hw.get hb.2.1 (fun e => e.elim hb.2.2 n2)) rfl rfl) ?_
      refine h_v k4' (fun w' hw => r_mv rfl) ?_
      refine h_v k4' (fun w' hw => r_ldw rfl (hw.get hb3.2.1 (fun e => e.elim hb3.2.2 n32)) rfl rfl) ?_
      refine h_call (us := []) (zs := []) (by kernel_rfl) rfl rfl (wantW G.at_ wRpar (by decide) (by decide)) ?_
      rintro _ w5 ⟨rfl, k5⟩
      have Gw := Gw.no k5
      have LO := own_kp LO k5 fun _ _ h => h
      have k5' : Kp (fun i => Sx q4 i ∨ i = b2) _ w5 := k4'.no k5
      refine ⟨fun _ => k5', ?_⟩
      refine h_call (us := []) (zs := []) (vs := [qv X q4, .int .i64 fr, .agg (exC ({ k := 6, nm := nm, l := l }, .slice la l.length lc)).toArray]) (by kernel_rfl) rfl (by rw [← hq4]; rfl) (putF Gw.at_ fr { k := 6, nm := nm, l := l } la l.length lc fun h4 => ⟨LO, by rw [← hq4]; exact fun g hg => .inr hg, by
        have e4 : (wantQ X wRpar q3).c = 0 := by rw [← hq4] at h4; exact h4
        obtain ⟨e5, _, e6⟩ := want_c e4
        rw [← hq4]
        show (wantQ X wRpar q3).s.ex.length + 1 ≤ (wantQ X wRpar q3).s.i
        rw [e6]
        exact Nat.succ_le_succ (G.at_.gd e5).xl⟩) ?_
      rintro _ w6 ⟨q6, a6, rfl, g6, r6⟩
      have Gw := Gw.call g6
      have k6 : Kp (fun i => Sx q4 i ∨ i = b2) _ w6 := k5'.trans (g6.gs.kp.mono fun _ _ h => .inl h) fun _ _ h => h
      refine ⟨fun _ => k6, ?_⟩
      refine h_v k6 (fun w' hw => r_ex rfl) ?_
      refine h_v k6 (fun w' hw => r_ex rfl) ?_
      have g1 := Gw.blk 1 rfl
      refine h_st (vs := qc X q6) rfl rfl rfl rfl rfl g1 (by rw [hcs]; exact Nat.le_refl _) (fun w7 s7 => ⟨fun _ => k6.trans s7.kp fun _ _ h => .inr h, ?_⟩)
      rw [setAt_all (by rw [hcs]; rfl)] at s7
      have Gw := Gw.put 1 rfl s7 rfl
      have k7 : Kp (fun i => Sx q4 i ∨ i = b2) _ w7 := k6.trans s7.kp fun _ _ h => .inr h
      refine h_v k7 (fun w' hw => r_as rfl) ?_
      refine h_nil ?_
      have g1 := Gw.blk 1 rfl
      (repeat refine Zlr ?_)
      refine ret_c2 rfl (rv_agw rfl g1 rfl rfl) (rv_t rfl) ⟨q6, a6, rfl, Gw.sg, hI _ _ ?_⟩
      have r6' : Res (On (wantQ X wRpar q3) (Sy.put X.E fr { k := 6, nm := nm, l := l })) q6 a6 := by rw [← hq4] at r6; exact r6
      refine Res.of_c hc ?_
      rw [argsX, if_pos (.inr (.inr hw))]
      rw [On_c hc, argsX, if_pos (.inr (.inr hw))] at hN
      cases m with
      | zero => exact (hN rfl).elim
      | succ m =>
      rw [eA, sArgs, if_pos hw, ← hs1]
      exact r6'.on hc1
    | false =>
      refine c_t rfl ?_
      have nw := is_no hi hc
      (repeat refine Zlr ?_)
      have MM : (l = [] ∨ wd X.E q3.s = wComma) → m = (m - 1) + 1 := fun A => by
        cases m with
        | zero =>
          refine (hN ?_).elim
          rw [On_c hc, argsX, if_pos (A.imp id .inl)]; rfl
        | succ m => rfl
      have E1 : (l = [] ∨ wd X.E q3.s = wComma) → argsX X.E (lv X.E m) fr nm d l q3.s = (if l = [] then .ok () q3.s else Sy.want X.E wComma q3.s).bind fun _ s1 => ((lv X.E (m - 1)).expr (d + 1) s1).bind fun a s2 => if wd X.E s2 = wComma ∨ wd X.E s2 = wRpar then (lv X.E (m - 1)).args fr nm d (l ++ [a]) s2 else Sy.er X.E 3 s2 := fun A => by
        rw [argsX, if_pos (A.imp id .inl)]
        rw [MM A, eA, sArgs, if_neg nw]; rfl
      by_cases hl : l = []
      · refine c_f (by show Value.bool (decide ((l.length : Int) > 0)) = _; rw [hl]; rfl) ?_
        (repeat refine Zlr ?_)
        obtain ⟨q5, hq5⟩ : ∃ q5, q3 = q5 := ⟨_, rfl⟩
        have F1 : q5.c = 0 → l = [] ∨ wd X.E q3.s = wComma := fun _ => .inl hl
        have F2 : Res (if l = [] then .ok () q3.s else Sy.want X.E wComma q3.s) q5 () := by rw [if_pos hl, ← hq5]; exact ⟨hc, rfl, rfl⟩
        have I5 : q5.c = 0 → l.length ≤ q5.s.i := fun _ => by rw [← hq5]; exact hl1
        have NE : q5.c = 0 → (lv X.E (m - 1)).expr (d + 1) q5.s ≠ .out := fun h5 => by
          rw [On_c hc, E1 (F1 h5)] at hN
          exact bind_ne' (F2.next hN h5)
        have hq5' := hq5
        rw [hq5] at G LL h2
        rw [show qc X q3 = qc X q5 by rw [hq5]]
        refine s_call (us := []) (zs := []) (by kernel_rfl) rfl rfl ((hW (m - 1) (by omega)).expr (d + 1) q5 _ (by omega) G.at_ (On_ne NE)) ?_
        rintro _ w ⟨q6, a, rfl, g, r6⟩
        have LL := LL.gs G.at_ (g).gs rfl
        have G := G.call g
        have h0 := G.blk 0 rfl; try have h1 := G.blk 1 rfl; try have h2 := G.blk 2 rfl; try have h3 := G.blk 3 rfl; try have h4 := G.blk 4 rfl; try have h5 := G.blk 5 rfl
        (repeat refine Zlr ?_)
        refine s_al rfl (fun b' w n' => ?_)
        have G := G.new n'
        have LL := LL.no n'.kp
        have h0 := G.blk 0 rfl; try have h1 := G.blk 1 rfl; try have h2 := G.blk 2 rfl; try have h3 := G.blk 3 rfl; try have h4 := G.blk 4 rfl; try have h5 := G.blk 5 rfl
        (repeat refine Zlr ?_)
        refine s_stw (vs := qc X (q6)) rfl rfl rfl rfl rfl h0 rfl (fun w s => ?_)
        have LL := LL.box s h0 rfl
        have G := G.put 0 rfl s rfl
        have h0 := G.blk 0 rfl; try have h1 := G.blk 1 rfl; try have h2 := G.blk 2 rfl; try have h3 := G.blk 3 rfl; try have h4 := G.blk 4 rfl; try have h5 := G.blk 5 rfl
        (repeat refine Zlr ?_)
        refine s_stw (vs := qc X (q6)) rfl rfl rfl rfl rfl h3 rfl (fun w s => ?_)
        have LL := LL.box s h3 rfl
        have G := G.put 3 rfl s rfl
        have h0 := G.blk 0 rfl; try have h1 := G.blk 1 rfl; try have h2 := G.blk 2 rfl; try have h3 := G.blk 3 rfl; try have h4 := G.blk 4 rfl; try have h5 := G.blk 5 rfl
        (repeat refine Zlr ?_)
        refine s_bs (cs := [.int .i64 a]) (e := 3) rfl (fun b4 w n4 => ?_)
        have LL := LL.no n4.kp
        have G := G.no n4.kp
        have h0 := G.blk 0 rfl; try have h1 := G.blk 1 rfl; try have h2 := G.blk 2 rfl; try have h3 := G.blk 3 rfl; try have h4 := G.blk 4 rfl; try have h5 := G.blk 5 rfl
        have h4 := n4.blk
        (repeat refine Zlr ?_)
        refine s_app (v0 := .slice la l.length lc) (k := l.length) (m := 1) (size := 1) (bytes := 8) (base := 0) (xs := l.map (Value.int .i64)) (news := [.int .i64 a]) rfl rfl rfl rfl rfl rfl rfl rfl LL.own rfl (blk_cells h4) rfl rfl (by omega) (by omega) (Nat.zero_le _) ?_
        intro v w ap
        obtain ⟨a9, c9, e9, _⟩ := own_read ap.own
        subst e9
        rw [snoc_int] at ap
        obtain ⟨G, LL⟩ := (G.drop 1).lst h LL ap rfl (fun i b cs T hi => by
          match i, hi with
          | 0, hi => cases hi; rfl
          | 1, hi => cases hi; rfl
          | 2, hi => cases hi; rfl
          | i + 3, hi => exact absurd hi (by simp))
        have h0 := G.blk 0 rfl; try have h1 := G.blk 1 rfl; try have h2 := G.blk 2 rfl; try have h3 := G.blk 3 rfl; try have h4 := G.blk 4 rfl; try have h5 := G.blk 5 rfl
        (repeat refine Zlr ?_)
        refine s_st (vs := [.slice a9 (l.length + 1) c9]) rfl rfl rfl rfl rfl h0 (Nat.le_of_ble_eq_true rfl) (fun w s => ?_)
        have s : Sb _ b3 (exC ({ k := 6, nm := nm, l := l ++ [a] }, .slice a9 (l.length + 1) c9)) _ w := s
        have LL := LL.box s h0 rfl
        have G := G.put 0 rfl s rfl
        (repeat refine Zlr ?_)
        have hll : (l ++ [a]).length = l.length + 1 := by simp
        have h56 : q6.c = 0 → q5.c = 0 := fun h6 => (r6.up h6).1
        refine l_next ⟨m - 1, l ++ [a], a9, c9, q6⟩ ⟨rfl, rfl, rfl, rfl, rfl, trivial⟩ ⟨by simp only; omega, ⟨cs, hcs, by simp only [hll]; exact G⟩, by simp only [hll]; exact LL, ⟨by simp only [hll]; omega, fun h6 => by
          obtain ⟨h5, e6⟩ := r6.up h6
          have u := (bd_lv (E := X.E) (m - 1)).expr _ _ _ _ e6
          have i5 := I5 h5
          unfold Up at u
          simp only [hll]
          omega⟩, fun q' a' r => hI _ _ (Res.of_c hc ?_), On_ne fun h6 => ?_⟩ ?_
        · by_cases A : l = [] ∨ wd X.E q3.s = wComma
          · rw [E1 A]
            refine F2.bind (fun hc5 => (r6.on hc5).bind (fun hc6 => by have := r.on hc6; rw [argsX_snoc] at this; exact this) fun h => r.on_er h) fun h5 => r.on_er (r6.on_er h5)
          · rw [argsX, if_neg (fun h => h.elim (fun h => A (.inl h)) fun h => h.elim (fun h => A (.inr h)) nw)]
            exact r.on_er (r6.on_er fun h5 => A (F1 h5))
        · have h5 := h56 h6
          have A := F1 h5
          rw [On_c hc, E1 A] at hN
          have := (r6.on h5).next (F2.next hN h5) h6
          show argsX _ _ _ _ _ _ _ ≠ _
          rw [argsX_snoc]; exact this
        · simp only [if_pos hc]
          split
          · rename_i h6
            have := MM (F1 (h56 h6))
            omega
          · omega
      · have hlp : 0 < l.length := List.length_pos_iff.2 hl
        refine c_t (by show Value.bool (decide ((l.length : Int) > 0)) = _; rw [decide_eq_true (by omega)]) ?_
        (repeat refine Zlr ?_)
        refine s_call (us := []) (zs := []) (by kernel_rfl) rfl rfl (wantW G.at_ wComma (by decide) (by decide)) ?_
        rintro _ w ⟨rfl, k⟩
        have G := G.no k
        have LL := LL.no k
        have LL := LL.gs G.at_ (Sg.want G.at_ (show wComma ≠ [] by decide)).gs rfl
        have G := G.mv (Sg.want G.at_ (show wComma ≠ [] by decide))
        have h0 := G.blk 0 rfl; try have h1 := G.blk 1 rfl; try have h2 := G.blk 2 rfl; try have h3 := G.blk 3 rfl; try have h4 := G.blk 4 rfl; try have h5 := G.blk 5 rfl
        (repeat refine Zlr ?_)
        refine s_stw (vs := qc X (wantQ X wComma q3)) rfl rfl rfl rfl rfl h2 rfl (fun w s => ?_)
        have LL := LL.box s h2 rfl
        have G := G.put 2 rfl s rfl
        have h0 := G.blk 0 rfl; try have h1 := G.blk 1 rfl; try have h2 := G.blk 2 rfl; try have h3 := G.blk 3 rfl; try have h4 := G.blk 4 rfl; try have h5 := G.blk 5 rfl
        (repeat refine Zlr ?_)
        obtain ⟨q5, hq5⟩ : ∃ q5, wantQ X wComma q3 = q5 := ⟨_, rfl⟩
        have F1 : q5.c = 0 → l = [] ∨ wd X.E q3.s = wComma := fun h => by rw [← hq5] at h; exact .inr (want_c h).2.1
        have F2 : Res (if l = [] then .ok () q3.s else Sy.want X.E wComma q3.s) q5 () := by rw [if_neg hl, ← hq5]; exact want_res wComma hc
        have I5 : q5.c = 0 → l.length ≤ q5.s.i := fun h => by
          rw [← hq5] at h ⊢
          rw [(want_c h).2.2]
          exact Nat.le_succ_of_le hl1
        have NE : q5.c = 0 → (lv X.E (m - 1)).expr (d + 1) q5.s ≠ .out := fun h5 => by
          rw [On_c hc, E1 (F1 h5)] at hN
          exact bind_ne' (F2.next hN h5)
        rw [hq5] at G LL h2 ⊢
        refine s_call (us := []) (zs := []) (by kernel_rfl) rfl rfl ((hW (m - 1) (by omega)).expr (d + 1) q5 _ (by omega) G.at_ (On_ne NE)) ?_
        rintro _ w ⟨q6, a, rfl, g, r6⟩
        have LL := LL.gs G.at_ (g).gs rfl
        have G := G.call g
        have h0 := G.blk 0 rfl; try have h1 := G.blk 1 rfl; try have h2 := G.blk 2 rfl; try have h3 := G.blk 3 rfl; try have h4 := G.blk 4 rfl; try have h5 := G.blk 5 rfl
        (repeat refine Zlr ?_)
        refine s_al rfl (fun b' w n' => ?_)
        have G := G.new n'
        have LL := LL.no n'.kp
        have h0 := G.blk 0 rfl; try have h1 := G.blk 1 rfl; try have h2 := G.blk 2 rfl; try have h3 := G.blk 3 rfl; try have h4 := G.blk 4 rfl; try have h5 := G.blk 5 rfl
        (repeat refine Zlr ?_)
        refine s_stw (vs := qc X (q6)) rfl rfl rfl rfl rfl h0 rfl (fun w s => ?_)
        have LL := LL.box s h0 rfl
        have G := G.put 0 rfl s rfl
        have h0 := G.blk 0 rfl; try have h1 := G.blk 1 rfl; try have h2 := G.blk 2 rfl; try have h3 := G.blk 3 rfl; try have h4 := G.blk 4 rfl; try have h5 := G.blk 5 rfl
        (repeat refine Zlr ?_)
        refine s_stw (vs := qc X (q6)) rfl rfl rfl rfl rfl h3 rfl (fun w s => ?_)
        have LL := LL.box s h3 rfl
        have G := G.put 3 rfl s rfl
        have h0 := G.blk 0 rfl; try have h1 := G.blk 1 rfl; try have h2 := G.blk 2 rfl; try have h3 := G.blk 3 rfl; try have h4 := G.blk 4 rfl; try have h5 := G.blk 5 rfl
        (repeat refine Zlr ?_)
        refine s_bs (cs := [.int .i64 a]) (e := 3) rfl (fun b4 w n4 => ?_)
        have LL := LL.no n4.kp
        have G := G.no n4.kp
        have h0 := G.blk 0 rfl; try have h1 := G.blk 1 rfl; try have h2 := G.blk 2 rfl; try have h3 := G.blk 3 rfl; try have h4 := G.blk 4 rfl; try have h5 := G.blk 5 rfl
        have h4 := n4.blk
        (repeat refine Zlr ?_)
        refine s_app (v0 := .slice la l.length lc) (k := l.length) (m := 1) (size := 1) (bytes := 8) (base := 0) (xs := l.map (Value.int .i64)) (news := [.int .i64 a]) rfl rfl rfl rfl rfl rfl rfl rfl LL.own rfl (blk_cells h4) rfl rfl (by omega) (by omega) (Nat.zero_le _) ?_
        intro v w ap
        obtain ⟨a9, c9, e9, _⟩ := own_read ap.own
        subst e9
        rw [snoc_int] at ap
        obtain ⟨G, LL⟩ := (G.drop 1).lst h LL ap rfl (fun i b cs T hi => by
          match i, hi with
          | 0, hi => cases hi; rfl
          | 1, hi => cases hi; rfl
          | 2, hi => cases hi; rfl
          | i + 3, hi => exact absurd hi (by simp))
        have h0 := G.blk 0 rfl; try have h1 := G.blk 1 rfl; try have h2 := G.blk 2 rfl; try have h3 := G.blk 3 rfl; try have h4 := G.blk 4 rfl; try have h5 := G.blk 5 rfl
        (repeat refine Zlr ?_)
        refine s_st (vs := [.slice a9 (l.length + 1) c9]) rfl rfl rfl rfl rfl h0 (Nat.le_of_ble_eq_true rfl) (fun w s => ?_)
        have s : Sb _ b3 (exC ({ k := 6, nm := nm, l := l ++ [a] }, .slice a9 (l.length + 1) c9)) _ w := s
        have LL := LL.box s h0 rfl
        have G := G.put 0 rfl s rfl
        (repeat refine Zlr ?_)
        have hll : (l ++ [a]).length = l.length + 1 := by simp
        have h56 : q6.c = 0 → q5.c = 0 := fun h6 => (r6.up h6).1
        refine l_next ⟨m - 1, l ++ [a], a9, c9, q6⟩ ⟨rfl, rfl, rfl, rfl, rfl, trivial⟩ ⟨by simp only; omega, ⟨cs, hcs, by simp only [hll]; exact G⟩, by simp only [hll]; exact LL, ⟨by simp only [hll]; omega, fun h6 => by
          obtain ⟨h5, e6⟩ := r6.up h6
          have u := (bd_lv (E := X.E) (m - 1)).expr _ _ _ _ e6
          have i5 := I5 h5
          unfold Up at u
          simp only [hll]
          omega⟩, fun q' a' r => hI _ _ (Res.of_c hc ?_), On_ne fun h6 => ?_⟩ ?_
        · by_cases A : l = [] ∨ wd X.E q3.s = wComma
          · rw [E1 A]
            refine F2.bind (fun hc5 => (r6.on hc5).bind (fun hc6 => by have := r.on hc6; rw [argsX_snoc] at this; exact this) fun h => r.on_er h) fun h5 => r.on_er (r6.on_er h5)
          · rw [argsX, if_neg (fun h => h.elim (fun h => A (.inl h)) fun h => h.elim (fun h => A (.inr h)) nw)]
            exact r.on_er (r6.on_er fun h5 => A (F1 h5))
        · have h5 := h56 h6
          have A := F1 h5
          rw [On_c hc, E1 A] at hN
          have := (r6.on h5).next (F2.next hN h5) h6
          show argsX _ _ _ _ _ _ _ ≠ _
          rw [argsX_snoc]; exact this
        · simp only [if_pos hc]
          split
          · rename_i h6
            have := MM (F1 (h56 h6))
            omega
          · omega
  · refine s_set 20 false rfl (beq_eq_false_iff_ne.2 hc) ?_
    (repeat (first | refine Zlr ?_ | refine Zn ?_ | refine Zu ?_ | refine Zg ?_ | refine Zgl ?_))
    refine c_f rfl ?_
    obtain ⟨q4, hq4⟩ : ∃ q4, (wantQ X wRpar q3).add (.slice la l.length lc) = q4 := ⟨_, rfl⟩
    have Gw := (G.mv (Sg.want G.at_ (show wRpar ≠ [] by decide))).more (.slice la l.length lc) LL.rng
    have LO := LL.own
    rw [hq4] at Gw
    have hb3 := Gw.bx 0 _ _ _ rfl
    have hb := Gw.bx 2 _ _ _ rfl
    have n32 : b3 ≠ b2 := fun e => by
      have := Gw.nd 0 1 b3 _ _ _ _ rfl (by rw [e]; rfl)
      omega
    have n2 : b ≠ b2 := fun e => by
      have := Gw.nd 2 1 b _ _ _ _ rfl (by rw [e]; rfl)
      omega
    (repeat refine Zlr ?_)
    refine k_h (fun w' => Kp (fun i => Sx q4 i ∨ i = b2) w w') [(0, false), (2, false), (3, false), (1, true), (4, true), (5, false), (6, false), (7, true), (8, false)] 9 (by kernel_rfl) (waits_none) (by kernel_rfl) (by kernel_rfl) (by kernel_rfl) rfl (fun w4 k4 q4' => ?_)
    have k4' : Kp (fun i => Sx q4 i ∨ i = b2) w w4 := k4.mono fun _ _ h => h.elim
    have G := G.no k4
    have Gw := Gw.no k4
    have LO := own_kp LO k4 fun _ _ h => h
    refine h_v k4' (fun w' hw => r_ldw rfl (hw.get hb.2.1 (fun e => e.elim hb.2.2 n2)) rfl rfl) ?_
    refine h_v k4' (fun w' hw => r_mv rfl) ?_
    refine h_v k4' (fun w' hw => r_ldw rfl (hw.get hb3.2.1 (fun e => e.elim hb3.2.2 n32)) rfl rfl) ?_
    refine h_call (us := []) (zs := []) (by kernel_rfl) rfl rfl (wantW G.at_ wRpar (by decide) (by decide)) ?_
    rintro _ w5 ⟨rfl, k5⟩
    have Gw := Gw.no k5
    have LO := own_kp LO k5 fun _ _ h => h
    have k5' : Kp (fun i => Sx q4 i ∨ i = b2) _ w5 := k4'.no k5
    refine ⟨fun _ => k5', ?_⟩
    refine h_call (us := []) (zs := []) (vs := [qv X q4, .int .i64 fr, .agg (exC ({ k := 6, nm := nm, l := l }, .slice la l.length lc)).toArray]) (by kernel_rfl) rfl (by rw [← hq4]; rfl) (putF Gw.at_ fr { k := 6, nm := nm, l := l } la l.length lc fun h4 => ⟨LO, by rw [← hq4]; exact fun g hg => .inr hg, by
      have e4 : (wantQ X wRpar q3).c = 0 := by rw [← hq4] at h4; exact h4
      obtain ⟨e5, _, e6⟩ := want_c e4
      rw [← hq4]
      show (wantQ X wRpar q3).s.ex.length + 1 ≤ (wantQ X wRpar q3).s.i
      rw [e6]
      exact Nat.succ_le_succ (G.at_.gd e5).xl⟩) ?_
    rintro _ w6 ⟨q6, a6, rfl, g6, r6⟩
    have Gw := Gw.call g6
    have k6 : Kp (fun i => Sx q4 i ∨ i = b2) _ w6 := k5'.trans (g6.gs.kp.mono fun _ _ h => .inl h) fun _ _ h => h
    refine ⟨fun _ => k6, ?_⟩
    refine h_v k6 (fun w' hw => r_ex rfl) ?_
    refine h_v k6 (fun w' hw => r_ex rfl) ?_
    have g1 := Gw.blk 1 rfl
    refine h_st (vs := qc X q6) rfl rfl rfl rfl rfl g1 (by rw [hcs]; exact Nat.le_refl _) (fun w7 s7 => ⟨fun _ => k6.trans s7.kp fun _ _ h => .inr h, ?_⟩)
    rw [setAt_all (by rw [hcs]; rfl)] at s7
    have Gw := Gw.put 1 rfl s7 rfl
    have k7 : Kp (fun i => Sx q4 i ∨ i = b2) _ w7 := k6.trans s7.kp fun _ _ h => .inr h
    refine h_v k7 (fun w' hw => r_as rfl) ?_
    refine h_nil ?_
    have g1 := Gw.blk 1 rfl
    (repeat refine Zlr ?_)
    refine ret_c2 rfl (rv_agw rfl g1 rfl rfl) (rv_t rfl) ⟨q6, a6, rfl, Gw.sg, hI _ _ ?_⟩
    have r6' : Res (On (wantQ X wRpar q3) (Sy.put X.E fr { k := 6, nm := nm, l := l })) q6 a6 := by rw [← hq4] at r6; exact r6
    refine Res.of_er hc ?_
    rw [want_er hc] at r6'
    exact r6'.on_er hc
end
end Go.Proofs.YtfnbgbeinmekgaaGreatDoor.Rf
namespace Go.Proofs.YtfnbgbeinmekgaaGreatDoor.Rf
open Go Go.RowKit Fw Sy
set_option linter.unusedVariables false
set_option maxRecDepth 20000
/-- What a block answers: the state that goes on, and a list. -/
def BlkS (X : Cr) (w : World) (q : Q) (r : Rs (List Int)) (v : Value) (w' : World) : Prop := ∃ (q' : Q) (o : List Int) (a : Option Addr) (c : Nat), v = .tuple #[qv X q', .slice a o.length c] ∧ Sg X w q w' q' ∧ Res r q' o ∧ Ls w w' q' 3 (.slice a o.length c) o.length (o.map (Value.int .i64))
def BlockD (X : Cr) (L : Lv) : Prop := ∀ (d : Int) (q : Q) (w : World), 0 ≤ d ∧ d ≤ 66 → Aq X w q → On q (block X.E L d) ≠ .out → Ret Tryz.prog 61 [qv X q, .int .i64 d] w (BlkS X w q (On q (block X.E L d)))
section
variable {X : Cr}
set_option maxHeartbeats 4000000 in
theorem blockF {N : Nat} (hW : ∀ m, m ≤ N → Wk X (lv X.E m)) : BlockD X (lv X.E N) := by
  intro d q w0 hd h hr
  refine ret_enter Tryz.func61 rfl Tryz.ntmps61 rfl ?_
  (repeat refine Zlr ?_)
  refine s_box (cs := qc X q) rfl rfl (fun b w n => ?_)
  have G := (Wb.start h).new n
  (repeat refine Zlr ?_)
  refine s_al rfl (fun b2 w n2 => ?_)
  have G := G.new n2
  have h0 := G.blk 0 rfl; try have h1 := G.blk 1 rfl; try have h2 := G.blk 2 rfl; try have h3 := G.blk 3 rfl; try have h4 := G.blk 4 rfl; try have h5 := G.blk 5 rfl
  (repeat refine Zlr ?_)
  refine s_call (us := []) (zs := []) (by kernel_rfl) rfl rfl (isW G.at_ wLcur (by decide) (by decide)) ?_
  rintro _ w ⟨rfl, k⟩
  have G := G.no k
  have h0 := G.blk 0 rfl; try have h1 := G.blk 1 rfl; try have h2 := G.blk 2 rfl; try have h3 := G.blk 3 rfl; try have h4 := G.blk 4 rfl; try have h5 := G.blk 5 rfl
  (repeat refine Zlr ?_)
  refine k_cutc (σ := Q) (fun _ => [(1, .int .i64 d), (2, .pointer (some ⟨b, 0, none⟩)), (4, .pointer (some ⟨b2, 0, none⟩))])
    (fun q1 w' => (∃ cs, cs.length = 8 ∧ Wb X w0 q w' q1 [(b2, cs, Tp), (b, qc X q1, Tp)]) ∧ Res (On q fun s => if wd X.E s = wLcur then Sy.deep X.E d s else .ok () s) q1 () ∧ (q1.c = 0 → wd X.E q1.s = wLcur → d ≤ 64)) ?_ ?_
  · cases hi : isQ X wLcur q with
    | true =>
      obtain ⟨hc, hw⟩ := is_yes hi
      refine c_t rfl ?_
      (repeat refine Zlr ?_)
      refine s_call (us := []) (zs := []) (by kernel_rfl) rfl rfl (deepF G.at_ (d)) ?_
      rintro _ w ⟨rfl, k⟩
      have G := G.no k
      have G := G.mv (Sg.deep G.at_ (d := d))
      have h0 := G.blk 0 rfl; try have h1 := G.blk 1 rfl; try have h2 := G.blk 2 rfl; try have h3 := G.blk 3 rfl; try have h4 := G.blk 4 rfl; try have h5 := G.blk 5 rfl
      (repeat refine Zlr ?_)
      refine s_stw (vs := qc X (deepQ X d q)) rfl rfl rfl rfl rfl h1 rfl (fun w s => ?_)
      have G := G.put 1 rfl s rfl
      have h0 := G.blk 0 rfl; try have h1 := G.blk 1 rfl; try have h2 := G.blk 2 rfl; try have h3 := G.blk 3 rfl; try have h4 := G.blk 4 rfl; try have h5 := G.blk 5 rfl
      (repeat refine Zlr ?_)
      exact l_cut (deepQ X d q) ⟨rfl, rfl, rfl, trivial⟩ ⟨⟨_, rfl, G⟩, Res.of_c hc (by rw [if_pos hw]; exact deep_res d hc), fun h1 _ => (deep_c h1).2.1⟩
    | false =>
      refine c_f rfl ?_
      (repeat refine Zlr ?_)
      refine l_cut q ⟨rfl, rfl, rfl, trivial⟩ ⟨⟨_, rfl, G⟩, ?_, fun h1 h2 => (is_no hi h1 h2).elim⟩
      by_cases hc : q.c = 0
      · exact Res.of_c hc (by rw [if_neg (is_no hi hc)]; exact ⟨hc, rfl, rfl⟩)
      · exact Res.of_er hc hc
  clear G h0 h1
  rintro q1 lx w ⟨⟨cs, hcs, G⟩, r1, d64⟩
  have h0 := G.blk 0 rfl; try have h1 := G.blk 1 rfl; try have h2 := G.blk 2 rfl; try have h3 := G.blk 3 rfl; try have h4 := G.blk 4 rfl; try have h5 := G.blk 5 rfl
  (repeat refine Zlr ?_)
  refine s_call (us := []) (zs := []) (by kernel_rfl) rfl rfl (wantW G.at_ wLcur (by decide) (by decide)) ?_
  rintro _ w ⟨rfl, k⟩
  have G := G.no k
  have G := G.mv (Sg.want G.at_ (show wLcur ≠ [] by decide))
  have h0 := G.blk 0 rfl; try have h1 := G.blk 1 rfl; try have h2 := G.blk 2 rfl; try have h3 := G.blk 3 rfl; try have h4 := G.blk 4 rfl; try have h5 := G.blk 5 rfl
  (repeat refine Zlr ?_)
  refine s_stw (vs := qc X (wantQ X wLcur q1)) rfl rfl rfl rfl rfl h1 rfl (fun w s => ?_)
  have G := G.put 1 rfl s rfl
  have h0 := G.blk 0 rfl; try have h1 := G.blk 1 rfl; try have h2 := G.blk 2 rfl; try have h3 := G.blk 3 rfl; try have h4 := G.blk 4 rfl; try have h5 := G.blk 5 rfl
  (repeat refine Zlr ?_)
  obtain ⟨R, hR⟩ : ∃ R, On q (block X.E (lv X.E N) d) = R := ⟨_, rfl⟩
  have hB1 : On q (block X.E (lv X.E N) d) = (On q fun s => if wd X.E s = wLcur then Sy.deep X.E d s else .ok () s).bind fun _ s1 => (Sy.want X.E wLcur s1).bind fun _ s2 => (lv X.E N).stmts d [] s2 := by
    by_cases hc : q.c = 0
    · rw [On_c hc, On_c hc]; rfl
    · rw [On_e hc, On_e hc]; rfl
  have hI : ∀ q' a', Res (On (wantQ X wLcur q1) ((lv X.E N).stmts d [])) q' a' → Res R q' a' := fun q' a' r => by
    rw [← hR, hB1]
    refine r1.bind (fun hc1 => (want_res wLcur hc1).bind (fun h => r.on h) fun h => r.on_er h) fun h => ?_
    rw [want_er h] at r; exact r.on_er h
  have hN : On (wantQ X wLcur q1) ((lv X.E N).stmts d []) ≠ .out := On_ne fun hc2 => by
    obtain ⟨hc1, _⟩ := want_c hc2
    rw [hB1] at hr
    exact (want_res wLcur hc1).next (r1.next hr hc1) hc2
  have d64 : (wantQ X wLcur q1).c = 0 → d ≤ 64 := fun h => by
    obtain ⟨hc1, hw, _⟩ := want_c h
    exact d64 hc1 hw
  rw [hR]
  clear hr hR hB1
  generalize wantQ X wLcur q1 = q2 at *
  refine k_loop (σ := CallS) (fun x => [(1, .int .i64 d), (2, .pointer (some ⟨b, 0, none⟩)), (4, .pointer (some ⟨b2, 0, none⟩)), (6, .slice x.a x.l.length x.c)])
    (fun x w' => x.m ≤ N ∧ Wb X w0 q w' x.q [(b2, cs, Tp), (b, qc X x.q, Tp)] ∧ Ls w0 w' x.q 3 (.slice x.a x.l.length x.c) x.l.length (x.l.map (Value.int .i64)) ∧ ((x.l.length ≤ 20001 ∧ (x.q.c = 0 → x.l.length ≤ x.q.s.i)) ∧ (x.q.c = 0 → d ≤ 64)) ∧
      (∀ q' a', Res (On x.q ((lv X.E x.m).stmts d x.l)) q' a' → Res R q' a') ∧ On x.q ((lv X.E x.m).stmts d x.l) ≠ .out) (fun x => if x.q.c = 0 then x.m + 1 else 0) ⟨N, [], none, 0, q2⟩ ⟨rfl, rfl, rfl, rfl, trivial⟩ ⟨Nat.le_refl _, G, Ls.nil, ⟨⟨Nat.zero_le _, fun _ => Nat.zero_le _⟩, d64⟩, hI, hN⟩ ?_
  clear hI hN h0 h1 G r1 d64
  rintro ⟨m, l, la, lc, q3⟩ lx w ⟨hm, G, LL, ⟨⟨hl0, hl1⟩, d64⟩, hI, hN⟩
  simp only at hm G LL hl0 hl1 d64 hI hN
  have h0 := G.blk 0 rfl; try have h1 := G.blk 1 rfl; try have h2 := G.blk 2 rfl; try have h3 := G.blk 3 rfl; try have h4 := G.blk 4 rfl; try have h5 := G.blk 5 rfl
  (repeat refine Zlr ?_)
  by_cases hc : q3.c = 0
  · refine s_set 19 true rfl (beq_iff_eq.2 hc) ?_
    (repeat (first | refine Zlr ?_ | refine Zn ?_ | refine Zu ?_ | refine Zg ?_ | refine Zgl ?_))
    refine s_gcall (us := []) (zs := []) rfl (by kernel_rfl) rfl rfl (isW G.at_ wRcur (by decide) (by decide)) ?_
    rintro _ w ⟨rfl, k⟩
    have G := G.no k
    have LL := LL.no k
    have h0 := G.blk 0 rfl; try have h1 := G.blk 1 rfl; try have h2 := G.blk 2 rfl; try have h3 := G.blk 3 rfl; try have h4 := G.blk 4 rfl; try have h5 := G.blk 5 rfl
    (repeat (first | refine Zlr ?_ | refine Zn ?_ | refine Zu ?_ | refine Zg ?_ | refine Zgl ?_))
    have hl1 := hl1 hc
    have d64 := d64 hc
    have hsm := G.at_.small
    cases m with
    | zero => exact (hN (by rw [On_c hc]; rfl)).elim
    | succ m =>
    have eA : (lv X.E (m + 1)).stmts d l q3.s = sStmts X.E (lv X.E m) d l q3.s := rfl
    rw [On_c hc, eA, sStmts] at hN
    cases hi : isQ X wRcur q3 with
    | true =>
      refine c_f rfl ?_
      obtain ⟨_, hw⟩ := is_yes hi
      obtain ⟨hc1, hs1⟩ := want_ok (X := X) hc hw
      (repeat refine Zlr ?_)
      refine s_call (us := []) (zs := []) (by kernel_rfl) rfl rfl (wantW G.at_ wRcur (by decide) (by decide)) ?_
      rintro _ w ⟨rfl, k⟩
      have G := G.no k
      have LL := LL.no k
      have LL := LL.gs G.at_ (Sg.want G.at_ (show wRcur ≠ [] by decide)).gs rfl
      have G := G.mv (Sg.want G.at_ (show wRcur ≠ [] by decide))
      have h0 := G.blk 0 rfl; try have h1 := G.blk 1 rfl; try have h2 := G.blk 2 rfl; try have h3 := G.blk 3 rfl; try have h4 := G.blk 4 rfl; try have h5 := G.blk 5 rfl
      (repeat refine Zlr ?_)
      refine s_stw (vs := qc X (wantQ X wRcur q3)) rfl rfl rfl rfl rfl h0 hcs (fun w s => ?_)
      have LL := LL.box s h0 rfl
      have G := G.put 0 rfl s rfl
      have h0 := G.blk 0 rfl; try have h1 := G.blk 1 rfl; try have h2 := G.blk 2 rfl; try have h3 := G.blk 3 rfl; try have h4 := G.blk 4 rfl; try have h5 := G.blk 5 rfl
      (repeat refine Zlr ?_)
      refine ret_c2 rfl (rv_agw rfl h0 rfl rfl) (rv_t rfl) ⟨wantQ X wRcur q3, l, la, lc, rfl, G.sg, hI _ _ ?_, LL⟩
      refine Res.of_c hc ?_
      rw [eA, sStmts, if_pos hw]
      exact ⟨hc1, hs1, rfl⟩
    | false =>
      refine c_t rfl ?_
      have nw := is_no hi hc
      rw [if_neg nw] at hN
      (repeat refine Zlr ?_)
      refine s_call (us := []) (zs := []) (by kernel_rfl) rfl rfl ((hW m (by omega)).stmt d q3 _ ⟨hd.1, d64⟩ G.at_ (On_ne fun _ => bind_ne' hN)) ?_
      rintro _ w ⟨q6, a, rfl, g, r6⟩
      have LL := LL.gs G.at_ (g).gs rfl
      have G := G.call g
      have h0 := G.blk 0 rfl; try have h1 := G.blk 1 rfl; try have h2 := G.blk 2 rfl; try have h3 := G.blk 3 rfl; try have h4 := G.blk 4 rfl; try have h5 := G.blk 5 rfl
      (repeat refine Zlr ?_)
      refine s_al rfl (fun b' w n' => ?_)
      have G := G.new n'
      have LL := LL.no n'.kp
      have h0 := G.blk 0 rfl; try have h1 := G.blk 1 rfl; try have h2 := G.blk 2 rfl; try have h3 := G.blk 3 rfl; try have h4 := G.blk 4 rfl; try have h5 := G.blk 5 rfl
      (repeat refine Zlr ?_)
      refine s_stw (vs := qc X (q6)) rfl rfl rfl rfl rfl h0 rfl (fun w s => ?_)
      have LL := LL.box s h0 rfl
      have G := G.put 0 rfl s rfl
      have h0 := G.blk 0 rfl; try have h1 := G.blk 1 rfl; try have h2 := G.blk 2 rfl; try have h3 := G.blk 3 rfl; try have h4 := G.blk 4 rfl; try have h5 := G.blk 5 rfl
      (repeat refine Zlr ?_)
      refine s_stw (vs := qc X (q6)) rfl rfl rfl rfl rfl h2 rfl (fun w s => ?_)
      have LL := LL.box s h2 rfl
      have G := G.put 2 rfl s rfl
      have h0 := G.blk 0 rfl; try have h1 := G.blk 1 rfl; try have h2 := G.blk 2 rfl; try have h3 := G.blk 3 rfl; try have h4 := G.blk 4 rfl; try have h5 := G.blk 5 rfl
      (repeat refine Zlr ?_)
      refine s_bs (cs := [.int .i64 a]) (e := 3) rfl (fun b4 w n4 => ?_)
      have LL := LL.no n4.kp
      have G := G.no n4.kp
      have h0 := G.blk 0 rfl; try have h1 := G.blk 1 rfl; try have h2 := G.blk 2 rfl; try have h3 := G.blk 3 rfl; try have h4 := G.blk 4 rfl; try have h5 := G.blk 5 rfl
      have h4 := n4.blk
      (repeat refine Zlr ?_)
      refine s_app (v0 := .slice la l.length lc) (k := l.length) (m := 1) (size := 1) (bytes := 8) (base := 0) (xs := l.map (Value.int .i64)) (news := [.int .i64 a]) rfl rfl rfl rfl rfl rfl rfl rfl LL.own rfl (blk_cells h4) rfl rfl (by omega) (by omega) (Nat.zero_le _) ?_
      intro v w ap
      obtain ⟨a9, c9, e9, _⟩ := own_read ap.own
      subst e9
      rw [snoc_int] at ap
      obtain ⟨G, LL⟩ := (G.drop 1).lst h LL ap rfl (fun i b cs T hi => by
        match i, hi with
        | 0, hi => cases hi; rfl
        | 1, hi => cases hi; rfl
        | i + 2, hi => exact absurd hi (by simp))
      have h0 := G.blk 0 rfl; try have h1 := G.blk 1 rfl; try have h2 := G.blk 2 rfl; try have h3 := G.blk 3 rfl; try have h4 := G.blk 4 rfl; try have h5 := G.blk 5 rfl
      (repeat refine Zlr ?_)
      have hll : (l ++ [a]).length = l.length + 1 := by simp
      refine l_next ⟨m, l ++ [a], a9, c9, q6⟩ ⟨rfl, rfl, rfl, by simp only [hll]; rfl, trivial⟩ ⟨by simp only; omega, G, by simp only [hll]; exact LL, ⟨⟨by simp only [hll]; omega, fun h6 => by
        obtain ⟨h5, e6⟩ := r6.up h6
        have u := (bd_lv (E := X.E) m).stmt _ _ _ _ e6
        unfold Up at u
        simp only [hll]
        omega⟩, fun _ => d64⟩, fun q' a' r => hI _ _ (Res.of_c hc ?_), On_ne fun h6 => (r6.on hc).next hN h6⟩ ?_
      · rw [eA, sStmts, if_neg nw]
        exact (r6.on hc).bind (fun h => r.on h) fun h => r.on_er h
      · simp only [if_pos hc]
        split <;> omega
  · refine s_set 19 false rfl (beq_eq_false_iff_ne.2 hc) ?_
    (repeat (first | refine Zlr ?_ | refine Zn ?_ | refine Zu ?_ | refine Zg ?_ | refine Zgl ?_))
    refine c_f rfl ?_
    (repeat refine Zlr ?_)
    refine s_call (us := []) (zs := []) (by kernel_rfl) rfl rfl (wantW G.at_ wRcur (by decide) (by decide)) ?_
    rintro _ w ⟨rfl, k⟩
    have G := G.no k
    have LL := LL.no k
    have LL := LL.gs G.at_ (Sg.want G.at_ (show wRcur ≠ [] by decide)).gs rfl
    have G := G.mv (Sg.want G.at_ (show wRcur ≠ [] by decide))
    have h0 := G.blk 0 rfl; try have h1 := G.blk 1 rfl; try have h2 := G.blk 2 rfl; try have h3 := G.blk 3 rfl; try have h4 := G.blk 4 rfl; try have h5 := G.blk 5 rfl
    (repeat refine Zlr ?_)
    refine s_stw (vs := qc X (wantQ X wRcur q3)) rfl rfl rfl rfl rfl h0 hcs (fun w s => ?_)
    have LL := LL.box s h0 rfl
    have G := G.put 0 rfl s rfl
    have h0 := G.blk 0 rfl; try have h1 := G.blk 1 rfl; try have h2 := G.blk 2 rfl; try have h3 := G.blk 3 rfl; try have h4 := G.blk 4 rfl; try have h5 := G.blk 5 rfl
    (repeat refine Zlr ?_)
    refine ret_c2 rfl (rv_agw rfl h0 rfl rfl) (rv_t rfl) ⟨wantQ X wRcur q3, l, la, lc, rfl, G.sg, hI _ _ ?_, LL⟩
    rw [want_er hc]
    exact Res.of_er hc hc
end
end Go.Proofs.YtfnbgbeinmekgaaGreatDoor.Rf
namespace Go.Proofs.YtfnbgbeinmekgaaGreatDoor.Rf
open Go Go.RowKit Fw Sy
set_option linter.unusedVariables false
set_option maxRecDepth 20000
structure BrS where
  el : List Int
  a : Option Addr
  c : Nat
  q : Q
section
variable {X : Cr} {L : Lv}
set_option maxHeartbeats 4000000 in
theorem branchF (hB : Bd L) (hL : Wk X L) (hK : BlockD X L) (fr d : Int) (q : Q) (w0 : World) (hd : 0 ≤ d ∧ d ≤ 65) (hd4 : q.c = 0 → d ≤ 64) (h : Aq X w0 q) (hr : On q (sBranch X.E L fr d) ≠ .out) : Ret Tryz.prog 109 [qv X q, .int .i64 fr, .int .i64 d] w0 (RecS X w0 q (On q (sBranch X.E L fr d))) := by
  refine ret_enter Tryz.func109 rfl Tryz.ntmps109 rfl ?_
  (repeat refine Zlr ?_)
  refine s_box (cs := qc X q) rfl rfl (fun b w n => ?_)
  have G := (Wb.start h).new n
  (repeat refine Zlr ?_)
  refine s_al rfl (fun b2 w n2 => ?_)
  have G := G.new n2
  have h0 := G.blk 0 rfl; try have h1 := G.blk 1 rfl; try have h2 := G.blk 2 rfl; try have h3 := G.blk 3 rfl; try have h4 := G.blk 4 rfl; try have h5 := G.blk 5 rfl
  (repeat refine Zlr ?_)
  have hne1 : On q (L.expr d) ≠ .out := On_ne fun hc => by
    rw [On_c hc] at hr; exact bind_ne' hr
  refine s_call (us := []) (zs := []) (by kernel_rfl) rfl rfl (hL.expr d q _ hd G.at_ hne1) ?_
  rintro _ w ⟨q1, a, rfl, g, r1⟩
  have G := G.call g
  have h0 := G.blk 0 rfl; try have h1 := G.blk 1 rfl; try have h2 := G.blk 2 rfl; try have h3 := G.blk 3 rfl; try have h4 := G.blk 4 rfl; try have h5 := G.blk 5 rfl
  (repeat refine Zlr ?_)
  refine s_al rfl (fun b8 w n' => ?_)
  have G := G.new n'
  have h0 := G.blk 0 rfl; try have h1 := G.blk 1 rfl; try have h2 := G.blk 2 rfl; try have h3 := G.blk 3 rfl; try have h4 := G.blk 4 rfl; try have h5 := G.blk 5 rfl
  (repeat refine Zlr ?_)
  refine s_stw (vs := qc X (q1)) rfl rfl rfl rfl rfl h0 rfl (fun w s => ?_)
  have G := G.put 0 rfl s rfl
  have h0 := G.blk 0 rfl; try have h1 := G.blk 1 rfl; try have h2 := G.blk 2 rfl; try have h3 := G.blk 3 rfl; try have h4 := G.blk 4 rfl; try have h5 := G.blk 5 rfl
  (repeat refine Zlr ?_)
  have hne2 : On q1 (block X.E L (d + 1)) ≠ .out := On_ne fun h1 => by
    obtain ⟨hc, _⟩ := r1.up h1
    rw [On_c hc] at hr
    exact bind_ne' ((r1.on hc).next hr h1)
  refine s_call (us := []) (zs := []) (by kernel_rfl) rfl rfl (hK (d + 1) q1 _ (by omega) G.at_ hne2) ?_
  rintro _ w ⟨q2, th, tha, thc, rfl, g, r2, LT⟩
  have hsz := G.sg.gs.kp.size
  have LT : Ls w0 w q2 3 (.slice tha th.length thc) th.length (th.map (Value.int .i64)) := ⟨LT.own, fun g hg => ⟨Nat.le_trans hsz (LT.nw g hg).1, (LT.nw g hg).2⟩⟩
  have G := G.call g
  have h0 := G.blk 0 rfl; try have h1 := G.blk 1 rfl; try have h2 := G.blk 2 rfl; try have h3 := G.blk 3 rfl; try have h4 := G.blk 4 rfl; try have h5 := G.blk 5 rfl
  (repeat refine Zlr ?_)
  refine s_al rfl (fun b10 w n' => ?_)
  have G := G.new n'
  have LT := LT.no n'.kp
  have h0 := G.blk 0 rfl; try have h1 := G.blk 1 rfl; try have h2 := G.blk 2 rfl; try have h3 := G.blk 3 rfl; try have h4 := G.blk 4 rfl; try have h5 := G.blk 5 rfl
  (repeat refine Zlr ?_)
  refine s_stw (vs := qc X (q2)) rfl rfl rfl rfl rfl h0 rfl (fun w s => ?_)
  have LT := LT.box s h0 rfl
  have G := G.put 0 rfl s rfl
  have h0 := G.blk 0 rfl; try have h1 := G.blk 1 rfl; try have h2 := G.blk 2 rfl; try have h3 := G.blk 3 rfl; try have h4 := G.blk 4 rfl; try have h5 := G.blk 5 rfl
  (repeat refine Zlr ?_)
  refine s_al rfl (fun b12 w n' => ?_)
  have G := G.new n'
  have LT := LT.no n'.kp
  have h0 := G.blk 0 rfl; try have h1 := G.blk 1 rfl; try have h2 := G.blk 2 rfl; try have h3 := G.blk 3 rfl; try have h4 := G.blk 4 rfl; try have h5 := G.blk 5 rfl
  (repeat refine Zlr ?_)
  refine s_stw (vs := stC ({ k := 5, a := a, th := th }, .slice tha th.length thc, nilS)) rfl rfl rfl rfl rfl h0 rfl (fun w s => ?_)
  have LT := LT.box s h0 rfl
  have G := G.put 0 rfl s rfl
  have h0 := G.blk 0 rfl; try have h1 := G.blk 1 rfl; try have h2 := G.blk 2 rfl; try have h3 := G.blk 3 rfl; try have h4 := G.blk 4 rfl; try have h5 := G.blk 5 rfl
  (repeat refine Zlr ?_)
  obtain ⟨R, hR⟩ : ∃ R, On q (sBranch X.E L fr d) = R := ⟨_, rfl⟩
  obtain ⟨F, hF⟩ : ∃ F : PS → Rs Int, (fun s2 => if wd X.E s2 = wElse then
      if wd X.E (adv s2) = wIf then (Sy.deep X.E (d + 1) (adv s2)).bind fun _ s3 => (L.branch (Sy.hr X.E (adv s2)) (d + 1) (adv s3)).bind fun x s4 => Sy.add X.E fr { k := 5, a := a, th := th, el := [x] } s4
      else (block X.E L (d + 1) (adv s2)).bind fun el s3 => Sy.add X.E fr { k := 5, a := a, th := th, el := el } s3
    else Sy.add X.E fr { k := 5, a := a, th := th } s2) = F := ⟨_, rfl⟩
  have hJ : ∀ q' a', (q2.c = 0 → Res (F q2.s) q' a') → (q2.c ≠ 0 → q'.c ≠ 0) → Res R q' a' := fun q' a' j1 j2 => by
    rw [← hR]
    by_cases hc : q.c = 0
    · refine Res.of_c hc ?_
      refine (r1.on hc).bind (fun h1 => (r2.on h1).bind (fun h2 => ?_) j2) fun h1 => j2 (r2.on_er h1)
      have := j1 h2
      rw [← hF] at this
      exact this
    · exact Res.of_er hc (j2 (r2.on_er (r1.on_er hc)))
  have hNF : q2.c = 0 → F q2.s ≠ .out := fun h2 => by
    obtain ⟨h1, _⟩ := r2.up h2
    obtain ⟨hc, _⟩ := r1.up h1
    rw [On_c hc] at hr
    rw [← hF]
    exact (r2.on h1).next ((r1.on hc).next hr h1) h2
  have i2 : q2.c = 0 → 1 ≤ q2.s.i ∧ d ≤ 64 := fun h2 => by
    obtain ⟨h1, e2⟩ := r2.up h2
    obtain ⟨hc, _⟩ := r1.up h1
    have u := block_up hB e2
    unfold Up at u
    exact ⟨by omega, hd4 hc⟩
  rw [hR]
  clear hr hR hne1 hne2
  refine s_call (us := []) (zs := []) (by kernel_rfl) rfl rfl (isW G.at_ wElse (by decide) (by decide)) ?_
  rintro _ w ⟨rfl, k⟩
  have G := G.no k
  have LT := LT.no k
  have h0 := G.blk 0 rfl; try have h1 := G.blk 1 rfl; try have h2 := G.blk 2 rfl; try have h3 := G.blk 3 rfl; try have h4 := G.blk 4 rfl; try have h5 := G.blk 5 rfl
  (repeat refine Zlr ?_)
  refine k_cutc (σ := BrS) (fun _ => [(1, .int .i64 fr), (6, .pointer (some ⟨b2, 0, none⟩)), (10, .pointer (some ⟨b10, 0, none⟩)), (12, .pointer (some ⟨b12, 0, none⟩))])
    (fun x w' => (∃ cs, cs.length = 8 ∧ Wb X w0 q w' x.q [(b12, stC ({ k := 5, a := a, th := th, el := x.el }, .slice tha th.length thc, .slice x.a x.el.length x.c), 42), (b10, qc X x.q, Tp), (b8, qc X q1, Tp), (b2, cs, Tp), (b, qc X q, Tp)]) ∧ Ls w0 w' x.q 3 (.slice tha th.length thc) th.length (th.map (Value.int .i64)) ∧ Ls w0 w' x.q 3 (.slice x.a x.el.length x.c) x.el.length (x.el.map (Value.int .i64)) ∧
      (x.q.c = 0 → 1 ≤ x.q.s.i) ∧ ∀ q' a', Res (On x.q (Sy.add X.E fr { k := 5, a := a, th := th, el := x.el })) q' a' → Res R q' a') ?_ ?_
  · cases hi : isQ X wElse q2 with
    | false =>
      refine c_f rfl ?_
      (repeat refine Zlr ?_)
      refine l_cut ⟨[], none, 0, q2⟩ ⟨rfl, rfl, rfl, rfl, trivial⟩ ⟨⟨_, rfl, G⟩, LT, Ls.nil, fun h2 => (i2 h2).1, fun q' a' r => hJ q' a' (fun h2 => ?_) fun h2 => r.on_er h2⟩
      rw [← hF]
      simp only [if_neg (is_no hi h2)]
      exact r.on h2
    | true =>
      obtain ⟨hc2, hw⟩ := is_yes hi
      obtain ⟨hc3, hs3⟩ := want_ok (X := X) hc2 hw
      obtain ⟨i21, i22⟩ := i2 hc2
      have hN := hNF hc2
      rw [← hF] at hN
      simp only [if_pos hw] at hN
      refine c_t rfl ?_
      (repeat refine Zlr ?_)
      refine s_call (us := []) (zs := []) (by kernel_rfl) rfl rfl (wantW G.at_ wElse (by decide) (by decide)) ?_
      rintro _ w ⟨rfl, k⟩
      have G := G.no k
      have LT := LT.no k
      have LT := LT.gs G.at_ (Sg.want G.at_ (show wElse ≠ [] by decide)).gs rfl
      have G := G.mv (Sg.want G.at_ (show wElse ≠ [] by decide))
      have h0 := G.blk 0 rfl; try have h1 := G.blk 1 rfl; try have h2 := G.blk 2 rfl; try have h3 := G.blk 3 rfl; try have h4 := G.blk 4 rfl; try have h5 := G.blk 5 rfl
      (repeat refine Zlr ?_)
      refine s_stw (vs := qc X (wantQ X wElse q2)) rfl rfl rfl rfl rfl h1 rfl (fun w s => ?_)
      have LT := LT.box s h1 rfl
      have G := G.put 1 rfl s rfl
      have h0 := G.blk 0 rfl; try have h1 := G.blk 1 rfl; try have h2 := G.blk 2 rfl; try have h3 := G.blk 3 rfl; try have h4 := G.blk 4 rfl; try have h5 := G.blk 5 rfl
      (repeat refine Zlr ?_)
      generalize wantQ X wElse q2 = q3 at *
      refine s_call (us := []) (zs := []) (by kernel_rfl) rfl rfl (isW G.at_ wIf (by decide) (by decide)) ?_
      rintro _ w ⟨rfl, k⟩
      have G := G.no k
      have LT := LT.no k
      have h0 := G.blk 0 rfl; try have h1 := G.blk 1 rfl; try have h2 := G.blk 2 rfl; try have h3 := G.blk 3 rfl; try have h4 := G.blk 4 rfl; try have h5 := G.blk 5 rfl
      (repeat refine Zlr ?_)
      cases hj : isQ X wIf q3 with
      | true =>
        obtain ⟨_, hw2⟩ := is_yes hj
        rw [hs3] at hw2
        simp only [if_pos hw2] at hN
        refine c_t rfl ?_
        (repeat refine Zlr ?_)
        refine s_call (us := []) (zs := []) (by kernel_rfl) rfl rfl (deepF G.at_ (d + 1)) ?_
        rintro _ w ⟨rfl, k⟩
        have G := G.no k
        have LT := LT.no k
        have LT := LT.gs G.at_ (Sg.deep G.at_ (d := d + 1)).gs rfl
        have G := G.mv (Sg.deep G.at_ (d := d + 1))
        have h0 := G.blk 0 rfl; try have h1 := G.blk 1 rfl; try have h2 := G.blk 2 rfl; try have h3 := G.blk 3 rfl; try have h4 := G.blk 4 rfl; try have h5 := G.blk 5 rfl
        (repeat refine Zlr ?_)
        refine s_stw (vs := qc X (deepQ X (d + 1) q3)) rfl rfl rfl rfl rfl h1 rfl (fun w s => ?_)
        have LT := LT.box s h1 rfl
        have G := G.put 1 rfl s rfl
        have h0 := G.blk 0 rfl; try have h1 := G.blk 1 rfl; try have h2 := G.blk 2 rfl; try have h3 := G.blk 3 rfl; try have h4 := G.blk 4 rfl; try have h5 := G.blk 5 rfl
        (repeat refine Zlr ?_)
        refine s_call (us := []) (zs := []) (by kernel_rfl) rfl rfl (hereF G.at_) ?_
        rintro _ w ⟨rfl, k⟩
        have G := G.no k
        have LT := LT.no k
        have h0 := G.blk 0 rfl; try have h1 := G.blk 1 rfl; try have h2 := G.blk 2 rfl; try have h3 := G.blk 3 rfl; try have h4 := G.blk 4 rfl; try have h5 := G.blk 5 rfl
        (repeat refine Zlr ?_)
        refine s_call (us := []) (zs := []) (by kernel_rfl) rfl rfl (wantW G.at_ wIf (by decide) (by decide)) ?_
        rintro _ w ⟨rfl, k⟩
        have G := G.no k
        have LT := LT.no k
        have LT := LT.gs G.at_ (Sg.want G.at_ (show wIf ≠ [] by decide)).gs rfl
        have G := G.mv (Sg.want G.at_ (show wIf ≠ [] by decide))
        have h0 := G.blk 0 rfl; try have h1 := G.blk 1 rfl; try have h2 := G.blk 2 rfl; try have h3 := G.blk 3 rfl; try have h4 := G.blk 4 rfl; try have h5 := G.blk 5 rfl
        (repeat refine Zlr ?_)
        have e4 : (deepQ X (d + 1) q3).s = q3.s := by
          unfold deepQ
          split
          · exact failQ_s
          · rfl
        have hat : Sy.hr X.E (deepQ X (d + 1) q3).s = Sy.hr X.E (adv q2.s) := by rw [e4, hs3]
        rw [hat]
        have hne5 : On (wantQ X wIf (deepQ X (d + 1) q3)) (L.branch (Sy.hr X.E (adv q2.s)) (d + 1)) ≠ .out := On_ne fun h5 => by
          obtain ⟨h4, _, e5⟩ := want_c h5
          rw [← hs3] at hN
          have := (deep_res (d + 1) hc3).next hN h4
          rw [e5, e4, hs3]
          rw [e4, hs3] at this
          exact bind_ne' this
        refine s_call (us := []) (zs := []) (by kernel_rfl) rfl rfl (hL.branch (Sy.hr X.E (adv q2.s)) (d + 1) _ _ (by omega) (fun h5 => (deep_c (want_c h5).1).2.1) G.at_ hne5) ?_
        rintro _ w ⟨q6, x, rfl, g, r6⟩
        have LT := LT.gs G.at_ (g).gs rfl
        have G := G.call g
        have h0 := G.blk 0 rfl; try have h1 := G.blk 1 rfl; try have h2 := G.blk 2 rfl; try have h3 := G.blk 3 rfl; try have h4 := G.blk 4 rfl; try have h5 := G.blk 5 rfl
        (repeat refine Zlr ?_)
        refine s_al rfl (fun b14 w n' => ?_)
        have G := G.new n'
        have LT := LT.no n'.kp
        have h0 := G.blk 0 rfl; try have h1 := G.blk 1 rfl; try have h2 := G.blk 2 rfl; try have h3 := G.blk 3 rfl; try have h4 := G.blk 4 rfl; try have h5 := G.blk 5 rfl
        (repeat refine Zlr ?_)
        refine s_stw (vs := qc X (q6)) rfl rfl rfl rfl rfl h0 rfl (fun w s => ?_)
        have LT := LT.box s h0 rfl
        have G := G.put 0 rfl s rfl
        have h0 := G.blk 0 rfl; try have h1 := G.blk 1 rfl; try have h2 := G.blk 2 rfl; try have h3 := G.blk 3 rfl; try have h4 := G.blk 4 rfl; try have h5 := G.blk 5 rfl
        (repeat refine Zlr ?_)
        refine s_stw (vs := qc X (q6)) rfl rfl rfl rfl rfl h2 rfl (fun w s => ?_)
        have LT := LT.box s h2 rfl
        have G := G.put 2 rfl s rfl
        have h0 := G.blk 0 rfl; try have h1 := G.blk 1 rfl; try have h2 := G.blk 2 rfl; try have h3 := G.blk 3 rfl; try have h4 := G.blk 4 rfl; try have h5 := G.blk 5 rfl
        (repeat refine Zlr ?_)
        refine s_bs (cs := [.int .i64 x]) (e := 3) rfl (fun b15 w n15 => ?_)
        have LT := LT.no n15.kp
        have hz15 := G.sg.gs.kp.size
        have ob15 : q6.c = 0 → ¬ q6.o b15 := fun h6 ho => by have := (G.at_.gd h6).ob b15 ho; have := n15.ge; omega
        have G := G.no n15.kp
        have LE_ : Ls w0 w q6 3 (.slice (some ⟨b15, 0, none⟩) 1 1) 1 [.int .i64 x] := ⟨own_new n15 (show 1 ≤ maxLen by decide), fun g hg => by
          cases hg
          exact ⟨Nat.le_trans hz15 n15.ge, ob15⟩⟩
        have h0 := G.blk 0 rfl; try have h1 := G.blk 1 rfl; try have h2 := G.blk 2 rfl; try have h3 := G.blk 3 rfl; try have h4 := G.blk 4 rfl; try have h5 := G.blk 5 rfl
        (repeat refine Zlr ?_)
        refine s_st (vs := [.slice (some ⟨b15, 0, none⟩) 1 1]) rfl rfl rfl rfl rfl h1 (Nat.le_of_ble_eq_true rfl) (fun w s => ?_)
        have s : Sb _ b12 (stC ({ k := 5, a := a, th := th, el := [x] }, .slice tha th.length thc, .slice (some ⟨b15, 0, none⟩) 1 1)) _ w := s
        have LT := LT.box s h1 rfl
        have LE_ := LE_.box s h1 rfl
        have G := G.put 1 rfl s rfl
        (repeat refine Zlr ?_)
        refine l_cut ⟨[x], some ⟨b15, 0, none⟩, 1, q6⟩ ⟨rfl, rfl, rfl, rfl, trivial⟩ ⟨⟨_, rfl, G.drop 1⟩, LT, LE_, fun h6 => ?_, fun q' a' r => hJ q' a' (fun _ => ?_) fun h2 => (h2 hc2).elim⟩
        · obtain ⟨h5, e6⟩ := r6.up h6
          have u := hB.branch _ _ _ _ _ e6
          unfold Up at u
          show 1 ≤ q6.s.i
          omega
        · rw [← hF]
          simp only [if_pos hw, if_pos hw2]
          rw [← hs3]
          have dr := deep_res (X := X) (d + 1) hc3
          refine dr.bind (fun h4 => ?_) fun h4 => by
            rw [want_er h4] at r6
            exact r.on_er (r6.on_er h4)
          have h5 : (wantQ X wIf (deepQ X (d + 1) q3)).c = 0 ∧ (wantQ X wIf (deepQ X (d + 1) q3)).s = adv (deepQ X (d + 1) q3).s := want_ok h4 (by rw [e4, hs3]; exact hw2)
          rw [← h5.2, hs3]
          exact (r6.on h5.1).bind (fun h6 => r.on h6) fun h6 => r.on_er h6
      | false =>
        have nw2 := is_no hj hc3
        rw [hs3] at nw2
        simp only [if_neg nw2] at hN
        rw [← hs3] at hN
        refine c_f rfl ?_
        (repeat refine Zlr ?_)
        refine s_call (us := []) (zs := []) (by kernel_rfl) rfl rfl (hK (d + 1) q3 _ (by omega) G.at_ (On_ne fun _ => bind_ne' hN)) ?_
        rintro _ w ⟨q6, el, ela, elc, rfl, g, r6, LE_⟩
        have LT := LT.gs G.at_ (g).gs rfl
        have hsz := G.sg.gs.kp.size
        have LE_ : Ls w0 w q6 3 (.slice ela el.length elc) el.length (el.map (Value.int .i64)) := ⟨LE_.own, fun g hg => ⟨Nat.le_trans hsz (LE_.nw g hg).1, (LE_.nw g hg).2⟩⟩
        have G := G.call g
        have h0 := G.blk 0 rfl; try have h1 := G.blk 1 rfl; try have h2 := G.blk 2 rfl; try have h3 := G.blk 3 rfl; try have h4 := G.blk 4 rfl; try have h5 := G.blk 5 rfl
        (repeat refine Zlr ?_)
        refine s_al rfl (fun b14 w n' => ?_)
        have G := G.new n'
        have LT := LT.no n'.kp
        have LE_ := LE_.no n'.kp
        have h0 := G.blk 0 rfl; try have h1 := G.blk 1 rfl; try have h2 := G.blk 2 rfl; try have h3 := G.blk 3 rfl; try have h4 := G.blk 4 rfl; try have h5 := G.blk 5 rfl
        (repeat refine Zlr ?_)
        refine s_stw (vs := qc X (q6)) rfl rfl rfl rfl rfl h0 rfl (fun w s => ?_)
        have LT := LT.box s h0 rfl
        have LE_ := LE_.box s h0 rfl
        have G := G.put 0 rfl s rfl
        have h0 := G.blk 0 rfl; try have h1 := G.blk 1 rfl; try have h2 := G.blk 2 rfl; try have h3 := G.blk 3 rfl; try have h4 := G.blk 4 rfl; try have h5 := G.blk 5 rfl
        (repeat refine Zlr ?_)
        refine s_stw (vs := qc X (q6)) rfl rfl rfl rfl rfl h2 rfl (fun w s => ?_)
        have LT := LT.box s h2 rfl
        have LE_ := LE_.box s h2 rfl
        have G := G.put 2 rfl s rfl
        have h0 := G.blk 0 rfl; try have h1 := G.blk 1 rfl; try have h2 := G.blk 2 rfl; try have h3 := G.blk 3 rfl; try have h4 := G.blk 4 rfl; try have h5 := G.blk 5 rfl
        (repeat refine Zlr ?_)
        refine s_st (vs := [.slice ela el.length elc]) rfl rfl rfl rfl rfl h1 (Nat.le_of_ble_eq_true rfl) (fun w s => ?_)
        have s : Sb _ b12 (stC ({ k := 5, a := a, th := th, el := el }, .slice tha th.length thc, .slice ela el.length elc)) _ w := s
        have LT := LT.box s h1 rfl
        have LE_ := LE_.box s h1 rfl
        have G := G.put 1 rfl s rfl
        (repeat refine Zlr ?_)
        refine l_cut ⟨el, ela, elc, q6⟩ ⟨rfl, rfl, rfl, rfl, trivial⟩ ⟨⟨_, rfl, G.drop 1⟩, LT, LE_, fun h6 => ?_, fun q' a' r => hJ q' a' (fun _ => ?_) fun h2 => (h2 hc2).elim⟩
        · obtain ⟨h5, e6⟩ := r6.up h6
          have u := block_up hB e6
          unfold Up at u
          show 1 ≤ q6.s.i
          omega
        · rw [← hF]
          simp only [if_pos hw, if_neg nw2]
          rw [← hs3]
          exact (r6.on hc3).bind (fun h6 => r.on h6) fun h6 => r.on_er h6
  clear G LT h0 h1 h2 h3 hJ hNF i2
  rintro ⟨el, ela, elc, q3⟩ lx w ⟨⟨cs, hcs, G⟩, LT, LE_, i1, hJ⟩
  simp only at G LT LE_ i1 hJ
  have h0 := G.blk 0 rfl; try have h1 := G.blk 1 rfl; try have h2 := G.blk 2 rfl; try have h3 := G.blk 3 rfl; try have h4 := G.blk 4 rfl; try have h5 := G.blk 5 rfl
  have G := (G.more (.slice tha th.length thc) LT.rng).more (.slice ela el.length elc) LE_.rng
  (repeat refine Zlr ?_)
  refine s_call (us := []) (zs := []) (vs := [qv X ((q3.add (.slice tha th.length thc)).add (.slice ela el.length elc)), .int .i64 fr, .agg (stC ({ k := 5, a := a, th := th, el := el }, .slice tha th.length thc, .slice ela el.length elc)).toArray]) (by kernel_rfl) rfl rfl (addF G.at_ fr { k := 5, a := a, th := th, el := el } tha ela th.length thc el.length elc fun hc => ⟨⟨LT.own, fun g hg => .inl (.inr hg)⟩, ⟨LE_.own, fun g hg => .inr hg⟩, i1 hc⟩) ?_
  rintro _ w ⟨q7, a7, rfl, g, r7⟩
  have G := G.call g
  have h0 := G.blk 0 rfl; try have h1 := G.blk 1 rfl; try have h2 := G.blk 2 rfl; try have h3 := G.blk 3 rfl; try have h4 := G.blk 4 rfl; try have h5 := G.blk 5 rfl
  (repeat refine Zlr ?_)
  refine s_stw (vs := qc X (q7)) rfl rfl rfl rfl rfl h3 hcs (fun w s => ?_)
  have G := G.put 3 rfl s rfl
  have h0 := G.blk 0 rfl; try have h1 := G.blk 1 rfl; try have h2 := G.blk 2 rfl; try have h3 := G.blk 3 rfl; try have h4 := G.blk 4 rfl; try have h5 := G.blk 5 rfl
  (repeat refine Zlr ?_)
  refine ret_c2 rfl (rv_agw rfl h3 rfl rfl) (rv_t rfl) ⟨q7, a7, rfl, G.sg, ?_⟩
  exact hJ _ _ r7
end
end Go.Proofs.YtfnbgbeinmekgaaGreatDoor.Rf
namespace Go.Proofs.YtfnbgbeinmekgaaGreatDoor.Rf
open Go Go.RowKit Fw Sy
set_option linter.unusedVariables false
set_option maxRecDepth 20000
structure StS where
  x : St
  q : Q
theorem bind_assoc {α β γ : Type} {r : Rs α} {f : α → PS → Rs β} {g : β → PS → Rs γ} : (r.bind f).bind g = r.bind fun x s => (f x s).bind g := by cases r <;> rfl
section
variable {X : Cr} {L : Lv}
theorem numK {w : World} {q : Q} (h : Aq X w q) (w' : World) : Ret Tryz.prog 112 [sv (kindW X 2 q)] w' fun v w1 => v = .int .i64 (num (kindW X 2 q)) ∧ w1 = w' := by
  by_cases e : q.c = 0 ∧ kd X.E q.s = 2
  · have e2 : kindW X 2 q = wd X.E q.s := if_pos e
    rw [e2]; exact numW h e.2 w'
  · have e2 : kindW X 2 q = [] := if_neg e
    rw [e2]
    have := numberF (strOfNums []) w' (by decide) (by
      intro c hc
      rw [B_nums (fun c hc => by cases hc)] at hc
      cases hc)
    rw [B_nums (fun c hc => by cases hc)] at this
    exact this
set_option maxHeartbeats 8000000 in
theorem stmtF (hB : Bd L) (hL : Wk X L) (hK : BlockD X L) (hC : CallD X L) (d : Int) (q : Q) (w0 : World) (hd : 0 ≤ d ∧ d ≤ 64) (h : Aq X w0 q) (hr : On q (sStmt X.E L d) ≠ .out) : Ret Tryz.prog 92 [qv X q, .int .i64 d] w0 (RecS X w0 q (On q (sStmt X.E L d))) := by
  refine ret_enter Tryz.func92 rfl Tryz.ntmps92 rfl ?_
  (repeat refine Zlr ?_)
  refine s_box (cs := qc X q) rfl rfl (fun b w n => ?_)
  have G := (Wb.start h).new n
  (repeat refine Zlr ?_)
  refine s_al rfl (fun b2 w n2 => ?_)
  have G := G.new n2
  have h0 := G.blk 0 rfl; try have h1 := G.blk 1 rfl; try have h2 := G.blk 2 rfl; try have h3 := G.blk 3 rfl; try have h4 := G.blk 4 rfl; try have h5 := G.blk 5 rfl
  (repeat refine Zlr ?_)
  refine s_call (us := []) (zs := []) (by kernel_rfl) rfl rfl (hereF G.at_) ?_
  rintro _ w ⟨rfl, k⟩
  have G := G.no k
  have h0 := G.blk 0 rfl; try have h1 := G.blk 1 rfl; try have h2 := G.blk 2 rfl; try have h3 := G.blk 3 rfl; try have h4 := G.blk 4 rfl; try have h5 := G.blk 5 rfl
  (repeat refine Zlr ?_)
  refine s_al rfl (fun b7 w n' => ?_)
  have G := G.new n'
  have h0 := G.blk 0 rfl; try have h1 := G.blk 1 rfl; try have h2 := G.blk 2 rfl; try have h3 := G.blk 3 rfl; try have h4 := G.blk 4 rfl; try have h5 := G.blk 5 rfl
  (repeat refine Zlr ?_)
  refine s_stw (vs := stC ({ k := 0 }, nilS, nilS)) rfl rfl rfl rfl rfl h0 rfl (fun w s => ?_)
  have G := G.put 0 rfl s rfl
  have h0 := G.blk 0 rfl; try have h1 := G.blk 1 rfl; try have h2 := G.blk 2 rfl; try have h3 := G.blk 3 rfl; try have h4 := G.blk 4 rfl; try have h5 := G.blk 5 rfl
  (repeat refine Zlr ?_)
  refine s_call (us := []) (zs := []) (by kernel_rfl) rfl rfl (isW G.at_ wIf (by decide) (by decide)) ?_
  rintro _ w ⟨rfl, k⟩
  have G := G.no k
  have h0 := G.blk 0 rfl; try have h1 := G.blk 1 rfl; try have h2 := G.blk 2 rfl; try have h3 := G.blk 3 rfl; try have h4 := G.blk 4 rfl; try have h5 := G.blk 5 rfl
  (repeat refine Zlr ?_)
  cases hi : isQ X wIf q with
  | true =>
    obtain ⟨hc, hw⟩ := is_yes hi
    obtain ⟨hc1, hs1⟩ := want_ok (X := X) hc hw
    have hn0 : wd X.E q.s ≠ wVar := by rw [hw]; decide
    have eP : On q (sStmt X.E L d) = L.branch (Sy.hr X.E q.s) d (adv q.s) := by
      rw [On_c hc, sStmt, if_neg hn0, if_pos hw]
    rw [eP, ← hs1] at hr ⊢
    refine c_t rfl ?_
    (repeat refine Zlr ?_)
    refine s_call (us := []) (zs := []) (by kernel_rfl) rfl rfl (wantW G.at_ wIf (by decide) (by decide)) ?_
    rintro _ w ⟨rfl, k⟩
    have G := G.no k
    have G := G.mv (Sg.want G.at_ (show wIf ≠ [] by decide))
    have h0 := G.blk 0 rfl; try have h1 := G.blk 1 rfl; try have h2 := G.blk 2 rfl; try have h3 := G.blk 3 rfl; try have h4 := G.blk 4 rfl; try have h5 := G.blk 5 rfl
    (repeat refine Zlr ?_)
    refine s_call (us := []) (zs := []) (by kernel_rfl) rfl rfl (hL.branch (Sy.hr X.E q.s) d _ _ (by omega) (fun _ => hd.2) G.at_ (On_ne fun _ => hr)) ?_
    rintro _ w ⟨q2, a, rfl, g, r2⟩
    have G := G.call g
    have h0 := G.blk 0 rfl; try have h1 := G.blk 1 rfl; try have h2 := G.blk 2 rfl; try have h3 := G.blk 3 rfl; try have h4 := G.blk 4 rfl; try have h5 := G.blk 5 rfl
    (repeat refine Zlr ?_)
    refine s_stw (vs := qc X (q2)) rfl rfl rfl rfl rfl h1 rfl (fun w s => ?_)
    have G := G.put 1 rfl s rfl
    have h0 := G.blk 0 rfl; try have h1 := G.blk 1 rfl; try have h2 := G.blk 2 rfl; try have h3 := G.blk 3 rfl; try have h4 := G.blk 4 rfl; try have h5 := G.blk 5 rfl
    (repeat refine Zlr ?_)
    refine ret_c2 rfl (rv_agw rfl h1 rfl rfl) (rv_t rfl) ⟨q2, a, rfl, G.sg, ?_⟩
    exact r2.on hc1
  | false =>
    refine c_f rfl ?_
    have ni := is_no hi
    clear hi
    (repeat refine Zlr ?_)
    refine s_call (us := []) (zs := []) (by kernel_rfl) rfl rfl (isW G.at_ wWhile (by decide) (by decide)) ?_
    rintro _ w ⟨rfl, k⟩
    have G := G.no k
    have h0 := G.blk 0 rfl; try have h1 := G.blk 1 rfl; try have h2 := G.blk 2 rfl; try have h3 := G.blk 3 rfl; try have h4 := G.blk 4 rfl; try have h5 := G.blk 5 rfl
    (repeat refine Zlr ?_)
    cases hi : isQ X wWhile q with
    | true =>
      obtain ⟨hc, hw⟩ := is_yes hi
      obtain ⟨hc1, hs1⟩ := want_ok (X := X) hc hw
      have hn0 : wd X.E q.s ≠ wVar := by rw [hw]; decide
      have eP : On q (sStmt X.E L d) = (L.expr d (adv q.s)).bind fun a s1 => (block X.E L (d + 1) s1).bind fun th s2 => Sy.add X.E (Sy.hr X.E q.s) { k := 6, a := a, th := th } s2 := by
        rw [On_c hc, sStmt, if_neg hn0, if_neg (ni hc), if_pos hw]
      rw [eP, ← hs1] at hr ⊢
      refine c_t rfl ?_
      (repeat refine Zlr ?_)
      refine s_call (us := []) (zs := []) (by kernel_rfl) rfl rfl (wantW G.at_ wWhile (by decide) (by decide)) ?_
      rintro _ w ⟨rfl, k⟩
      have G := G.no k
      have G := G.mv (Sg.want G.at_ (show wWhile ≠ [] by decide))
      have h0 := G.blk 0 rfl; try have h1 := G.blk 1 rfl; try have h2 := G.blk 2 rfl; try have h3 := G.blk 3 rfl; try have h4 := G.blk 4 rfl; try have h5 := G.blk 5 rfl
      (repeat refine Zlr ?_)
      refine s_call (us := []) (zs := []) (by kernel_rfl) rfl rfl (hL.expr d _ _ (by omega) G.at_ (On_ne fun _ => bind_ne' hr)) ?_
      rintro _ w ⟨q2, a, rfl, g, r2⟩
      have G := G.call g
      have h0 := G.blk 0 rfl; try have h1 := G.blk 1 rfl; try have h2 := G.blk 2 rfl; try have h3 := G.blk 3 rfl; try have h4 := G.blk 4 rfl; try have h5 := G.blk 5 rfl
      (repeat refine Zlr ?_)
      refine s_al rfl (fun b' w n' => ?_)
      have G := G.new n'
      have h0 := G.blk 0 rfl; try have h1 := G.blk 1 rfl; try have h2 := G.blk 2 rfl; try have h3 := G.blk 3 rfl; try have h4 := G.blk 4 rfl; try have h5 := G.blk 5 rfl
      (repeat refine Zlr ?_)
      refine s_stw (vs := qc X (q2)) rfl rfl rfl rfl rfl h0 rfl (fun w s => ?_)
      have G := G.put 0 rfl s rfl
      have h0 := G.blk 0 rfl; try have h1 := G.blk 1 rfl; try have h2 := G.blk 2 rfl; try have h3 := G.blk 3 rfl; try have h4 := G.blk 4 rfl; try have h5 := G.blk 5 rfl
      (repeat refine Zlr ?_)
      refine s_call (us := []) (zs := []) (by kernel_rfl) rfl rfl (hK (d + 1) q2 _ (by omega) G.at_ (On_ne fun h2 => bind_ne' ((r2.on hc1).next hr h2))) ?_
      rintro _ w ⟨q3, th, tha, thc, rfl, g, r3, LT⟩
      have hsz := G.sg.gs.kp.size
      have LT : Ls w0 w q3 3 (.slice tha th.length thc) th.length (th.map (Value.int .i64)) := ⟨LT.own, fun g hg => ⟨Nat.le_trans hsz (LT.nw g hg).1, (LT.nw g hg).2⟩⟩
      have G := G.call g
      have h0 := G.blk 0 rfl; try have h1 := G.blk 1 rfl; try have h2 := G.blk 2 rfl; try have h3 := G.blk 3 rfl; try have h4 := G.blk 4 rfl; try have h5 := G.blk 5 rfl
      (repeat refine Zlr ?_)
      refine s_al rfl (fun b' w n' => ?_)
      have G := G.new n'
      have LT := LT.no n'.kp
      have h0 := G.blk 0 rfl; try have h1 := G.blk 1 rfl; try have h2 := G.blk 2 rfl; try have h3 := G.blk 3 rfl; try have h4 := G.blk 4 rfl; try have h5 := G.blk 5 rfl
      (repeat refine Zlr ?_)
      refine s_stw (vs := qc X (q3)) rfl rfl rfl rfl rfl h0 rfl (fun w s => ?_)
      have LT := LT.box s h0 rfl
      have G := G.put 0 rfl s rfl
      have h0 := G.blk 0 rfl; try have h1 := G.blk 1 rfl; try have h2 := G.blk 2 rfl; try have h3 := G.blk 3 rfl; try have h4 := G.blk 4 rfl; try have h5 := G.blk 5 rfl
      (repeat refine Zlr ?_)
      have G := G.more (.slice tha th.length thc) LT.rng
      refine s_call (us := []) (zs := []) (vs := [qv X (q3.add (.slice tha th.length thc)), .int .i64 (Sy.hr X.E q.s), .agg (stC ({ k := 6, a := a, th := th }, .slice tha th.length thc, nilS)).toArray]) (by kernel_rfl) rfl rfl (addF G.at_ (Sy.hr X.E q.s) { k := 6, a := a, th := th } tha none th.length thc 0 0 fun hc => ⟨⟨LT.own, fun g hg => .inr hg⟩, ⟨LI.nil, Ow.nil⟩, by
        obtain ⟨_, e3⟩ := r3.up hc
        have u := block_up hB e3
        unfold Up at u
        show 1 ≤ q3.s.i
        omega⟩) ?_
      rintro _ w ⟨q4, a4, rfl, g, r4⟩
      have G := G.call g
      have h0 := G.blk 0 rfl; try have h1 := G.blk 1 rfl; try have h2 := G.blk 2 rfl; try have h3 := G.blk 3 rfl; try have h4 := G.blk 4 rfl; try have h5 := G.blk 5 rfl
      (repeat refine Zlr ?_)
      refine s_stw (vs := qc X (q4)) rfl rfl rfl rfl rfl h3 rfl (fun w s => ?_)
      have G := G.put 3 rfl s rfl
      have h0 := G.blk 0 rfl; try have h1 := G.blk 1 rfl; try have h2 := G.blk 2 rfl; try have h3 := G.blk 3 rfl; try have h4 := G.blk 4 rfl; try have h5 := G.blk 5 rfl
      (repeat refine Zlr ?_)
      refine ret_c2 rfl (rv_agw rfl h3 rfl rfl) (rv_t rfl) ⟨q4, a4, rfl, G.sg, ?_⟩
      exact (r2.on hc1).bind (fun h2 => (r3.on h2).bind (fun h3 => Res.on (q := q3.add _) r4 h3) fun h3 => Res.on_er (q := q3.add _) r4 h3) fun h2 => Res.on_er (q := q3.add _) r4 (r3.on_er h2)
    | false =>
      have nwh := is_no hi
      clear hi
      refine c_f rfl ?_
      refine k_skip ?_
      refine k_n ?_
      obtain ⟨fr, hfr⟩ : ∃ fr, Sy.hr X.E q.s = fr := ⟨_, rfl⟩
      obtain ⟨R, hR⟩ : ∃ R, On q (sStmt X.E L d) = R := ⟨_, rfl⟩
      rw [hfr, hR]
      refine k_cut (σ := StS) (fun _ => [(2, .pointer (some ⟨b, 0, none⟩)), (4, .pointer (some ⟨b2, 0, none⟩)), (6, .int .i64 fr), (7, .pointer (some ⟨b7, 0, none⟩))])
        (fun x w' => (∃ cs, cs.length = 8 ∧ Wb X w0 q w' x.q [(b7, stC (x.x, nilS, nilS), 42), (b2, cs, Tp), (b, qc X x.q, Tp)]) ∧ (x.x.th = [] ∧ x.x.el = []) ∧ ∀ q' a', Res (On x.q (endS X.E fr x.x)) q' a' → Res R q' a') ?_ ?_
      · (repeat refine Zlr ?_)
        refine s_call (us := []) (zs := []) (by kernel_rfl) rfl rfl (isW G.at_ wVar (by decide) (by decide)) ?_
        rintro _ w ⟨rfl, k⟩
        have G := G.no k
        have h0 := G.blk 0 rfl; try have h1 := G.blk 1 rfl; try have h2 := G.blk 2 rfl; try have h3 := G.blk 3 rfl; try have h4 := G.blk 4 rfl; try have h5 := G.blk 5 rfl
        (repeat refine Zlr ?_)
        cases hi : isQ X wVar q with
        | true =>
          obtain ⟨hc, hw⟩ := is_yes hi
          obtain ⟨hc1, hs1⟩ := want_ok (X := X) hc hw
          refine c_t rfl ?_
          (repeat refine Zlr ?_)
          refine s_call (us := []) (zs := []) (by kernel_rfl) rfl rfl (wantW G.at_ wVar (by decide) (by decide)) ?_
          rintro _ w ⟨rfl, k⟩
          have G := G.no k
          have G := G.mv (Sg.want G.at_ (show wVar ≠ [] by decide))
          have h0 := G.blk 0 rfl; try have h1 := G.blk 1 rfl; try have h2 := G.blk 2 rfl; try have h3 := G.blk 3 rfl; try have h4 := G.blk 4 rfl; try have h5 := G.blk 5 rfl
          (repeat refine Zlr ?_)
          have eP : On q (sStmt X.E L d) = (sDecl X.E L d (adv q.s)).bind fun x s1 => endS X.E fr x s1 := by
            rw [On_c hc, sStmt, if_pos hw, hfr]
          rw [eP, ← hs1] at hr hR
          generalize wantQ X wVar q = q1 at *
          refine s_call (us := []) (zs := []) (by kernel_rfl) rfl rfl (kindF G.at_ 1 (by decide)) ?_
          rintro _ w ⟨rfl, k⟩
          have G := G.no k
          have G := G.mv (Sg.kind G.at_ (show (1 : Int) ≠ 0 by decide))
          have h0 := G.blk 0 rfl; try have h1 := G.blk 1 rfl; try have h2 := G.blk 2 rfl; try have h3 := G.blk 3 rfl; try have h4 := G.blk 4 rfl; try have h5 := G.blk 5 rfl
          (repeat refine Zlr ?_)
          have r1 := kind_res (X := X) 1 hc1
          generalize kindQ X 1 q1 = q4 at *
          generalize kindW X 1 q1 = nm at *
          refine s_al rfl (fun b' w n' => ?_)
          have G := G.new n'
          have h0 := G.blk 0 rfl; try have h1 := G.blk 1 rfl; try have h2 := G.blk 2 rfl; try have h3 := G.blk 3 rfl; try have h4 := G.blk 4 rfl; try have h5 := G.blk 5 rfl
          (repeat refine Zlr ?_)
          refine s_stw (vs := qc X (q4)) rfl rfl rfl rfl rfl h0 rfl (fun w s => ?_)
          have G := G.put 0 rfl s rfl
          have h0 := G.blk 0 rfl; try have h1 := G.blk 1 rfl; try have h2 := G.blk 2 rfl; try have h3 := G.blk 3 rfl; try have h4 := G.blk 4 rfl; try have h5 := G.blk 5 rfl
          (repeat refine Zlr ?_)
          refine s_call (us := []) (zs := []) (by kernel_rfl) rfl rfl (isW G.at_ wLbra (by decide) (by decide)) ?_
          rintro _ w ⟨rfl, k⟩
          have G := G.no k
          have h0 := G.blk 0 rfl; try have h1 := G.blk 1 rfl; try have h2 := G.blk 2 rfl; try have h3 := G.blk 3 rfl; try have h4 := G.blk 4 rfl; try have h5 := G.blk 5 rfl
          (repeat refine Zlr ?_)
          cases hj : isQ X wLbra q4 with
          | true =>
            obtain ⟨hc4, hw4⟩ := is_yes hj
            obtain ⟨hc5, hs5⟩ := want_ok (X := X) hc4 hw4
            refine c_t rfl ?_
            (repeat refine Zlr ?_)
            refine s_call (us := []) (zs := []) (by kernel_rfl) rfl rfl (wantW G.at_ wLbra (by decide) (by decide)) ?_
            rintro _ w ⟨rfl, k⟩
            have G := G.no k
            have G := G.mv (Sg.want G.at_ (show wLbra ≠ [] by decide))
            have h0 := G.blk 0 rfl; try have h1 := G.blk 1 rfl; try have h2 := G.blk 2 rfl; try have h3 := G.blk 3 rfl; try have h4 := G.blk 4 rfl; try have h5 := G.blk 5 rfl
            (repeat refine Zlr ?_)
            generalize wantQ X wLbra q4 = q5 at *
            have G5 := G.at_
            refine s_call (us := []) (zs := []) (by kernel_rfl) rfl rfl (kindF G.at_ 2 (by decide)) ?_
            rintro _ w ⟨rfl, k⟩
            have G := G.no k
            have G := G.mv (Sg.kind G.at_ (show (2 : Int) ≠ 0 by decide))
            have h0 := G.blk 0 rfl; try have h1 := G.blk 1 rfl; try have h2 := G.blk 2 rfl; try have h3 := G.blk 3 rfl; try have h4 := G.blk 4 rfl; try have h5 := G.blk 5 rfl
            (repeat refine Zlr ?_)
            refine s_al rfl (fun b' w n' => ?_)
            have G := G.new n'
            have h0 := G.blk 0 rfl; try have h1 := G.blk 1 rfl; try have h2 := G.blk 2 rfl; try have h3 := G.blk 3 rfl; try have h4 := G.blk 4 rfl; try have h5 := G.blk 5 rfl
            (repeat refine Zlr ?_)
            refine s_stw (vs := qc X (kindQ X 2 q5)) rfl rfl rfl rfl rfl h0 rfl (fun w s => ?_)
            have G := G.put 0 rfl s rfl
            have h0 := G.blk 0 rfl; try have h1 := G.blk 1 rfl; try have h2 := G.blk 2 rfl; try have h3 := G.blk 3 rfl; try have h4 := G.blk 4 rfl; try have h5 := G.blk 5 rfl
            (repeat refine Zlr ?_)
            refine s_call (us := []) (zs := []) (by kernel_rfl) rfl rfl (wantW G.at_ wRbra (by decide) (by decide)) ?_
            rintro _ w ⟨rfl, k⟩
            have G := G.no k
            have G := G.mv (Sg.want G.at_ (show wRbra ≠ [] by decide))
            have h0 := G.blk 0 rfl; try have h1 := G.blk 1 rfl; try have h2 := G.blk 2 rfl; try have h3 := G.blk 3 rfl; try have h4 := G.blk 4 rfl; try have h5 := G.blk 5 rfl
            (repeat refine Zlr ?_)
            refine s_stw (vs := qc X (wantQ X wRbra (kindQ X 2 q5))) rfl rfl rfl rfl rfl h4 rfl (fun w s => ?_)
            have G := G.put 4 rfl s rfl
            have h0 := G.blk 0 rfl; try have h1 := G.blk 1 rfl; try have h2 := G.blk 2 rfl; try have h3 := G.blk 3 rfl; try have h4 := G.blk 4 rfl; try have h5 := G.blk 5 rfl
            (repeat refine Zlr ?_)
            refine s_call (us := []) (zs := []) (by kernel_rfl) rfl rfl (numK (q := q5) G5 _) ?_
            rintro _ w ⟨rfl, rfl⟩
            (repeat refine Zlr ?_)
            refine s_stw (vs := stC ({ k := 2, nm := nm, n := num (kindW X 2 q5) }, nilS, nilS)) rfl rfl rfl rfl rfl h2 rfl (fun w s => ?_)
            have G := G.put 2 rfl s rfl
            have h0 := G.blk 0 rfl; try have h1 := G.blk 1 rfl; try have h2 := G.blk 2 rfl; try have h3 := G.blk 3 rfl; try have h4 := G.blk 4 rfl; try have h5 := G.blk 5 rfl
            (repeat refine Zlr ?_)
            exact l_cut ⟨{ k := 2, nm := nm, n := num (kindW X 2 q5) }, wantQ X wRbra (kindQ X 2 q5)⟩ ⟨rfl, rfl, rfl, rfl, trivial⟩ ⟨⟨_, rfl, G.drop 2⟩, ⟨rfl, rfl⟩, fun q' a' r => by
              rw [← hR]
              have D : Res (sDecl X.E L d q1.s) (wantQ X wRbra (kindQ X 2 q5)) { k := 2, nm := nm, n := num (kindW X 2 q5) } := by
                unfold sDecl
                refine r1.bind (fun _ => ?_) fun h => (h hc4).elim
                simp only [if_pos hw4, ← hs5]
                exact (kind_res 2 hc5).bind (fun h => (want_res wRbra h).bind (fun h => ⟨h, rfl, rfl⟩) fun h => h) fun h => by rw [want_er h]; exact h
              exact D.bind (fun h => r.on h) fun h => r.on_er h⟩
          | false =>
            refine c_f rfl ?_
            (repeat refine Zlr ?_)
            refine s_call (us := []) (zs := []) (by kernel_rfl) rfl rfl (wantW G.at_ wEq (by decide) (by decide)) ?_
            rintro _ w ⟨rfl, k⟩
            have G := G.no k
            have G := G.mv (Sg.want G.at_ (show wEq ≠ [] by decide))
            have h0 := G.blk 0 rfl; try have h1 := G.blk 1 rfl; try have h2 := G.blk 2 rfl; try have h3 := G.blk 3 rfl; try have h4 := G.blk 4 rfl; try have h5 := G.blk 5 rfl
            (repeat refine Zlr ?_)
            refine s_call (us := []) (zs := []) (by kernel_rfl) rfl rfl (hL.expr d _ _ (by omega) G.at_ (On_ne fun h5 => by
            obtain ⟨h4, _⟩ := want_c h5
            have hr2 := bind_ne' hr
            unfold sDecl at hr2
            have hr3 := r1.next hr2 h4
            simp only [if_neg (is_no hj h4)] at hr3
            exact bind_ne' ((want_res wEq h4).next hr3 h5))) ?_
            rintro _ w ⟨q6, a, rfl, g, r6⟩
            have G := G.call g
            have h0 := G.blk 0 rfl; try have h1 := G.blk 1 rfl; try have h2 := G.blk 2 rfl; try have h3 := G.blk 3 rfl; try have h4 := G.blk 4 rfl; try have h5 := G.blk 5 rfl
            (repeat refine Zlr ?_)
            refine s_al rfl (fun b' w n' => ?_)
            have G := G.new n'
            have h0 := G.blk 0 rfl; try have h1 := G.blk 1 rfl; try have h2 := G.blk 2 rfl; try have h3 := G.blk 3 rfl; try have h4 := G.blk 4 rfl; try have h5 := G.blk 5 rfl
            (repeat refine Zlr ?_)
            refine s_stw (vs := qc X (q6)) rfl rfl rfl rfl rfl h0 rfl (fun w s => ?_)
            have G := G.put 0 rfl s rfl
            have h0 := G.blk 0 rfl; try have h1 := G.blk 1 rfl; try have h2 := G.blk 2 rfl; try have h3 := G.blk 3 rfl; try have h4 := G.blk 4 rfl; try have h5 := G.blk 5 rfl
            (repeat refine Zlr ?_)
            refine s_stw (vs := qc X (q6)) rfl rfl rfl rfl rfl h4 rfl (fun w s => ?_)
            have G := G.put 4 rfl s rfl
            have h0 := G.blk 0 rfl; try have h1 := G.blk 1 rfl; try have h2 := G.blk 2 rfl; try have h3 := G.blk 3 rfl; try have h4 := G.blk 4 rfl; try have h5 := G.blk 5 rfl
            (repeat refine Zlr ?_)
            refine s_stw (vs := stC ({ k := 1, nm := nm, a := a }, nilS, nilS)) rfl rfl rfl rfl rfl h2 rfl (fun w s => ?_)
            have G := G.put 2 rfl s rfl
            have h0 := G.blk 0 rfl; try have h1 := G.blk 1 rfl; try have h2 := G.blk 2 rfl; try have h3 := G.blk 3 rfl; try have h4 := G.blk 4 rfl; try have h5 := G.blk 5 rfl
            (repeat refine Zlr ?_)
            exact l_cut ⟨{ k := 1, nm := nm, a := a }, q6⟩ ⟨rfl, rfl, rfl, rfl, trivial⟩ ⟨⟨_, rfl, G.drop 2⟩, ⟨rfl, rfl⟩, fun q' a' r => by
              rw [← hR]
              have D : Res (sDecl X.E L d q1.s) q6 { k := 1, nm := nm, a := a } := by
                unfold sDecl
                refine r1.bind (fun h4 => ?_) fun h => by rw [want_er h] at r6; exact r6.on_er h
                simp only [if_neg (is_no hj h4)]
                exact (want_res wEq h4).bind (fun h => (r6.on h).bind (fun h => ⟨h, rfl, rfl⟩) fun h => h) fun h => r6.on_er h
              exact D.bind (fun h => r.on h) fun h => r.on_er h⟩
        | false =>
          have n0 := is_no hi
          clear hi
          refine c_f rfl ?_
          (repeat refine Zlr ?_)
          refine s_call (us := []) (zs := []) (by kernel_rfl) rfl rfl (isW G.at_ wBreak (by decide) (by decide)) ?_
          rintro _ w ⟨rfl, k⟩
          have G := G.no k
          have h0 := G.blk 0 rfl; try have h1 := G.blk 1 rfl; try have h2 := G.blk 2 rfl; try have h3 := G.blk 3 rfl; try have h4 := G.blk 4 rfl; try have h5 := G.blk 5 rfl
          (repeat refine Zlr ?_)
          cases hi : isQ X wBreak q with
          | true =>
            obtain ⟨hc, hw⟩ := is_yes hi
            obtain ⟨hc1, hs1⟩ := want_ok (X := X) hc hw
            refine c_t rfl ?_
            (repeat refine Zlr ?_)
            refine s_call (us := []) (zs := []) (by kernel_rfl) rfl rfl (wantW G.at_ wBreak (by decide) (by decide)) ?_
            rintro _ w ⟨rfl, k⟩
            have G := G.no k
            have G := G.mv (Sg.want G.at_ (show wBreak ≠ [] by decide))
            have h0 := G.blk 0 rfl; try have h1 := G.blk 1 rfl; try have h2 := G.blk 2 rfl; try have h3 := G.blk 3 rfl; try have h4 := G.blk 4 rfl; try have h5 := G.blk 5 rfl
            (repeat refine Zlr ?_)
            refine s_stw (vs := qc X (wantQ X wBreak q)) rfl rfl rfl rfl rfl h2 rfl (fun w s => ?_)
            have G := G.put 2 rfl s rfl
            have h0 := G.blk 0 rfl; try have h1 := G.blk 1 rfl; try have h2 := G.blk 2 rfl; try have h3 := G.blk 3 rfl; try have h4 := G.blk 4 rfl; try have h5 := G.blk 5 rfl
            (repeat refine Zlr ?_)
            refine s_st (vs := [.int .i64 7]) rfl rfl rfl rfl rfl h0 (Nat.le_of_ble_eq_true rfl) (fun w s => ?_)
            have s : Sb _ b7 (stC ({ k := 7 }, nilS, nilS)) _ w := s
            have G := G.put 0 rfl s rfl
            (repeat refine Zlr ?_)
            exact l_cut ⟨{ k := 7 }, wantQ X wBreak q⟩ ⟨rfl, rfl, rfl, rfl, trivial⟩ ⟨⟨_, rfl, G.drop 0⟩, ⟨rfl, rfl⟩, fun q' a' r => by
              rw [← hR]
              rw [On_c hc, sStmt, if_neg (n0 hc), if_neg (ni hc), if_neg (nwh hc), if_pos hw, hfr, ← hs1]
              exact r.on hc1⟩
          | false =>
            have n1 := is_no hi
            clear hi
            refine c_f rfl ?_
            (repeat refine Zlr ?_)
            refine s_call (us := []) (zs := []) (by kernel_rfl) rfl rfl (isW G.at_ wCont (by decide) (by decide)) ?_
            rintro _ w ⟨rfl, k⟩
            have G := G.no k
            have h0 := G.blk 0 rfl; try have h1 := G.blk 1 rfl; try have h2 := G.blk 2 rfl; try have h3 := G.blk 3 rfl; try have h4 := G.blk 4 rfl; try have h5 := G.blk 5 rfl
            (repeat refine Zlr ?_)
            cases hi : isQ X wCont q with
            | true =>
              obtain ⟨hc, hw⟩ := is_yes hi
              obtain ⟨hc1, hs1⟩ := want_ok (X := X) hc hw
              refine c_t rfl ?_
              (repeat refine Zlr ?_)
              refine s_call (us := []) (zs := []) (by kernel_rfl) rfl rfl (wantW G.at_ wCont (by decide) (by decide)) ?_
              rintro _ w ⟨rfl, k⟩
              have G := G.no k
              have G := G.mv (Sg.want G.at_ (show wCont ≠ [] by decide))
              have h0 := G.blk 0 rfl; try have h1 := G.blk 1 rfl; try have h2 := G.blk 2 rfl; try have h3 := G.blk 3 rfl; try have h4 := G.blk 4 rfl; try have h5 := G.blk 5 rfl
              (repeat refine Zlr ?_)
              refine s_stw (vs := qc X (wantQ X wCont q)) rfl rfl rfl rfl rfl h2 rfl (fun w s => ?_)
              have G := G.put 2 rfl s rfl
              have h0 := G.blk 0 rfl; try have h1 := G.blk 1 rfl; try have h2 := G.blk 2 rfl; try have h3 := G.blk 3 rfl; try have h4 := G.blk 4 rfl; try have h5 := G.blk 5 rfl
              (repeat refine Zlr ?_)
              refine s_st (vs := [.int .i64 8]) rfl rfl rfl rfl rfl h0 (Nat.le_of_ble_eq_true rfl) (fun w s => ?_)
              have s : Sb _ b7 (stC ({ k := 8 }, nilS, nilS)) _ w := s
              have G := G.put 0 rfl s rfl
              (repeat refine Zlr ?_)
              exact l_cut ⟨{ k := 8 }, wantQ X wCont q⟩ ⟨rfl, rfl, rfl, rfl, trivial⟩ ⟨⟨_, rfl, G.drop 0⟩, ⟨rfl, rfl⟩, fun q' a' r => by
                rw [← hR]
                rw [On_c hc, sStmt, if_neg (n0 hc), if_neg (ni hc), if_neg (nwh hc), if_neg (n1 hc), if_pos hw, hfr, ← hs1]
                exact r.on hc1⟩
            | false =>
              have n2 := is_no hi
              clear hi
              refine c_f rfl ?_
              (repeat refine Zlr ?_)
              refine s_call (us := []) (zs := []) (by kernel_rfl) rfl rfl (isW G.at_ wReturn (by decide) (by decide)) ?_
              rintro _ w ⟨rfl, k⟩
              have G := G.no k
              have h0 := G.blk 0 rfl; try have h1 := G.blk 1 rfl; try have h2 := G.blk 2 rfl; try have h3 := G.blk 3 rfl; try have h4 := G.blk 4 rfl; try have h5 := G.blk 5 rfl
              (repeat refine Zlr ?_)
              cases hi : isQ X wReturn q with
              | true =>
                obtain ⟨hc, hw⟩ := is_yes hi
                obtain ⟨hc1, hs1⟩ := want_ok (X := X) hc hw
                refine c_t rfl ?_
                (repeat refine Zlr ?_)
                refine s_call (us := []) (zs := []) (by kernel_rfl) rfl rfl (wantW G.at_ wReturn (by decide) (by decide)) ?_
                rintro _ w ⟨rfl, k⟩
                have G := G.no k
                have G := G.mv (Sg.want G.at_ (show wReturn ≠ [] by decide))
                have h0 := G.blk 0 rfl; try have h1 := G.blk 1 rfl; try have h2 := G.blk 2 rfl; try have h3 := G.blk 3 rfl; try have h4 := G.blk 4 rfl; try have h5 := G.blk 5 rfl
                (repeat refine Zlr ?_)
                have eP : On q (sStmt X.E L d) = if wd X.E (adv q.s) = wSemi then endS X.E fr { k := 9, a := -1 } (adv q.s) else (L.expr d (adv q.s)).bind fun a s1 => endS X.E fr { k := 9, a := a } s1 := by
                  rw [On_c hc, sStmt, if_neg (n0 hc), if_neg (ni hc), if_neg (nwh hc), if_neg (n1 hc), if_neg (n2 hc), if_pos hw, hfr]
                rw [eP, ← hs1] at hr hR
                refine s_stw (vs := qc X (wantQ X wReturn q)) rfl rfl rfl rfl rfl h2 rfl (fun w s => ?_)
                have G := G.put 2 rfl s rfl
                have h0 := G.blk 0 rfl; try have h1 := G.blk 1 rfl; try have h2 := G.blk 2 rfl; try have h3 := G.blk 3 rfl; try have h4 := G.blk 4 rfl; try have h5 := G.blk 5 rfl
                (repeat refine Zlr ?_)
                generalize wantQ X wReturn q = q1 at *
                refine s_stw (vs := stC ({ k := 9, a := -1 }, nilS, nilS)) rfl rfl rfl rfl rfl h0 rfl (fun w s => ?_)
                have G := G.put 0 rfl s rfl
                have h0 := G.blk 0 rfl; try have h1 := G.blk 1 rfl; try have h2 := G.blk 2 rfl; try have h3 := G.blk 3 rfl; try have h4 := G.blk 4 rfl; try have h5 := G.blk 5 rfl
                (repeat refine Zlr ?_)
                refine s_call (us := []) (zs := []) (by kernel_rfl) rfl rfl (isW G.at_ wSemi (by decide) (by decide)) ?_
                rintro _ w ⟨rfl, k⟩
                have G := G.no k
                have h0 := G.blk 0 rfl; try have h1 := G.blk 1 rfl; try have h2 := G.blk 2 rfl; try have h3 := G.blk 3 rfl; try have h4 := G.blk 4 rfl; try have h5 := G.blk 5 rfl
                (repeat refine Zlr ?_)
                cases hj : isQ X wSemi q1 with
                | true =>
                  refine c_f rfl ?_
                  (repeat refine Zlr ?_)
                  exact l_cut ⟨{ k := 9, a := -1 }, q1⟩ ⟨rfl, rfl, rfl, rfl, trivial⟩ ⟨⟨_, rfl, G.drop 0⟩, ⟨rfl, rfl⟩, fun q' a' r => by
                    rw [← hR]
                    rw [if_pos (is_yes hj).2]
                    exact r.on hc1⟩
                | false =>
                  rw [if_neg (is_no hj hc1)] at hr
                  refine c_t rfl ?_
                  (repeat refine Zlr ?_)
                  refine s_call (us := []) (zs := []) (by kernel_rfl) rfl rfl (hL.expr d _ _ (by omega) G.at_ (On_ne fun h5 => bind_ne' hr)) ?_
                  rintro _ w ⟨q6, a, rfl, g, r6⟩
                  have G := G.call g
                  have h0 := G.blk 0 rfl; try have h1 := G.blk 1 rfl; try have h2 := G.blk 2 rfl; try have h3 := G.blk 3 rfl; try have h4 := G.blk 4 rfl; try have h5 := G.blk 5 rfl
                  (repeat refine Zlr ?_)
                  refine s_al rfl (fun b' w n' => ?_)
                  have G := G.new n'
                  have h0 := G.blk 0 rfl; try have h1 := G.blk 1 rfl; try have h2 := G.blk 2 rfl; try have h3 := G.blk 3 rfl; try have h4 := G.blk 4 rfl; try have h5 := G.blk 5 rfl
                  (repeat refine Zlr ?_)
                  refine s_stw (vs := qc X (q6)) rfl rfl rfl rfl rfl h0 rfl (fun w s => ?_)
                  have G := G.put 0 rfl s rfl
                  have h0 := G.blk 0 rfl; try have h1 := G.blk 1 rfl; try have h2 := G.blk 2 rfl; try have h3 := G.blk 3 rfl; try have h4 := G.blk 4 rfl; try have h5 := G.blk 5 rfl
                  (repeat refine Zlr ?_)
                  refine s_stw (vs := qc X (q6)) rfl rfl rfl rfl rfl h3 rfl (fun w s => ?_)
                  have G := G.put 3 rfl s rfl
                  have h0 := G.blk 0 rfl; try have h1 := G.blk 1 rfl; try have h2 := G.blk 2 rfl; try have h3 := G.blk 3 rfl; try have h4 := G.blk 4 rfl; try have h5 := G.blk 5 rfl
                  (repeat refine Zlr ?_)
                  refine s_st (vs := [.int .i64 a]) rfl rfl rfl rfl rfl h1 (Nat.le_of_ble_eq_true rfl) (fun w s => ?_)
                  have s : Sb _ b7 (stC ({ k := 9, a := a }, nilS, nilS)) _ w := s
                  have G := G.put 1 rfl s rfl
                  (repeat refine Zlr ?_)
                  exact l_cut ⟨{ k := 9, a := a }, q6⟩ ⟨rfl, rfl, rfl, rfl, trivial⟩ ⟨⟨_, rfl, G.drop 1⟩, ⟨rfl, rfl⟩, fun q' a' r => by
                    rw [← hR]
                    rw [if_neg (is_no hj hc1)]
                    exact (r6.on hc1).bind (fun h => r.on h) fun h => r.on_er h⟩
              | false =>
                have n3 := is_no hi
                clear hi
                refine c_f rfl ?_
                (repeat refine Zlr ?_)
                refine s_call (us := []) (zs := []) (by kernel_rfl) rfl rfl (isW G.at_ wPrint (by decide) (by decide)) ?_
                rintro _ w ⟨rfl, k⟩
                have G := G.no k
                have h0 := G.blk 0 rfl; try have h1 := G.blk 1 rfl; try have h2 := G.blk 2 rfl; try have h3 := G.blk 3 rfl; try have h4 := G.blk 4 rfl; try have h5 := G.blk 5 rfl
                (repeat refine Zlr ?_)
                cases hi : isQ X wPrint q with
                | true =>
                  obtain ⟨hc, hw⟩ := is_yes hi
                  obtain ⟨hc1, hs1⟩ := want_ok (X := X) hc hw
                  refine c_t rfl ?_
                  (repeat refine Zlr ?_)
                  refine s_call (us := []) (zs := []) (by kernel_rfl) rfl rfl (wantW G.at_ wPrint (by decide) (by decide)) ?_
                  rintro _ w ⟨rfl, k⟩
                  have G := G.no k
                  have G := G.mv (Sg.want G.at_ (show wPrint ≠ [] by decide))
                  have h0 := G.blk 0 rfl; try have h1 := G.blk 1 rfl; try have h2 := G.blk 2 rfl; try have h3 := G.blk 3 rfl; try have h4 := G.blk 4 rfl; try have h5 := G.blk 5 rfl
                  (repeat refine Zlr ?_)
                  have eP : On q (sStmt X.E L d) = (L.expr d (adv q.s)).bind fun a s1 => endS X.E fr { k := 10, a := a } s1 := by
                    rw [On_c hc, sStmt, if_neg (n0 hc), if_neg (ni hc), if_neg (nwh hc), if_neg (n1 hc), if_neg (n2 hc), if_neg (n3 hc), if_pos hw, hfr]
                  rw [eP, ← hs1] at hr hR
                  refine s_call (us := []) (zs := []) (by kernel_rfl) rfl rfl (hL.expr d _ _ (by omega) G.at_ (On_ne fun h5 => bind_ne' hr)) ?_
                  rintro _ w ⟨q6, a, rfl, g, r6⟩
                  have G := G.call g
                  have h0 := G.blk 0 rfl; try have h1 := G.blk 1 rfl; try have h2 := G.blk 2 rfl; try have h3 := G.blk 3 rfl; try have h4 := G.blk 4 rfl; try have h5 := G.blk 5 rfl
                  (repeat refine Zlr ?_)
                  refine s_al rfl (fun b' w n' => ?_)
                  have G := G.new n'
                  have h0 := G.blk 0 rfl; try have h1 := G.blk 1 rfl; try have h2 := G.blk 2 rfl; try have h3 := G.blk 3 rfl; try have h4 := G.blk 4 rfl; try have h5 := G.blk 5 rfl
                  (repeat refine Zlr ?_)
                  refine s_stw (vs := qc X (q6)) rfl rfl rfl rfl rfl h0 rfl (fun w s => ?_)
                  have G := G.put 0 rfl s rfl
                  have h0 := G.blk 0 rfl; try have h1 := G.blk 1 rfl; try have h2 := G.blk 2 rfl; try have h3 := G.blk 3 rfl; try have h4 := G.blk 4 rfl; try have h5 := G.blk 5 rfl
                  (repeat refine Zlr ?_)
                  refine s_stw (vs := qc X (q6)) rfl rfl rfl rfl rfl h3 rfl (fun w s => ?_)
                  have G := G.put 3 rfl s rfl
                  have h0 := G.blk 0 rfl; try have h1 := G.blk 1 rfl; try have h2 := G.blk 2 rfl; try have h3 := G.blk 3 rfl; try have h4 := G.blk 4 rfl; try have h5 := G.blk 5 rfl
                  (repeat refine Zlr ?_)
                  refine s_stw (vs := stC ({ k := 10, a := a }, nilS, nilS)) rfl rfl rfl rfl rfl h1 rfl (fun w s => ?_)
                  have G := G.put 1 rfl s rfl
                  have h0 := G.blk 0 rfl; try have h1 := G.blk 1 rfl; try have h2 := G.blk 2 rfl; try have h3 := G.blk 3 rfl; try have h4 := G.blk 4 rfl; try have h5 := G.blk 5 rfl
                  (repeat refine Zlr ?_)
                  exact l_cut ⟨{ k := 10, a := a }, q6⟩ ⟨rfl, rfl, rfl, rfl, trivial⟩ ⟨⟨_, rfl, G.drop 1⟩, ⟨rfl, rfl⟩, fun q' a' r => by
                    rw [← hR]
                    exact (r6.on hc1).bind (fun h => r.on h) fun h => r.on_er h⟩
                | false =>
                  have n4 := is_no hi
                  clear hi
                  refine c_f rfl ?_
                  (repeat refine Zlr ?_)
                  have eP : q.c = 0 → On q (sStmt X.E L d) = (sNamed X.E L d q.s).bind fun x s1 => endS X.E fr x s1 := fun hc => by
                    rw [On_c hc, sStmt, if_neg (n0 hc), if_neg (ni hc), if_neg (nwh hc), if_neg (n1 hc), if_neg (n2 hc), if_neg (n3 hc), if_neg (n4 hc), hfr]
                  have J : ∀ (x : St) (q4 q' : Q) (a' : Int), (q.c = 0 → Res (sNamed X.E L d q.s) q4 x) → (q.c ≠ 0 → q4.c ≠ 0) → Res (On q4 (endS X.E fr x)) q' a' → Res R q' a' := fun x q4 q' a' D1 D2 r => by
                    rw [← hR]
                    by_cases hc : q.c = 0
                    · rw [eP hc]; exact (D1 hc).bind (fun h => r.on h) fun h => r.on_er h
                    · exact Res.of_er hc (r.on_er (D2 hc))
                  have hN : q.c = 0 → sNamed X.E L d q.s ≠ .out := fun hc => by rw [eP hc] at hr; exact bind_ne' hr
                  clear hr
                  have r1 : q.c = 0 → Res (knd X.E 1 q.s) (kindQ X 1 q) (kindW X 1 q) := fun hc => kind_res 1 hc
                  have k0 : (kindQ X 1 q).c = 0 → q.c = 0 := fun h => (kind_c h).1
                  refine s_call (us := []) (zs := []) (by kernel_rfl) rfl rfl (kindF G.at_ 1 (by decide)) ?_
                  rintro _ w ⟨rfl, k⟩
                  have G := G.no k
                  have G := G.mv (Sg.kind G.at_ (show (1 : Int) ≠ 0 by decide))
                  have h0 := G.blk 0 rfl; try have h1 := G.blk 1 rfl; try have h2 := G.blk 2 rfl; try have h3 := G.blk 3 rfl; try have h4 := G.blk 4 rfl; try have h5 := G.blk 5 rfl
                  (repeat refine Zlr ?_)
                  generalize kindQ X 1 q = q1 at *
                  generalize kindW X 1 q = nm at *
                  refine s_al rfl (fun b' w n' => ?_)
                  have G := G.new n'
                  have h0 := G.blk 0 rfl; try have h1 := G.blk 1 rfl; try have h2 := G.blk 2 rfl; try have h3 := G.blk 3 rfl; try have h4 := G.blk 4 rfl; try have h5 := G.blk 5 rfl
                  (repeat refine Zlr ?_)
                  refine s_stw (vs := qc X (q1)) rfl rfl rfl rfl rfl h0 rfl (fun w s => ?_)
                  have G := G.put 0 rfl s rfl
                  have h0 := G.blk 0 rfl; try have h1 := G.blk 1 rfl; try have h2 := G.blk 2 rfl; try have h3 := G.blk 3 rfl; try have h4 := G.blk 4 rfl; try have h5 := G.blk 5 rfl
                  (repeat refine Zlr ?_)
                  refine s_stw (vs := qc X (q1)) rfl rfl rfl rfl rfl h3 rfl (fun w s => ?_)
                  have G := G.put 3 rfl s rfl
                  have h0 := G.blk 0 rfl; try have h1 := G.blk 1 rfl; try have h2 := G.blk 2 rfl; try have h3 := G.blk 3 rfl; try have h4 := G.blk 4 rfl; try have h5 := G.blk 5 rfl
                  (repeat refine Zlr ?_)
                  refine s_call (us := []) (zs := []) (by kernel_rfl) rfl rfl (isW G.at_ wLpar (by decide) (by decide)) ?_
                  rintro _ w ⟨rfl, k⟩
                  have G := G.no k
                  have h0 := G.blk 0 rfl; try have h1 := G.blk 1 rfl; try have h2 := G.blk 2 rfl; try have h3 := G.blk 3 rfl; try have h4 := G.blk 4 rfl; try have h5 := G.blk 5 rfl
                  (repeat refine Zlr ?_)
                  cases hj : isQ X wLpar q1 with
                  | true =>
                    obtain ⟨hq1, hw1⟩ := is_yes hj
                    refine c_t rfl ?_
                    (repeat refine Zlr ?_)
                    refine s_call (us := []) (zs := []) (by kernel_rfl) rfl rfl (hC fr nm d q1 _ hd G.at_ (On_ne fun _ => by
                      have := hN (k0 hq1)
                      unfold sNamed at this
                      have := (r1 (k0 hq1)).next this hq1
                      simp only [if_pos hw1, hfr] at this
                      exact bind_ne' this)) ?_
                    rintro _ w ⟨q6, a, rfl, g, r6⟩
                    have G := G.call g
                    have h0 := G.blk 0 rfl; try have h1 := G.blk 1 rfl; try have h2 := G.blk 2 rfl; try have h3 := G.blk 3 rfl; try have h4 := G.blk 4 rfl; try have h5 := G.blk 5 rfl
                    (repeat refine Zlr ?_)
                    refine s_al rfl (fun b' w n' => ?_)
                    have G := G.new n'
                    have h0 := G.blk 0 rfl; try have h1 := G.blk 1 rfl; try have h2 := G.blk 2 rfl; try have h3 := G.blk 3 rfl; try have h4 := G.blk 4 rfl; try have h5 := G.blk 5 rfl
                    (repeat refine Zlr ?_)
                    refine s_stw (vs := qc X (q6)) rfl rfl rfl rfl rfl h0 rfl (fun w s => ?_)
                    have G := G.put 0 rfl s rfl
                    have h0 := G.blk 0 rfl; try have h1 := G.blk 1 rfl; try have h2 := G.blk 2 rfl; try have h3 := G.blk 3 rfl; try have h4 := G.blk 4 rfl; try have h5 := G.blk 5 rfl
                    (repeat refine Zlr ?_)
                    refine s_stw (vs := qc X (q6)) rfl rfl rfl rfl rfl h4 rfl (fun w s => ?_)
                    have G := G.put 4 rfl s rfl
                    have h0 := G.blk 0 rfl; try have h1 := G.blk 1 rfl; try have h2 := G.blk 2 rfl; try have h3 := G.blk 3 rfl; try have h4 := G.blk 4 rfl; try have h5 := G.blk 5 rfl
                    (repeat refine Zlr ?_)
                    refine s_stw (vs := stC ({ k := 11, a := a }, nilS, nilS)) rfl rfl rfl rfl rfl h2 rfl (fun w s => ?_)
                    have G := G.put 2 rfl s rfl
                    have h0 := G.blk 0 rfl; try have h1 := G.blk 1 rfl; try have h2 := G.blk 2 rfl; try have h3 := G.blk 3 rfl; try have h4 := G.blk 4 rfl; try have h5 := G.blk 5 rfl
                    (repeat refine Zlr ?_)
                    exact l_cut ⟨{ k := 11, a := a }, q6⟩ ⟨rfl, rfl, rfl, rfl, trivial⟩ ⟨⟨_, rfl, G.drop 2⟩, ⟨rfl, rfl⟩, fun q' a' r => J _ _ _ _ (fun hc => by
                      unfold sNamed
                      refine (r1 hc).bind (fun _ => ?_) fun h => (h hq1).elim
                      simp only [if_pos hw1, hfr]
                      exact (r6.on hq1).bind (fun h => ⟨h, rfl, rfl⟩) fun h => h) (fun hc => (hc (k0 hq1)).elim) r⟩
                  | false =>
                    refine c_f rfl ?_
                    (repeat refine Zlr ?_)
                    refine s_call (us := []) (zs := []) (by kernel_rfl) rfl rfl (isW G.at_ wLbra (by decide) (by decide)) ?_
                    rintro _ w ⟨rfl, k⟩
                    have G := G.no k
                    have h0 := G.blk 0 rfl; try have h1 := G.blk 1 rfl; try have h2 := G.blk 2 rfl; try have h3 := G.blk 3 rfl; try have h4 := G.blk 4 rfl; try have h5 := G.blk 5 rfl
                    (repeat refine Zlr ?_)
                    cases hk : isQ X wLbra q1 with
                    | true =>
                      obtain ⟨hq1, hw1⟩ := is_yes hk
                      obtain ⟨hq2, hs2⟩ := want_ok (X := X) hq1 hw1
                      have nj := is_no hj hq1
                      have hN2 := hN (k0 hq1)
                      unfold sNamed at hN2
                      have hN2 := (r1 (k0 hq1)).next hN2 hq1
                      simp only [if_neg nj, if_pos hw1, ← hs2] at hN2
                      refine c_t rfl ?_
                      (repeat refine Zlr ?_)
                      refine s_call (us := []) (zs := []) (by kernel_rfl) rfl rfl (wantW G.at_ wLbra (by decide) (by decide)) ?_
                      rintro _ w ⟨rfl, k⟩
                      have G := G.no k
                      have G := G.mv (Sg.want G.at_ (show wLbra ≠ [] by decide))
                      have h0 := G.blk 0 rfl; try have h1 := G.blk 1 rfl; try have h2 := G.blk 2 rfl; try have h3 := G.blk 3 rfl; try have h4 := G.blk 4 rfl; try have h5 := G.blk 5 rfl
                      (repeat refine Zlr ?_)
                      refine s_call (us := []) (zs := []) (by kernel_rfl) rfl rfl (hL.expr (d + 1) _ _ (by omega) G.at_ (On_ne fun hq5 => bind_ne' hN2)) ?_
                      rintro _ w ⟨q6, a, rfl, g, r6⟩
                      have G := G.call g
                      have h0 := G.blk 0 rfl; try have h1 := G.blk 1 rfl; try have h2 := G.blk 2 rfl; try have h3 := G.blk 3 rfl; try have h4 := G.blk 4 rfl; try have h5 := G.blk 5 rfl
                      (repeat refine Zlr ?_)
                      refine s_al rfl (fun b' w n' => ?_)
                      have G := G.new n'
                      have h0 := G.blk 0 rfl; try have h1 := G.blk 1 rfl; try have h2 := G.blk 2 rfl; try have h3 := G.blk 3 rfl; try have h4 := G.blk 4 rfl; try have h5 := G.blk 5 rfl
                      (repeat refine Zlr ?_)
                      refine s_stw (vs := qc X (q6)) rfl rfl rfl rfl rfl h0 rfl (fun w s => ?_)
                      have G := G.put 0 rfl s rfl
                      have h0 := G.blk 0 rfl; try have h1 := G.blk 1 rfl; try have h2 := G.blk 2 rfl; try have h3 := G.blk 3 rfl; try have h4 := G.blk 4 rfl; try have h5 := G.blk 5 rfl
                      (repeat refine Zlr ?_)
                      refine s_call (us := []) (zs := []) (by kernel_rfl) rfl rfl (wantW G.at_ wRbra (by decide) (by decide)) ?_
                      rintro _ w ⟨rfl, k⟩
                      have G := G.no k
                      have G := G.mv (Sg.want G.at_ (show wRbra ≠ [] by decide))
                      have h0 := G.blk 0 rfl; try have h1 := G.blk 1 rfl; try have h2 := G.blk 2 rfl; try have h3 := G.blk 3 rfl; try have h4 := G.blk 4 rfl; try have h5 := G.blk 5 rfl
                      (repeat refine Zlr ?_)
                      refine s_call (us := []) (zs := []) (by kernel_rfl) rfl rfl (wantW G.at_ wEq (by decide) (by decide)) ?_
                      rintro _ w ⟨rfl, k⟩
                      have G := G.no k
                      have G := G.mv (Sg.want G.at_ (show wEq ≠ [] by decide))
                      have h0 := G.blk 0 rfl; try have h1 := G.blk 1 rfl; try have h2 := G.blk 2 rfl; try have h3 := G.blk 3 rfl; try have h4 := G.blk 4 rfl; try have h5 := G.blk 5 rfl
                      (repeat refine Zlr ?_)
                      refine s_call (us := []) (zs := []) (by kernel_rfl) rfl rfl (hL.expr d _ _ (by omega) G.at_ (On_ne fun hq5 => by
                        obtain ⟨hq4, _⟩ := want_c hq5
                        obtain ⟨hq3, _⟩ := want_c hq4
                        exact bind_ne' ((want_res wEq hq4).next ((want_res wRbra hq3).next ((r6.on hq2).next hN2 hq3) hq4) hq5))) ?_
                      rintro _ w ⟨q7, a2, rfl, g, r7⟩
                      have G := G.call g
                      have h0 := G.blk 0 rfl; try have h1 := G.blk 1 rfl; try have h2 := G.blk 2 rfl; try have h3 := G.blk 3 rfl; try have h4 := G.blk 4 rfl; try have h5 := G.blk 5 rfl
                      (repeat refine Zlr ?_)
                      refine s_al rfl (fun b' w n' => ?_)
                      have G := G.new n'
                      have h0 := G.blk 0 rfl; try have h1 := G.blk 1 rfl; try have h2 := G.blk 2 rfl; try have h3 := G.blk 3 rfl; try have h4 := G.blk 4 rfl; try have h5 := G.blk 5 rfl
                      (repeat refine Zlr ?_)
                      refine s_stw (vs := qc X (q7)) rfl rfl rfl rfl rfl h0 rfl (fun w s => ?_)
                      have G := G.put 0 rfl s rfl
                      have h0 := G.blk 0 rfl; try have h1 := G.blk 1 rfl; try have h2 := G.blk 2 rfl; try have h3 := G.blk 3 rfl; try have h4 := G.blk 4 rfl; try have h5 := G.blk 5 rfl
                      (repeat refine Zlr ?_)
                      refine s_stw (vs := qc X (q7)) rfl rfl rfl rfl rfl h5 rfl (fun w s => ?_)
                      have G := G.put 5 rfl s rfl
                      have h0 := G.blk 0 rfl; try have h1 := G.blk 1 rfl; try have h2 := G.blk 2 rfl; try have h3 := G.blk 3 rfl; try have h4 := G.blk 4 rfl; try have h5 := G.blk 5 rfl
                      (repeat refine Zlr ?_)
                      refine s_stw (vs := stC ({ k := 4, nm := nm, a := a, b := a2 }, nilS, nilS)) rfl rfl rfl rfl rfl h3 rfl (fun w s => ?_)
                      have G := G.put 3 rfl s rfl
                      have h0 := G.blk 0 rfl; try have h1 := G.blk 1 rfl; try have h2 := G.blk 2 rfl; try have h3 := G.blk 3 rfl; try have h4 := G.blk 4 rfl; try have h5 := G.blk 5 rfl
                      (repeat refine Zlr ?_)
                      exact l_cut ⟨{ k := 4, nm := nm, a := a, b := a2 }, q7⟩ ⟨rfl, rfl, rfl, rfl, trivial⟩ ⟨⟨_, rfl, G.drop 3⟩, ⟨rfl, rfl⟩, fun q' a' r => J _ _ _ _ (fun hc => by
                        unfold sNamed
                        refine (r1 hc).bind (fun _ => ?_) fun h => (h hq1).elim
                        simp only [if_neg nj, if_pos hw1, ← hs2]
                        refine (r6.on hq2).bind (fun hq3 => (want_res wRbra hq3).bind (fun hq4 => (want_res wEq hq4).bind (fun hq5 => (r7.on hq5).bind (fun h => ⟨h, rfl, rfl⟩) fun h => h) fun h => r7.on_er h) fun h => ?_) fun h => ?_
                        · rw [want_er h] at r7; exact r7.on_er h
                        · rw [want_er h, want_er h] at r7; exact r7.on_er h) (fun hc => (hc (k0 hq1)).elim) r⟩
                    | false =>
                      refine c_f rfl ?_
                      (repeat refine Zlr ?_)
                      refine s_call (us := []) (zs := []) (by kernel_rfl) rfl rfl (wantW G.at_ wEq (by decide) (by decide)) ?_
                      rintro _ w ⟨rfl, k⟩
                      have G := G.no k
                      have G := G.mv (Sg.want G.at_ (show wEq ≠ [] by decide))
                      have h0 := G.blk 0 rfl; try have h1 := G.blk 1 rfl; try have h2 := G.blk 2 rfl; try have h3 := G.blk 3 rfl; try have h4 := G.blk 4 rfl; try have h5 := G.blk 5 rfl
                      (repeat refine Zlr ?_)
                      refine s_call (us := []) (zs := []) (by kernel_rfl) rfl rfl (hL.expr d _ _ (by omega) G.at_ (On_ne fun hq5 => by
                        obtain ⟨hq1, _⟩ := want_c hq5
                        have hN2 := hN (k0 hq1)
                        unfold sNamed at hN2
                        have hN2 := (r1 (k0 hq1)).next hN2 hq1
                        simp only [if_neg (is_no hj hq1), if_neg (is_no hk hq1)] at hN2
                        exact bind_ne' ((want_res wEq hq1).next hN2 hq5))) ?_
                      rintro _ w ⟨q6, a, rfl, g, r6⟩
                      have G := G.call g
                      have h0 := G.blk 0 rfl; try have h1 := G.blk 1 rfl; try have h2 := G.blk 2 rfl; try have h3 := G.blk 3 rfl; try have h4 := G.blk 4 rfl; try have h5 := G.blk 5 rfl
                      (repeat refine Zlr ?_)
                      refine s_al rfl (fun b' w n' => ?_)
                      have G := G.new n'
                      have h0 := G.blk 0 rfl; try have h1 := G.blk 1 rfl; try have h2 := G.blk 2 rfl; try have h3 := G.blk 3 rfl; try have h4 := G.blk 4 rfl; try have h5 := G.blk 5 rfl
                      (repeat refine Zlr ?_)
                      refine s_stw (vs := qc X (q6)) rfl rfl rfl rfl rfl h0 rfl (fun w s => ?_)
                      have G := G.put 0 rfl s rfl
                      have h0 := G.blk 0 rfl; try have h1 := G.blk 1 rfl; try have h2 := G.blk 2 rfl; try have h3 := G.blk 3 rfl; try have h4 := G.blk 4 rfl; try have h5 := G.blk 5 rfl
                      (repeat refine Zlr ?_)
                      refine s_stw (vs := qc X (q6)) rfl rfl rfl rfl rfl h4 rfl (fun w s => ?_)
                      have G := G.put 4 rfl s rfl
                      have h0 := G.blk 0 rfl; try have h1 := G.blk 1 rfl; try have h2 := G.blk 2 rfl; try have h3 := G.blk 3 rfl; try have h4 := G.blk 4 rfl; try have h5 := G.blk 5 rfl
                      (repeat refine Zlr ?_)
                      refine s_stw (vs := stC ({ k := 3, nm := nm, a := a }, nilS, nilS)) rfl rfl rfl rfl rfl h2 rfl (fun w s => ?_)
                      have G := G.put 2 rfl s rfl
                      have h0 := G.blk 0 rfl; try have h1 := G.blk 1 rfl; try have h2 := G.blk 2 rfl; try have h3 := G.blk 3 rfl; try have h4 := G.blk 4 rfl; try have h5 := G.blk 5 rfl
                      (repeat refine Zlr ?_)
                      refine l_cut ⟨{ k := 3, nm := nm, a := a }, q6⟩ ⟨rfl, rfl, rfl, rfl, trivial⟩ ⟨⟨_, rfl, G.drop 2⟩, ⟨rfl, rfl⟩, fun q' a' r => J _ _ _ _ (fun hc => ?_) (fun hc => ?_) r⟩
                      · unfold sNamed
                        refine (r1 hc).bind (fun hq1 => ?_) fun h => by rw [want_er h] at r6; exact r6.on_er h
                        simp only [if_neg (is_no hj hq1), if_neg (is_no hk hq1)]
                        exact (want_res wEq hq1).bind (fun h => (r6.on h).bind (fun h => ⟨h, rfl, rfl⟩) fun h => h) fun h => r6.on_er h
                      · have hq1 : q1.c ≠ 0 := fun h => hc (k0 h)
                        rw [want_er hq1] at r6
                        exact r6.on_er hq1
      · rintro ⟨x, q3⟩ lx w ⟨⟨cs, hcs, G⟩, ⟨hth, hel⟩, hJ⟩
        simp only at G hth hel hJ
        have Gw := G.mv (Sg.want G.at_ (show wSemi ≠ [] by decide))
        have hb7 := Gw.bx 0 _ _ _ rfl
        have hb := Gw.bx 2 _ _ _ rfl
        have n72 : b7 ≠ b2 := fun e => by
          have := Gw.nd 0 1 b7 _ _ _ _ rfl (by rw [e]; rfl)
          omega
        have nb2 : b ≠ b2 := fun e => by
          have := Gw.nd 2 1 b _ _ _ _ rfl (by rw [e]; rfl)
          omega
        obtain ⟨q4, hq4⟩ : ∃ q4, wantQ X wSemi q3 = q4 := ⟨_, rfl⟩
        (repeat refine Zlr ?_)
        refine k_h (fun w' => Kp (fun i => Sx q4 i ∨ i = b2) w w') [(0, false), (2, false), (3, false), (1, true), (4, true), (5, false), (6, false), (7, true), (8, false)] 9 (by kernel_rfl) (waits_none) (by kernel_rfl) (by kernel_rfl) (by kernel_rfl) rfl (fun w4 k4 q4' => ?_)
        have k4' : Kp (fun i => Sx q4 i ∨ i = b2) w w4 := k4.mono fun _ _ h => h.elim
        have G := G.no k4
        have Gw := Gw.no k4
        rw [hq4] at Gw hb7 hb
        refine h_v k4' (fun w' hw => r_ldw rfl (hw.get hb.2.1 (fun e => e.elim hb.2.2 nb2)) rfl rfl) ?_
        refine h_v k4' (fun w' hw => r_mv rfl) ?_
        refine h_v k4' (fun w' hw => r_ldw rfl (hw.get hb7.2.1 (fun e => e.elim hb7.2.2 n72)) rfl rfl) ?_
        refine h_call (us := []) (zs := []) (by kernel_rfl) rfl rfl (wantW G.at_ wSemi (by decide) (by decide)) ?_
        rintro _ w5 ⟨rfl, k5⟩
        have Gw := Gw.no k5
        have k5' : Kp (fun i => Sx q4 i ∨ i = b2) _ w5 := k4'.no k5
        refine ⟨fun _ => k5', ?_⟩
        rw [hq4]
        refine h_call (us := []) (zs := []) (by kernel_rfl) rfl rfl (addF Gw.at_ fr x none none 0 0 0 0 fun h4 => ⟨⟨by rw [hth]; exact LI.nil, Ow.nil⟩, ⟨by rw [hel]; exact LI.nil, Ow.nil⟩, by
          rw [← hq4] at h4 ⊢
          rw [(want_c h4).2.2]
          exact Nat.succ_le_succ (Nat.zero_le _)⟩) ?_
        rintro _ w6 ⟨q6, a6, rfl, g6, r6⟩
        have Gw := Gw.call g6
        have k6 : Kp (fun i => Sx q4 i ∨ i = b2) _ w6 := k5'.trans (g6.gs.kp.mono fun _ _ h => .inl h) fun _ _ h => h
        refine ⟨fun _ => k6, ?_⟩
        refine h_v k6 (fun w' hw => r_ex rfl) ?_
        refine h_v k6 (fun w' hw => r_ex rfl) ?_
        have g1 := Gw.blk 1 rfl
        refine h_st (vs := qc X q6) rfl rfl rfl rfl rfl g1 (by rw [hcs]; exact Nat.le_refl _) (fun w7 s7 => ⟨fun _ => k6.trans s7.kp fun _ _ h => .inr h, ?_⟩)
        rw [setAt_all (by rw [hcs]; rfl)] at s7
        have Gw := Gw.put 1 rfl s7 rfl
        have k7 : Kp (fun i => Sx q4 i ∨ i = b2) _ w7 := k6.trans s7.kp fun _ _ h => .inr h
        refine h_v k7 (fun w' hw => r_as rfl) ?_
        refine h_nil ?_
        have g1 := Gw.blk 1 rfl
        (repeat refine Zlr ?_)
        refine ret_c2 rfl (rv_agw rfl g1 rfl rfl) (rv_t rfl) ⟨q6, a6, rfl, Gw.sg, hJ _ _ ?_⟩
        by_cases hc : q3.c = 0
        · refine Res.of_c hc ?_
          have := want_res (X := X) wSemi hc
          rw [hq4] at this
          exact this.bind (fun h => r6.on h) fun h => r6.on_er h
        · rw [want_er hc] at hq4
          rw [← hq4] at r6
          exact Res.of_er hc (r6.on_er hc)
end
end Go.Proofs.YtfnbgbeinmekgaaGreatDoor.Rf
namespace Go.Proofs.YtfnbgbeinmekgaaGreatDoor.Rf
open Go Go.RowKit Fw Sy
set_option linter.unusedVariables false
set_option maxRecDepth 20000
section
variable {X : Cr} {w0 : World} {q : Q}
theorem isE {y : List Int} (hc : q.c ≠ 0) : isQ X y q = false := decide_eq_false fun h => hc h.1
abbrev Er (X : Cr) (w : World) (q : Q) (v : Value) (w' : World) : Prop := ∃ a, v = .tuple #[qv X q, .int .i64 a] ∧ Sg X w q w' q
theorem exprE (hc : q.c ≠ 0) (d : Int) (h : Aq X w0 q) : Ret Tryz.prog 110 [qv X q, .int .i64 d] w0 (Er X w0 q) := by
  refine ret_enter Tryz.func110 rfl Tryz.ntmps110 rfl ?_
  (repeat refine Zlr ?_)
  refine s_box (cs := qc X q) rfl rfl (fun b w n => ?_)
  have G := (Wb.start h).new n
  (repeat refine Zlr ?_)
  refine s_al rfl (fun b2 w n2 => ?_)
  have G := G.new n2
  have h0 := G.blk 0 rfl; try have h1 := G.blk 1 rfl; try have h2 := G.blk 2 rfl; try have h3 := G.blk 3 rfl; try have h4 := G.blk 4 rfl; try have h5 := G.blk 5 rfl
  (repeat refine Zlr ?_)
  refine s_call (us := []) (zs := []) (by kernel_rfl) rfl rfl (deepF G.at_ (d)) ?_
  rintro _ w ⟨rfl, k⟩
  have G := G.no k
  have G := G.mv (Sg.deep G.at_ (d := d))
  have h0 := G.blk 0 rfl; try have h1 := G.blk 1 rfl; try have h2 := G.blk 2 rfl; try have h3 := G.blk 3 rfl; try have h4 := G.blk 4 rfl; try have h5 := G.blk 5 rfl
  (repeat refine Zlr ?_)
  rw [deep_er hc] at G ⊢
  have h0 := G.blk 0 rfl; try have h1 := G.blk 1 rfl; try have h2 := G.blk 2 rfl; try have h3 := G.blk 3 rfl; try have h4 := G.blk 4 rfl; try have h5 := G.blk 5 rfl
  refine s_stw (vs := qc X (q)) rfl rfl rfl rfl rfl h1 rfl (fun w s => ?_)
  have G := G.put 1 rfl s rfl
  have h0 := G.blk 0 rfl; try have h1 := G.blk 1 rfl; try have h2 := G.blk 2 rfl; try have h3 := G.blk 3 rfl; try have h4 := G.blk 4 rfl; try have h5 := G.blk 5 rfl
  (repeat refine Zlr ?_)
  refine c_t (by show Value.bool (q.c != 0) = _; rw [bne_iff_ne.2 hc]) ?_
  (repeat refine Zlr ?_)
  refine s_stw (vs := qc X (q)) rfl rfl rfl rfl rfl h0 rfl (fun w s => ?_)
  have G := G.put 0 rfl s rfl
  have h0 := G.blk 0 rfl; try have h1 := G.blk 1 rfl; try have h2 := G.blk 2 rfl; try have h3 := G.blk 3 rfl; try have h4 := G.blk 4 rfl; try have h5 := G.blk 5 rfl
  (repeat refine Zlr ?_)
  exact ret_c2 rfl (rv_agw rfl h0 rfl rfl) (rv_t rfl) ⟨0, rfl, G.sg⟩
theorem primE (hc : q.c ≠ 0) (d : Int) (h : Aq X w0 q) : Ret Tryz.prog 145 [qv X q, .int .i64 d] w0 (Er X w0 q) := by
  refine ret_enter Tryz.func145 rfl Tryz.ntmps145 rfl ?_
  (repeat refine Zlr ?_)
  refine s_box (cs := qc X q) rfl rfl (fun b w n => ?_)
  have G := (Wb.start h).new n
  (repeat refine Zlr ?_)
  refine s_al rfl (fun b2 w n2 => ?_)
  have G := G.new n2
  have h0 := G.blk 0 rfl; try have h1 := G.blk 1 rfl; try have h2 := G.blk 2 rfl; try have h3 := G.blk 3 rfl; try have h4 := G.blk 4 rfl; try have h5 := G.blk 5 rfl
  (repeat refine Zlr ?_)
  refine c_t (by show Value.bool (q.c != 0) = _; rw [bne_iff_ne.2 hc]) ?_
  (repeat refine Zlr ?_)
  refine s_stw (vs := qc X (q)) rfl rfl rfl rfl rfl h0 rfl (fun w s => ?_)
  have G := G.put 0 rfl s rfl
  have h0 := G.blk 0 rfl; try have h1 := G.blk 1 rfl; try have h2 := G.blk 2 rfl; try have h3 := G.blk 3 rfl; try have h4 := G.blk 4 rfl; try have h5 := G.blk 5 rfl
  (repeat refine Zlr ?_)
  exact ret_c2 rfl (rv_agw rfl h0 rfl rfl) (rv_t rfl) ⟨0, rfl, G.sg⟩
theorem unaryE (hc : q.c ≠ 0) (d : Int) (h : Aq X w0 q) : Ret Tryz.prog 135 [qv X q, .int .i64 d] w0 (Er X w0 q) := by
  refine ret_enter Tryz.func135 rfl Tryz.ntmps135 rfl ?_
  (repeat refine Zlr ?_)
  refine s_box (cs := qc X q) rfl rfl (fun b w n => ?_)
  have G := (Wb.start h).new n
  (repeat refine Zlr ?_)
  refine s_al rfl (fun b2 w n2 => ?_)
  have G := G.new n2
  have h0 := G.blk 0 rfl; try have h1 := G.blk 1 rfl; try have h2 := G.blk 2 rfl; try have h3 := G.blk 3 rfl; try have h4 := G.blk 4 rfl; try have h5 := G.blk 5 rfl
  (repeat refine Zlr ?_)
  refine s_call (us := []) (zs := []) (by kernel_rfl) rfl rfl (hereF G.at_) ?_
  rintro _ w ⟨rfl, k⟩
  have G := G.no k
  have h0 := G.blk 0 rfl; try have h1 := G.blk 1 rfl; try have h2 := G.blk 2 rfl; try have h3 := G.blk 3 rfl; try have h4 := G.blk 4 rfl; try have h5 := G.blk 5 rfl
  (repeat refine Zlr ?_)
  refine s_set 15 true rfl (bne_iff_ne.2 hc) ?_
  (repeat (first | refine Zlr ?_ | refine Zn ?_ | refine Zu ?_ | refine Zg ?_ | refine Zgl ?_))
  refine c_t rfl ?_
  (repeat refine Zlr ?_)
  refine s_call (us := []) (zs := []) (by kernel_rfl) rfl rfl (primE hc d G.at_) ?_
  rintro _ w ⟨a, rfl, g⟩
  have G := G.call g
  have h0 := G.blk 0 rfl; try have h1 := G.blk 1 rfl; try have h2 := G.blk 2 rfl; try have h3 := G.blk 3 rfl; try have h4 := G.blk 4 rfl; try have h5 := G.blk 5 rfl
  (repeat refine Zlr ?_)
  refine s_stw (vs := qc X (q)) rfl rfl rfl rfl rfl h0 rfl (fun w s => ?_)
  have G := G.put 0 rfl s rfl
  have h0 := G.blk 0 rfl; try have h1 := G.blk 1 rfl; try have h2 := G.blk 2 rfl; try have h3 := G.blk 3 rfl; try have h4 := G.blk 4 rfl; try have h5 := G.blk 5 rfl
  (repeat refine Zlr ?_)
  exact ret_c2 rfl (rv_agw rfl h0 rfl rfl) (rv_t rfl) ⟨a, rfl, G.sg⟩
theorem rowE (hc : q.c ≠ 0) (d : Int) : ∀ (k v : Nat) (w0 : World), v + k = 5 → Aq X w0 q → Ret Tryz.prog 125 [qv X q, .int .i64 (v : Int), .int .i64 d] w0 (Er X w0 q) := by
  intro k
  induction k with
  | zero =>
    intro v w0 hv h
    have e : v = 5 := by omega
    subst e
    refine ret_enter Tryz.func125 rfl Tryz.ntmps125 rfl ?_
    (repeat refine Zlr ?_)
    refine s_box (cs := qc X q) rfl rfl (fun b w n => ?_)
    have G := (Wb.start h).new n
    (repeat refine Zlr ?_)
    refine s_al rfl (fun b2 w n2 => ?_)
    have G := G.new n2
    have h0 := G.blk 0 rfl; try have h1 := G.blk 1 rfl; try have h2 := G.blk 2 rfl; try have h3 := G.blk 3 rfl; try have h4 := G.blk 4 rfl; try have h5 := G.blk 5 rfl
    (repeat refine Zlr ?_)
    refine c_t rfl ?_
    (repeat refine Zlr ?_)
    refine s_call (us := []) (zs := []) (by kernel_rfl) rfl rfl (unaryE hc d G.at_) ?_
    rintro _ w ⟨a, rfl, g⟩
    have G := G.call g
    have h0 := G.blk 0 rfl; try have h1 := G.blk 1 rfl; try have h2 := G.blk 2 rfl; try have h3 := G.blk 3 rfl; try have h4 := G.blk 4 rfl; try have h5 := G.blk 5 rfl
    (repeat refine Zlr ?_)
    refine s_stw (vs := qc X (q)) rfl rfl rfl rfl rfl h0 rfl (fun w s => ?_)
    have G := G.put 0 rfl s rfl
    have h0 := G.blk 0 rfl; try have h1 := G.blk 1 rfl; try have h2 := G.blk 2 rfl; try have h3 := G.blk 3 rfl; try have h4 := G.blk 4 rfl; try have h5 := G.blk 5 rfl
    (repeat refine Zlr ?_)
    exact ret_c2 rfl (rv_agw rfl h0 rfl rfl) (rv_t rfl) ⟨a, rfl, G.sg⟩
  | succ k ih =>
    intro v w0 hv h
    refine ret_enter Tryz.func125 rfl Tryz.ntmps125 rfl ?_
    (repeat refine Zlr ?_)
    refine s_box (cs := qc X q) rfl rfl (fun b w n => ?_)
    have G := (Wb.start h).new n
    (repeat refine Zlr ?_)
    refine s_al rfl (fun b2 w n2 => ?_)
    have G := G.new n2
    have h0 := G.blk 0 rfl; try have h1 := G.blk 1 rfl; try have h2 := G.blk 2 rfl; try have h3 := G.blk 3 rfl; try have h4 := G.blk 4 rfl; try have h5 := G.blk 5 rfl
    (repeat refine Zlr ?_)
    refine c_eq rfl (fun e => by omega) (fun _ => ?_)
    (repeat refine Zlr ?_)
    refine s_call (us := []) (zs := []) (by kernel_rfl) rfl rfl (hereF G.at_) ?_
    rintro _ w ⟨rfl, k⟩
    have G := G.no k
    have h0 := G.blk 0 rfl; try have h1 := G.blk 1 rfl; try have h2 := G.blk 2 rfl; try have h3 := G.blk 3 rfl; try have h4 := G.blk 4 rfl; try have h5 := G.blk 5 rfl
    (repeat refine Zlr ?_)
    refine s_call (us := []) (zs := []) (by kernel_rfl) rfl rfl (ih (v + 1) _ (by omega) G.at_) ?_
    rintro _ w ⟨a, rfl, g⟩
    have G := G.call g
    have h0 := G.blk 0 rfl; try have h1 := G.blk 1 rfl; try have h2 := G.blk 2 rfl; try have h3 := G.blk 3 rfl; try have h4 := G.blk 4 rfl; try have h5 := G.blk 5 rfl
    (repeat refine Zlr ?_)
    refine s_stw (vs := qc X (q)) rfl rfl rfl rfl rfl h1 rfl (fun w s => ?_)
    have G := G.put 1 rfl s rfl
    have h0 := G.blk 0 rfl; try have h1 := G.blk 1 rfl; try have h2 := G.blk 2 rfl; try have h3 := G.blk 3 rfl; try have h4 := G.blk 4 rfl; try have h5 := G.blk 5 rfl
    (repeat refine Zlr ?_)
    refine k_loop (σ := Unit) (fun _ => [(1, .int .i64 (v : Int)), (3, .pointer (some ⟨b, 0, none⟩)), (6, .pointer (some ⟨b2, 0, none⟩)), (9, .int .i64 a)]) (fun _ w' => ∃ cs, cs.length = 8 ∧ Wb X w0 q w' q [(b2, cs, Tp), (b, qc X q, Tp)]) (fun _ => 0) () ⟨rfl, rfl, rfl, rfl, trivial⟩ ⟨_, rfl, G⟩ ?_
    rintro _ l w ⟨cs, hcs, G⟩
    have h0 := G.blk 0 rfl; try have h1 := G.blk 1 rfl; try have h2 := G.blk 2 rfl; try have h3 := G.blk 3 rfl; try have h4 := G.blk 4 rfl; try have h5 := G.blk 5 rfl
    (repeat refine Zlr ?_)
    refine s_call (us := []) (zs := []) (by kernel_rfl) rfl rfl (signF G.at_ v (by omega)) ?_
    rintro _ w ⟨rfl, k⟩
    have G := G.no k
    have h0 := G.blk 0 rfl; try have h1 := G.blk 1 rfl; try have h2 := G.blk 2 rfl; try have h3 := G.blk 3 rfl; try have h4 := G.blk 4 rfl; try have h5 := G.blk 5 rfl
    (repeat refine Zlr ?_)
    have es : signQ X v q = [] := if_neg fun h => hc h.1
    rw [es]
    refine c_f (congrArg Value.bool ez_sv) ?_
    (repeat refine Zlr ?_)
    refine s_stw (vs := qc X (q)) rfl rfl rfl rfl rfl h0 hcs (fun w s => ?_)
    have G := G.put 0 rfl s rfl
    have h0 := G.blk 0 rfl; try have h1 := G.blk 1 rfl; try have h2 := G.blk 2 rfl; try have h3 := G.blk 3 rfl; try have h4 := G.blk 4 rfl; try have h5 := G.blk 5 rfl
    (repeat refine Zlr ?_)
    exact ret_c2 rfl (rv_agw rfl h0 rfl rfl) (rv_t rfl) ⟨a, rfl, G.sg⟩
theorem blockE (hc : q.c ≠ 0) (d : Int) (h : Aq X w0 q) : Ret Tryz.prog 61 [qv X q, .int .i64 d] w0 fun v w' => v = .tuple #[qv X q, nilS] ∧ Sg X w0 q w' q := by
  refine ret_enter Tryz.func61 rfl Tryz.ntmps61 rfl ?_
  (repeat refine Zlr ?_)
  refine s_box (cs := qc X q) rfl rfl (fun b w n => ?_)
  have G := (Wb.start h).new n
  (repeat refine Zlr ?_)
  refine s_al rfl (fun b2 w n2 => ?_)
  have G := G.new n2
  have h0 := G.blk 0 rfl; try have h1 := G.blk 1 rfl; try have h2 := G.blk 2 rfl; try have h3 := G.blk 3 rfl; try have h4 := G.blk 4 rfl; try have h5 := G.blk 5 rfl
  (repeat refine Zlr ?_)
  refine s_call (us := []) (zs := []) (by kernel_rfl) rfl rfl (isW G.at_ wLcur (by decide) (by decide)) ?_
  rintro _ w ⟨rfl, k⟩
  have G := G.no k
  have h0 := G.blk 0 rfl; try have h1 := G.blk 1 rfl; try have h2 := G.blk 2 rfl; try have h3 := G.blk 3 rfl; try have h4 := G.blk 4 rfl; try have h5 := G.blk 5 rfl
  (repeat refine Zlr ?_)
  rw [isE hc]
  refine c_f rfl ?_
  (repeat refine Zlr ?_)
  refine s_call (us := []) (zs := []) (by kernel_rfl) rfl rfl (wantW G.at_ wLcur (by decide) (by decide)) ?_
  rintro _ w ⟨rfl, k⟩
  have G := G.no k
  have G := G.mv (Sg.want G.at_ (show wLcur ≠ [] by decide))
  have h0 := G.blk 0 rfl; try have h1 := G.blk 1 rfl; try have h2 := G.blk 2 rfl; try have h3 := G.blk 3 rfl; try have h4 := G.blk 4 rfl; try have h5 := G.blk 5 rfl
  (repeat refine Zlr ?_)
  rw [want_er hc] at G ⊢
  have h0 := G.blk 0 rfl; try have h1 := G.blk 1 rfl; try have h2 := G.blk 2 rfl; try have h3 := G.blk 3 rfl; try have h4 := G.blk 4 rfl; try have h5 := G.blk 5 rfl
  refine s_stw (vs := qc X (q)) rfl rfl rfl rfl rfl h1 rfl (fun w s => ?_)
  have G := G.put 1 rfl s rfl
  have h0 := G.blk 0 rfl; try have h1 := G.blk 1 rfl; try have h2 := G.blk 2 rfl; try have h3 := G.blk 3 rfl; try have h4 := G.blk 4 rfl; try have h5 := G.blk 5 rfl
  (repeat refine Zlr ?_)
  refine k_loop (σ := Unit) (fun _ => [(1, .int .i64 d), (2, .pointer (some ⟨b, 0, none⟩)), (4, .pointer (some ⟨b2, 0, none⟩)), (6, nilS)]) (fun _ w' => ∃ cs, cs.length = 8 ∧ Wb X w0 q w' q [(b2, cs, Tp), (b, qc X q, Tp)]) (fun _ => 0) () ⟨rfl, rfl, rfl, rfl, trivial⟩ ⟨_, rfl, G⟩ ?_
  rintro _ l w ⟨cs, hcs, G⟩
  have h0 := G.blk 0 rfl; try have h1 := G.blk 1 rfl; try have h2 := G.blk 2 rfl; try have h3 := G.blk 3 rfl; try have h4 := G.blk 4 rfl; try have h5 := G.blk 5 rfl
  (repeat refine Zlr ?_)
  refine s_set 19 false rfl (beq_eq_false_iff_ne.2 hc) ?_
  (repeat (first | refine Zlr ?_ | refine Zn ?_ | refine Zu ?_ | refine Zg ?_ | refine Zgl ?_))
  refine c_f rfl ?_
  (repeat refine Zlr ?_)
  refine s_call (us := []) (zs := []) (by kernel_rfl) rfl rfl (wantW G.at_ wRcur (by decide) (by decide)) ?_
  rintro _ w ⟨rfl, k⟩
  have G := G.no k
  have G := G.mv (Sg.want G.at_ (show wRcur ≠ [] by decide))
  have h0 := G.blk 0 rfl; try have h1 := G.blk 1 rfl; try have h2 := G.blk 2 rfl; try have h3 := G.blk 3 rfl; try have h4 := G.blk 4 rfl; try have h5 := G.blk 5 rfl
  (repeat refine Zlr ?_)
  rw [want_er hc] at G ⊢
  have h0 := G.blk 0 rfl; try have h1 := G.blk 1 rfl; try have h2 := G.blk 2 rfl; try have h3 := G.blk 3 rfl; try have h4 := G.blk 4 rfl; try have h5 := G.blk 5 rfl
  refine s_stw (vs := qc X (q)) rfl rfl rfl rfl rfl h0 hcs (fun w s => ?_)
  have G := G.put 0 rfl s rfl
  have h0 := G.blk 0 rfl; try have h1 := G.blk 1 rfl; try have h2 := G.blk 2 rfl; try have h3 := G.blk 3 rfl; try have h4 := G.blk 4 rfl; try have h5 := G.blk 5 rfl
  (repeat refine Zlr ?_)
  exact ret_c2 rfl (rv_agw rfl h0 rfl rfl) (rv_t rfl) ⟨rfl, G.sg⟩
theorem addE (hc : q.c ≠ 0) (fr : Int) (x : St) (la ma : Option Addr) (ln lc mn mc : Nat) (h : Aq X w0 q) :
    Ret Tryz.prog 111 [qv X q, .int .i64 fr, .agg (stC (x, .slice la ln lc, .slice ma mn mc)).toArray] w0 (RecS X w0 q (.er q.c q.p)) := by
  have := addF h fr x la ma ln lc mn mc (fun e => (hc e).elim)
  rwa [stt_e hc, bind_er] at this
theorem branchE (hc : q.c ≠ 0) (fr d : Int) (h : Aq X w0 q) (hd : 0 ≤ d ∧ d ≤ 65) : Ret Tryz.prog 109 [qv X q, .int .i64 fr, .int .i64 d] w0 (RecS X w0 q (.er q.c q.p)) := by
  refine ret_enter Tryz.func109 rfl Tryz.ntmps109 rfl ?_
  (repeat refine Zlr ?_)
  refine s_box (cs := qc X q) rfl rfl (fun b w n => ?_)
  have G := (Wb.start h).new n
  (repeat refine Zlr ?_)
  refine s_al rfl (fun b2 w n2 => ?_)
  have G := G.new n2
  have h0 := G.blk 0 rfl; try have h1 := G.blk 1 rfl; try have h2 := G.blk 2 rfl; try have h3 := G.blk 3 rfl; try have h4 := G.blk 4 rfl; try have h5 := G.blk 5 rfl
  (repeat refine Zlr ?_)
  refine s_call (us := []) (zs := []) (by kernel_rfl) rfl rfl (exprE hc d G.at_) ?_
  rintro _ w ⟨a, rfl, g⟩
  have G := G.call g
  have h0 := G.blk 0 rfl; try have h1 := G.blk 1 rfl; try have h2 := G.blk 2 rfl; try have h3 := G.blk 3 rfl; try have h4 := G.blk 4 rfl; try have h5 := G.blk 5 rfl
  (repeat refine Zlr ?_)
  refine s_al rfl (fun b' w n' => ?_)
  have G := G.new n'
  have h0 := G.blk 0 rfl; try have h1 := G.blk 1 rfl; try have h2 := G.blk 2 rfl; try have h3 := G.blk 3 rfl; try have h4 := G.blk 4 rfl; try have h5 := G.blk 5 rfl
  (repeat refine Zlr ?_)
  refine s_stw (vs := qc X (q)) rfl rfl rfl rfl rfl h0 rfl (fun w s => ?_)
  have G := G.put 0 rfl s rfl
  have h0 := G.blk 0 rfl; try have h1 := G.blk 1 rfl; try have h2 := G.blk 2 rfl; try have h3 := G.blk 3 rfl; try have h4 := G.blk 4 rfl; try have h5 := G.blk 5 rfl
  (repeat refine Zlr ?_)
  refine s_call (us := []) (zs := []) (by kernel_rfl) rfl rfl (blockE hc (d + 1) G.at_) ?_
  rintro _ w ⟨rfl, g⟩
  have G := G.call g
  have h0 := G.blk 0 rfl; try have h1 := G.blk 1 rfl; try have h2 := G.blk 2 rfl; try have h3 := G.blk 3 rfl; try have h4 := G.blk 4 rfl; try have h5 := G.blk 5 rfl
  (repeat refine Zlr ?_)
  refine s_al rfl (fun b' w n' => ?_)
  have G := G.new n'
  have h0 := G.blk 0 rfl; try have h1 := G.blk 1 rfl; try have h2 := G.blk 2 rfl; try have h3 := G.blk 3 rfl; try have h4 := G.blk 4 rfl; try have h5 := G.blk 5 rfl
  (repeat refine Zlr ?_)
  refine s_stw (vs := qc X (q)) rfl rfl rfl rfl rfl h0 rfl (fun w s => ?_)
  have G := G.put 0 rfl s rfl
  have h0 := G.blk 0 rfl; try have h1 := G.blk 1 rfl; try have h2 := G.blk 2 rfl; try have h3 := G.blk 3 rfl; try have h4 := G.blk 4 rfl; try have h5 := G.blk 5 rfl
  (repeat refine Zlr ?_)
  refine s_al rfl (fun b' w n' => ?_)
  have G := G.new n'
  have h0 := G.blk 0 rfl; try have h1 := G.blk 1 rfl; try have h2 := G.blk 2 rfl; try have h3 := G.blk 3 rfl; try have h4 := G.blk 4 rfl; try have h5 := G.blk 5 rfl
  (repeat refine Zlr ?_)
  refine s_stw (vs := stC ({ k := 5, a := a }, nilS, nilS)) rfl rfl rfl rfl rfl h0 rfl (fun w s => ?_)
  have G := G.put 0 rfl s rfl
  have h0 := G.blk 0 rfl; try have h1 := G.blk 1 rfl; try have h2 := G.blk 2 rfl; try have h3 := G.blk 3 rfl; try have h4 := G.blk 4 rfl; try have h5 := G.blk 5 rfl
  (repeat refine Zlr ?_)
  refine s_call (us := []) (zs := []) (by kernel_rfl) rfl rfl (isW G.at_ wElse (by decide) (by decide)) ?_
  rintro _ w ⟨rfl, k⟩
  have G := G.no k
  have h0 := G.blk 0 rfl; try have h1 := G.blk 1 rfl; try have h2 := G.blk 2 rfl; try have h3 := G.blk 3 rfl; try have h4 := G.blk 4 rfl; try have h5 := G.blk 5 rfl
  (repeat refine Zlr ?_)
  rw [isE hc]
  refine c_f rfl ?_
  (repeat refine Zlr ?_)
  refine s_call (us := []) (zs := []) (by kernel_rfl) rfl rfl (addE hc fr { k := 5, a := a } none none 0 0 0 0 G.at_) ?_
  rintro _ w ⟨q7, a7, rfl, g, r7⟩
  have G := G.call g
  have h0 := G.blk 0 rfl; try have h1 := G.blk 1 rfl; try have h2 := G.blk 2 rfl; try have h3 := G.blk 3 rfl; try have h4 := G.blk 4 rfl; try have h5 := G.blk 5 rfl
  (repeat refine Zlr ?_)
  refine s_stw (vs := qc X (q7)) rfl rfl rfl rfl rfl h3 rfl (fun w s => ?_)
  have G := G.put 3 rfl s rfl
  have h0 := G.blk 0 rfl; try have h1 := G.blk 1 rfl; try have h2 := G.blk 2 rfl; try have h3 := G.blk 3 rfl; try have h4 := G.blk 4 rfl; try have h5 := G.blk 5 rfl
  (repeat refine Zlr ?_)
  refine ret_c2 rfl (rv_agw rfl h3 rfl rfl) (rv_t rfl) ⟨q7, a7, rfl, G.sg, ?_⟩
  exact r7
set_option maxHeartbeats 1000000 in
theorem stmtE (hc : q.c ≠ 0) (d : Int) (h : Aq X w0 q) : Ret Tryz.prog 92 [qv X q, .int .i64 d] w0 (RecS X w0 q (.er q.c q.p)) := by
  refine ret_enter Tryz.func92 rfl Tryz.ntmps92 rfl ?_
  (repeat refine Zlr ?_)
  refine s_box (cs := qc X q) rfl rfl (fun b w n => ?_)
  have G := (Wb.start h).new n
  (repeat refine Zlr ?_)
  refine s_al rfl (fun b2 w n2 => ?_)
  have G := G.new n2
  have h0 := G.blk 0 rfl; try have h1 := G.blk 1 rfl; try have h2 := G.blk 2 rfl; try have h3 := G.blk 3 rfl; try have h4 := G.blk 4 rfl; try have h5 := G.blk 5 rfl
  (repeat refine Zlr ?_)
  refine s_call (us := []) (zs := []) (by kernel_rfl) rfl rfl (hereF G.at_) ?_
  rintro _ w ⟨rfl, k⟩
  have G := G.no k
  have h0 := G.blk 0 rfl; try have h1 := G.blk 1 rfl; try have h2 := G.blk 2 rfl; try have h3 := G.blk 3 rfl; try have h4 := G.blk 4 rfl; try have h5 := G.blk 5 rfl
  (repeat refine Zlr ?_)
  refine s_al rfl (fun b7 w n' => ?_)
  have G := G.new n'
  have h0 := G.blk 0 rfl; try have h1 := G.blk 1 rfl; try have h2 := G.blk 2 rfl; try have h3 := G.blk 3 rfl; try have h4 := G.blk 4 rfl; try have h5 := G.blk 5 rfl
  (repeat refine Zlr ?_)
  refine s_stw (vs := stC ({ k := 0 }, nilS, nilS)) rfl rfl rfl rfl rfl h0 rfl (fun w s => ?_)
  have G := G.put 0 rfl s rfl
  have h0 := G.blk 0 rfl; try have h1 := G.blk 1 rfl; try have h2 := G.blk 2 rfl; try have h3 := G.blk 3 rfl; try have h4 := G.blk 4 rfl; try have h5 := G.blk 5 rfl
  (repeat refine Zlr ?_)
  refine s_call (us := []) (zs := []) (by kernel_rfl) rfl rfl (isW G.at_ wIf (by decide) (by decide)) ?_
  rintro _ w ⟨rfl, k⟩
  have G := G.no k
  have h0 := G.blk 0 rfl; try have h1 := G.blk 1 rfl; try have h2 := G.blk 2 rfl; try have h3 := G.blk 3 rfl; try have h4 := G.blk 4 rfl; try have h5 := G.blk 5 rfl
  (repeat refine Zlr ?_)
  rw [isE hc]
  refine c_f rfl ?_
  (repeat refine Zlr ?_)
  refine s_call (us := []) (zs := []) (by kernel_rfl) rfl rfl (isW G.at_ wWhile (by decide) (by decide)) ?_
  rintro _ w ⟨rfl, k⟩
  have G := G.no k
  have h0 := G.blk 0 rfl; try have h1 := G.blk 1 rfl; try have h2 := G.blk 2 rfl; try have h3 := G.blk 3 rfl; try have h4 := G.blk 4 rfl; try have h5 := G.blk 5 rfl
  (repeat refine Zlr ?_)
  rw [isE hc]
  refine c_f rfl ?_
  (repeat refine Zlr ?_)
  refine s_call (us := []) (zs := []) (by kernel_rfl) rfl rfl (isW G.at_ wVar (by decide) (by decide)) ?_
  rintro _ w ⟨rfl, k⟩
  have G := G.no k
  have h0 := G.blk 0 rfl; try have h1 := G.blk 1 rfl; try have h2 := G.blk 2 rfl; try have h3 := G.blk 3 rfl; try have h4 := G.blk 4 rfl; try have h5 := G.blk 5 rfl
  (repeat refine Zlr ?_)
  rw [isE hc]
  refine c_f rfl ?_
  (repeat refine Zlr ?_)
  refine s_call (us := []) (zs := []) (by kernel_rfl) rfl rfl (isW G.at_ wBreak (by decide) (by decide)) ?_
  rintro _ w ⟨rfl, k⟩
  have G := G.no k
  have h0 := G.blk 0 rfl; try have h1 := G.blk 1 rfl; try have h2 := G.blk 2 rfl; try have h3 := G.blk 3 rfl; try have h4 := G.blk 4 rfl; try have h5 := G.blk 5 rfl
  (repeat refine Zlr ?_)
  rw [isE hc]
  refine c_f rfl ?_
  (repeat refine Zlr ?_)
  refine s_call (us := []) (zs := []) (by kernel_rfl) rfl rfl (isW G.at_ wCont (by decide) (by decide)) ?_
  rintro _ w ⟨rfl, k⟩
  have G := G.no k
  have h0 := G.blk 0 rfl; try have h1 := G.blk 1 rfl; try have h2 := G.blk 2 rfl; try have h3 := G.blk 3 rfl; try have h4 := G.blk 4 rfl; try have h5 := G.blk 5 rfl
  (repeat refine Zlr ?_)
  rw [isE hc]
  refine c_f rfl ?_
  (repeat refine Zlr ?_)
  refine s_call (us := []) (zs := []) (by kernel_rfl) rfl rfl (isW G.at_ wReturn (by decide) (by decide)) ?_
  rintro _ w ⟨rfl, k⟩
  have G := G.no k
  have h0 := G.blk 0 rfl; try have h1 := G.blk 1 rfl; try have h2 := G.blk 2 rfl; try have h3 := G.blk 3 rfl; try have h4 := G.blk 4 rfl; try have h5 := G.blk 5 rfl
  (repeat refine Zlr ?_)
  rw [isE hc]
  refine c_f rfl ?_
  (repeat refine Zlr ?_)
  refine s_call (us := []) (zs := []) (by kernel_rfl) rfl rfl (isW G.at_ wPrint (by decide) (by decide)) ?_
  rintro _ w ⟨rfl, k⟩
  have G := G.no k
  have h0 := G.blk 0 rfl; try have h1 := G.blk 1 rfl; try have h2 := G.blk 2 rfl; try have h3 := G.blk 3 rfl; try have h4 := G.blk 4 rfl; try have h5 := G.blk 5 rfl
  (repeat refine Zlr ?_)
  rw [isE hc]
  refine c_f rfl ?_
  (repeat refine Zlr ?_)
  refine s_call (us := []) (zs := []) (by kernel_rfl) rfl rfl (kindF G.at_ 1 (by decide)) ?_
  rintro _ w ⟨rfl, k⟩
  have G := G.no k
  have G := G.mv (Sg.kind G.at_ (show (1 : Int) ≠ 0 by decide))
  have h0 := G.blk 0 rfl; try have h1 := G.blk 1 rfl; try have h2 := G.blk 2 rfl; try have h3 := G.blk 3 rfl; try have h4 := G.blk 4 rfl; try have h5 := G.blk 5 rfl
  (repeat refine Zlr ?_)
  rw [(kind_er hc).1] at G ⊢
  rw [(kind_er hc).2]
  have h0 := G.blk 0 rfl; try have h1 := G.blk 1 rfl; try have h2 := G.blk 2 rfl; try have h3 := G.blk 3 rfl; try have h4 := G.blk 4 rfl; try have h5 := G.blk 5 rfl
  refine s_al rfl (fun b' w n' => ?_)
  have G := G.new n'
  have h0 := G.blk 0 rfl; try have h1 := G.blk 1 rfl; try have h2 := G.blk 2 rfl; try have h3 := G.blk 3 rfl; try have h4 := G.blk 4 rfl; try have h5 := G.blk 5 rfl
  (repeat refine Zlr ?_)
  refine s_stw (vs := qc X (q)) rfl rfl rfl rfl rfl h0 rfl (fun w s => ?_)
  have G := G.put 0 rfl s rfl
  have h0 := G.blk 0 rfl; try have h1 := G.blk 1 rfl; try have h2 := G.blk 2 rfl; try have h3 := G.blk 3 rfl; try have h4 := G.blk 4 rfl; try have h5 := G.blk 5 rfl
  (repeat refine Zlr ?_)
  refine s_stw (vs := qc X (q)) rfl rfl rfl rfl rfl h3 rfl (fun w s => ?_)
  have G := G.put 3 rfl s rfl
  have h0 := G.blk 0 rfl; try have h1 := G.blk 1 rfl; try have h2 := G.blk 2 rfl; try have h3 := G.blk 3 rfl; try have h4 := G.blk 4 rfl; try have h5 := G.blk 5 rfl
  (repeat refine Zlr ?_)
  refine s_call (us := []) (zs := []) (by kernel_rfl) rfl rfl (isW G.at_ wLpar (by decide) (by decide)) ?_
  rintro _ w ⟨rfl, k⟩
  have G := G.no k
  have h0 := G.blk 0 rfl; try have h1 := G.blk 1 rfl; try have h2 := G.blk 2 rfl; try have h3 := G.blk 3 rfl; try have h4 := G.blk 4 rfl; try have h5 := G.blk 5 rfl
  (repeat refine Zlr ?_)
  rw [isE hc]
  refine c_f rfl ?_
  (repeat refine Zlr ?_)
  refine s_call (us := []) (zs := []) (by kernel_rfl) rfl rfl (isW G.at_ wLbra (by decide) (by decide)) ?_
  rintro _ w ⟨rfl, k⟩
  have G := G.no k
  have h0 := G.blk 0 rfl; try have h1 := G.blk 1 rfl; try have h2 := G.blk 2 rfl; try have h3 := G.blk 3 rfl; try have h4 := G.blk 4 rfl; try have h5 := G.blk 5 rfl
  (repeat refine Zlr ?_)
  rw [isE hc]
  refine c_f rfl ?_
  (repeat refine Zlr ?_)
  refine s_call (us := []) (zs := []) (by kernel_rfl) rfl rfl (wantW G.at_ wEq (by decide) (by decide)) ?_
  rintro _ w ⟨rfl, k⟩
  have G := G.no k
  have G := G.mv (Sg.want G.at_ (show wEq ≠ [] by decide))
  have h0 := G.blk 0 rfl; try have h1 := G.blk 1 rfl; try have h2 := G.blk 2 rfl; try have h3 := G.blk 3 rfl; try have h4 := G.blk 4 rfl; try have h5 := G.blk 5 rfl
  (repeat refine Zlr ?_)
  rw [want_er hc] at G ⊢
  have h0 := G.blk 0 rfl; try have h1 := G.blk 1 rfl; try have h2 := G.blk 2 rfl; try have h3 := G.blk 3 rfl; try have h4 := G.blk 4 rfl; try have h5 := G.blk 5 rfl
  refine s_call (us := []) (zs := []) (by kernel_rfl) rfl rfl (exprE hc d G.at_) ?_
  rintro _ w ⟨a, rfl, g⟩
  have G := G.call g
  have h0 := G.blk 0 rfl; try have h1 := G.blk 1 rfl; try have h2 := G.blk 2 rfl; try have h3 := G.blk 3 rfl; try have h4 := G.blk 4 rfl; try have h5 := G.blk 5 rfl
  (repeat refine Zlr ?_)
  refine s_al rfl (fun b' w n' => ?_)
  have G := G.new n'
  have h0 := G.blk 0 rfl; try have h1 := G.blk 1 rfl; try have h2 := G.blk 2 rfl; try have h3 := G.blk 3 rfl; try have h4 := G.blk 4 rfl; try have h5 := G.blk 5 rfl
  (repeat refine Zlr ?_)
  refine s_stw (vs := qc X (q)) rfl rfl rfl rfl rfl h0 rfl (fun w s => ?_)
  have G := G.put 0 rfl s rfl
  have h0 := G.blk 0 rfl; try have h1 := G.blk 1 rfl; try have h2 := G.blk 2 rfl; try have h3 := G.blk 3 rfl; try have h4 := G.blk 4 rfl; try have h5 := G.blk 5 rfl
  (repeat refine Zlr ?_)
  refine s_stw (vs := qc X (q)) rfl rfl rfl rfl rfl h4 rfl (fun w s => ?_)
  have G := G.put 4 rfl s rfl
  have h0 := G.blk 0 rfl; try have h1 := G.blk 1 rfl; try have h2 := G.blk 2 rfl; try have h3 := G.blk 3 rfl; try have h4 := G.blk 4 rfl; try have h5 := G.blk 5 rfl
  (repeat refine Zlr ?_)
  refine s_stw (vs := stC ({ k := 3, nm := [], a := a }, nilS, nilS)) rfl rfl rfl rfl rfl h2 rfl (fun w s => ?_)
  have G := G.put 2 rfl s rfl
  have h0 := G.blk 0 rfl; try have h1 := G.blk 1 rfl; try have h2 := G.blk 2 rfl; try have h3 := G.blk 3 rfl; try have h4 := G.blk 4 rfl; try have h5 := G.blk 5 rfl
  (repeat refine Zlr ?_)
  have hb7 := G.bx 2 _ _ _ rfl
  have hb := G.bx 4 _ _ _ rfl
  have n72 : b7 ≠ b2 := fun e => by
    have := G.nd 2 3 b7 _ _ _ _ rfl (by rw [e]; rfl)
    omega
  have nb2 : b ≠ b2 := fun e => by
    have := G.nd 4 3 b _ _ _ _ rfl (by rw [e]; rfl)
    omega
  (repeat refine Zlr ?_)
  refine k_h (fun w' => Kp (fun i => Sx q i ∨ i = b2) w w') [(0, false), (2, false), (3, false), (1, true), (4, true), (5, false), (6, false), (7, true), (8, false)] 9 (by kernel_rfl) (waits_none) (by kernel_rfl) (by kernel_rfl) (by kernel_rfl) rfl (fun w4 k4 q4' => ?_)
  have k4' : Kp (fun i => Sx q i ∨ i = b2) w w4 := k4.mono fun _ _ h => h.elim
  have G := G.no k4
  refine h_v k4' (fun w' hw => r_ldw rfl (hw.get hb.2.1 (fun e => e.elim hb.2.2 nb2)) rfl rfl) ?_
  refine h_v k4' (fun w' hw => r_mv rfl) ?_
  refine h_v k4' (fun w' hw => r_ldw rfl (hw.get hb7.2.1 (fun e => e.elim hb7.2.2 n72)) rfl rfl) ?_
  refine h_call (us := []) (zs := []) (by kernel_rfl) rfl rfl (wantW G.at_ wSemi (by decide) (by decide)) ?_
  rintro _ w5 ⟨rfl, k5⟩
  have G := G.no k5
  have k5' : Kp (fun i => Sx q i ∨ i = b2) _ w5 := k4'.no k5
  refine ⟨fun _ => k5', ?_⟩
  rw [want_er hc]
  refine h_call (us := []) (zs := []) (by kernel_rfl) rfl rfl (addE hc (Sy.hr X.E q.s) { k := 3, nm := [], a := a } none none 0 0 0 0 G.at_) ?_
  rintro _ w6 ⟨q6, a6, rfl, g6, r6⟩
  have G := G.call g6
  have k6 : Kp (fun i => Sx q i ∨ i = b2) _ w6 := k5'.trans (g6.gs.kp.mono fun _ _ h => .inl h) fun _ _ h => h
  refine ⟨fun _ => k6, ?_⟩
  refine h_v k6 (fun w' hw => r_ex rfl) ?_
  refine h_v k6 (fun w' hw => r_ex rfl) ?_
  have g1 := G.blk 3 rfl
  refine h_st (vs := qc X q6) rfl rfl rfl rfl rfl g1 (Nat.le_of_ble_eq_true rfl) (fun w7 s7 => ⟨fun _ => k6.trans s7.kp fun _ _ h => .inr h, ?_⟩)
  have s7 : Sb _ b2 (qc X q6) _ w7 := s7
  have G := G.put 3 rfl s7 rfl
  have k7 : Kp (fun i => Sx q i ∨ i = b2) _ w7 := k6.trans s7.kp fun _ _ h => .inr h
  refine h_v k7 (fun w' hw => r_as rfl) ?_
  refine h_nil ?_
  have g1 := G.blk 3 rfl
  (repeat refine Zlr ?_)
  exact ret_c2 rfl (rv_agw rfl g1 rfl rfl) (rv_t rfl) ⟨q6, a6, rfl, G.sg, r6⟩
end
theorem Er.rec {X : Cr} {w : World} {q : Q} (hc : q.c ≠ 0) {g : PS → Rs Int} {v : Value} {w' : World} (h : Er X w q v w') : RecS X w q (On q g) v w' := by
  obtain ⟨a, rfl, g⟩ := h
  exact ⟨q, a, rfl, g, Res.of_er hc hc⟩
theorem wk_of {X : Cr} {L : Lv}
    (h1 : ∀ (v : Nat) (d : Int) (q : Q) (w : World), q.c = 0 → v ≤ 5 → 0 ≤ d ∧ d ≤ 64 → Aq X w q → On q (L.row v d) ≠ .out → Ret Tryz.prog 125 [qv X q, .int .i64 (v : Int), .int .i64 d] w (RecS X w q (On q (L.row v d))))
    (h2 : ∀ (d : Int) (q : Q) (w : World), q.c = 0 → 0 ≤ d ∧ d ≤ 65 → Aq X w q → On q (L.expr d) ≠ .out → Ret Tryz.prog 110 [qv X q, .int .i64 d] w (RecS X w q (On q (L.expr d))))
    (h3 : ∀ (d : Int) (q : Q) (w : World), q.c = 0 → 0 ≤ d ∧ d ≤ 64 → Aq X w q → On q (L.unary d) ≠ .out → Ret Tryz.prog 135 [qv X q, .int .i64 d] w (RecS X w q (On q (L.unary d))))
    (h4 : ∀ (d : Int) (q : Q) (w : World), q.c = 0 → 0 ≤ d ∧ d ≤ 64 → Aq X w q → On q (L.prim d) ≠ .out → Ret Tryz.prog 145 [qv X q, .int .i64 d] w (RecS X w q (On q (L.prim d))))
    (h5 : ∀ (d : Int) (q : Q) (w : World), q.c = 0 → 0 ≤ d ∧ d ≤ 64 → Aq X w q → On q (L.stmt d) ≠ .out → Ret Tryz.prog 92 [qv X q, .int .i64 d] w (RecS X w q (On q (L.stmt d))))
    (h6 : ∀ (fr d : Int) (q : Q) (w : World), q.c = 0 → 0 ≤ d ∧ d ≤ 65 → (q.c = 0 → d ≤ 64) → Aq X w q → On q (L.branch fr d) ≠ .out → Ret Tryz.prog 109 [qv X q, .int .i64 fr, .int .i64 d] w (RecS X w q (On q (L.branch fr d)))) : Wk X L := by
  refine ⟨fun v d q w hv hd h hr => ?_, fun d q w hd h hr => ?_, fun d q w hd h hr => ?_, fun d q w hd h hr => ?_, fun d q w hd h hr => ?_, fun fr d q w hd hd4 h hr => ?_⟩ <;> by_cases hc : q.c = 0
  · exact h1 v d q w hc hv hd h hr
  · exact (rowE hc d (5 - v) v w (by omega) h).mono fun _ _ k => Er.rec hc k
  · exact h2 d q w hc hd h hr
  · exact (exprE hc d h).mono fun _ _ k => Er.rec hc k
  · exact h3 d q w hc hd h hr
  · exact (unaryE hc d h).mono fun _ _ k => Er.rec hc k
  · exact h4 d q w hc hd h hr
  · exact (primE hc d h).mono fun _ _ k => Er.rec hc k
  · exact h5 d q w hc hd h hr
  · rw [On_e hc]; exact stmtE hc d h
  · exact h6 fr d q w hc hd hd4 h hr
  · rw [On_e hc]; exact branchE hc fr d h hd
theorem wk_lv {X : Cr} : ∀ n, ∀ m, m ≤ n → Wk X (lv X.E m) := by
  intro n
  induction n with
  | zero =>
    intro m hm
    rw [show m = 0 by omega]
    have no : ∀ {q : Q}, q.c = 0 → On q (fun _ => (.out : Rs Int)) ≠ .out → False := fun hc h => h (by rw [On_c hc])
    exact wk_of (fun v d q w hc _ _ _ h => (no hc h).elim) (fun d q w hc _ _ h => (no hc h).elim) (fun d q w hc _ _ h => (no hc h).elim) (fun d q w hc _ _ h => (no hc h).elim) (fun d q w hc _ _ h => (no hc h).elim) (fun fr d q w hc _ _ _ h => (no hc h).elim)
  | succ n ih =>
    intro m hm
    rcases Nat.lt_or_ge m (n + 1) with h1 | h1
    · exact ih m (by omega)
    · rw [show m = n + 1 by omega]
      have hL := ih n (Nat.le_refl _)
      have hB := bd_lv (E := X.E) n
      have hC := callF ih
      have hK := blockF ih
      exact wk_of (fun v d q w _ hv hd h hr => rowF ih v d hv hd h hr) (fun d q w _ hd h hr => exprF hL d hd h hr) (fun d q w _ hd h hr => unaryF hB hL d hd h hr) (fun d q w _ hd h hr => primF hB hL hC d hd h hr) (fun d q w _ hd h hr => stmtF hB hL hK hC d q w hd h hr) (fun fr d q w _ hd hd4 h hr => branchF hB hL hK fr d q w hd hd4 h hr)
end Go.Proofs.YtfnbgbeinmekgaaGreatDoor.Rf
namespace Go.Proofs.YtfnbgbeinmekgaaGreatDoor.Rf
open Go Go.RowKit Fw Sy
set_option linter.unusedVariables false
set_option maxRecDepth 20000
structure FctS where
  m : Nat
  l : List (List Int)
  a : Option Addr
  c : Nat
  q : Q
def prmsX (E : Env) (n : Nat) (l : List (List Int)) (s : PS) : Rs (List (List Int)) := if l = [] ∨ wd E s = wComma ∨ wd E s = wRpar then prms E n l s else Sy.er E 3 s
theorem prmsX_snoc {E : Env} {n : Nat} {l : List (List Int)} {a : List Int} {s : PS} : prmsX E n (l ++ [a]) s = if wd E s = wComma ∨ wd E s = wRpar then prms E n (l ++ [a]) s else Sy.er E 3 s := by
  simp [prmsX]
theorem snoc_sv {l : List (List Int)} {a : List Int} : l.map sv ++ [sv a] = (l ++ [a]).map sv := by simp
section
variable {X : Cr}
/-- What stands behind the parameters. -/
def tlF (E : Env) (N : Nat) (fr : Int) (nm : List Int) (ps : List (List Int)) (s4 : PS) : Rs Unit :=
  (if wd E s4 = wInt then Rs.ok (1 : Int) (adv s4) else .ok 4 s4).bind fun ty s5 => (block E (lv E N) 1 s5).bind fun bd s6 => .ok () { s6 with fn := s6.fn ++ [{ nm := nm, f := fr, e := pe E s6, ps := ps, ty := ty, bd := bd }] }
theorem fct_eq (E : Env) (N : Nat) (s : PS) : fct E N s = (if wd E s = wFunc ∧ 32 ≤ s.fn.length then Sy.er E 5 s else .ok () s).bind fun _ s0 => (Sy.want E wFunc s0).bind fun _ s1 => (knd E 1 s1).bind fun nm s2 => (Sy.want E wLpar s2).bind fun _ s3 => (prms E N [] s3).bind fun ps s4 => tlF E N (Sy.hr E s) nm ps s4 := rfl
set_option maxHeartbeats 8000000 in
theorem functionF (N : Nat) (q : Q) (w0 : World) (hc0 : q.c = 0) (h : Aq X w0 q) (hr : fct X.E N q.s ≠ .out) : Ret Tryz.prog 31 [qv X q] w0 fun v w' => ∃ q', v = qv X q' ∧ Sg X w0 q w' q' ∧ Res (fct X.E N q.s) q' () := by
  have hK : BlockD X (lv X.E N) := blockF (wk_lv N)
  refine ret_enter Tryz.func31 rfl Tryz.ntmps31 rfl ?_
  (repeat refine Zlr ?_)
  refine s_box (cs := qc X q) rfl rfl (fun b w n => ?_)
  have G := (Wb.start h).new n
  (repeat refine Zlr ?_)
  refine s_al rfl (fun b2 w n2 => ?_)
  have G := G.new n2
  have h0 := G.blk 0 rfl; try have h1 := G.blk 1 rfl; try have h2 := G.blk 2 rfl; try have h3 := G.blk 3 rfl; try have h4 := G.blk 4 rfl; try have h5 := G.blk 5 rfl
  (repeat refine Zlr ?_)
  refine s_call (us := []) (zs := []) (by kernel_rfl) rfl rfl (hereF G.at_) ?_
  rintro _ w ⟨rfl, k⟩
  have G := G.no k
  have h0 := G.blk 0 rfl; try have h1 := G.blk 1 rfl; try have h2 := G.blk 2 rfl; try have h3 := G.blk 3 rfl; try have h4 := G.blk 4 rfl; try have h5 := G.blk 5 rfl
  (repeat (first | refine k_nil ?_ | refine k_n ?_ | refine k_r ?_ | refine k_x ?_ | refine b_n ?_ | refine b_r ?_ | refine b_y rfl ?_ | refine b_z rfl ?_ | refine l_r ?_ | refine l_x ?_ | refine k_seq ?_ | refine k_blk ?_ | refine k_ret ?_ | refine k_exit ?_ | refine k_skip ?_ | refine Zs ?_ | refine Zl ?_))
  obtain ⟨_, _, hzn⟩ := (h.gd hc0).ny
  have hfl := (h.gd hc0).fl
  obtain ⟨fr, hfr⟩ : ∃ fr, Sy.hr X.E q.s = fr := ⟨_, rfl⟩
  rw [hfr]
  refine k_cutc (σ := Unit) (fun _ => [(1, .pointer (some ⟨b, 0, none⟩)), (2, .pointer (some ⟨b2, 0, none⟩)), (3, .int .i64 fr), (21, .bool (decide (wd X.E q.s = wFunc ∧ 32 ≤ q.s.fn.length)))])
    (fun _ w' => ∃ cs, cs.length = 8 ∧ Wb X w0 q w' q [(b2, cs, Tp), (b, qc X q, Tp)]) ?_ ?_
  · (repeat refine Zlr ?_)
    refine s_call (us := []) (zs := []) (by kernel_rfl) rfl rfl (isW G.at_ wFunc (by decide) (by decide)) ?_
    rintro _ w ⟨rfl, k⟩
    have G := G.no k
    have h0 := G.blk 0 rfl; try have h1 := G.blk 1 rfl; try have h2 := G.blk 2 rfl; try have h3 := G.blk 3 rfl; try have h4 := G.blk 4 rfl; try have h5 := G.blk 5 rfl
    (repeat refine Zlr ?_)
    cases hi : isQ X wFunc q with
    | true =>
      have hw := (is_yes hi).2
      (repeat (first | refine Zlr ?_ | refine Zn ?_ | refine Zu ?_ | refine Zg ?_ | refine Zgl ?_))
      refine l_cut () ⟨rfl, rfl, rfl, ?_, trivial⟩ ⟨_, rfl, G⟩
      show Value.bool (decide ((q.z.n : Int) ≥ 32)) = Value.bool _
      congr 1
      rw [hzn]
      simp [hw]
      omega
    | false =>
      (repeat (first | refine Zlr ?_ | refine Zn ?_ | refine Zu ?_ | refine Zg ?_ | refine Zgl ?_))
      refine l_cut () ⟨rfl, rfl, rfl, ?_, trivial⟩ ⟨_, rfl, G⟩
      show Value.bool false = Value.bool _
      congr 1
      have := is_no hi hc0
      simp [this]
  clear G h0 h1
  rintro _ lx w ⟨cs, hcs, G⟩
  have h0 := G.blk 0 rfl; try have h1 := G.blk 1 rfl; try have h2 := G.blk 2 rfl; try have h3 := G.blk 3 rfl; try have h4 := G.blk 4 rfl; try have h5 := G.blk 5 rfl
  (repeat (first | refine k_nil ?_ | refine k_n ?_ | refine k_r ?_ | refine k_x ?_ | refine b_n ?_ | refine b_r ?_ | refine b_y rfl ?_ | refine b_z rfl ?_ | refine l_r ?_ | refine l_x ?_ | refine k_seq ?_ | refine k_blk ?_ | refine k_ret ?_ | refine k_exit ?_ | refine k_skip ?_ | refine Zs ?_ | refine Zl ?_))
  rw [fct_eq, hfr] at hr ⊢
  refine k_cutc (σ := Q) (fun _ => [(1, .pointer (some ⟨b, 0, none⟩)), (2, .pointer (some ⟨b2, 0, none⟩)), (3, .int .i64 fr)])
    (fun q1 w' => Wb X w0 q w' q1 [(b2, cs, Tp), (b, qc X q1, Tp)] ∧ Res (if wd X.E q.s = wFunc ∧ 32 ≤ q.s.fn.length then Sy.er X.E 5 q.s else .ok () q.s) q1 () ∧ (q1.c = 0 → wd X.E q1.s = wFunc → q1.s.fn.length < 32)) ?_ ?_
  · by_cases hbad : wd X.E q.s = wFunc ∧ 32 ≤ q.s.fn.length
    · refine c_t (congrArg Value.bool (decide_eq_true hbad)) ?_
      (repeat refine Zlr ?_)
      refine s_call (us := []) (zs := []) (by kernel_rfl) rfl rfl (failF 5 G.at_) ?_
      rintro _ w ⟨rfl, k⟩
      have G := G.no k
      have G := G.mv (Sg.fail G.at_ (show (5 : Int) ≠ 0 by decide))
      have h0 := G.blk 0 rfl; try have h1 := G.blk 1 rfl; try have h2 := G.blk 2 rfl; try have h3 := G.blk 3 rfl; try have h4 := G.blk 4 rfl; try have h5 := G.blk 5 rfl
      (repeat refine Zlr ?_)
      refine s_stw (vs := qc X (failQ X 5 q)) rfl rfl rfl rfl rfl h1 rfl (fun w s => ?_)
      have G := G.put 1 rfl s rfl
      have h0 := G.blk 0 rfl; try have h1 := G.blk 1 rfl; try have h2 := G.blk 2 rfl; try have h3 := G.blk 3 rfl; try have h4 := G.blk 4 rfl; try have h5 := G.blk 5 rfl
      (repeat refine Zlr ?_)
      refine l_cut (failQ X 5 q) ⟨rfl, rfl, rfl, trivial⟩ ⟨G, ?_, fun h => (failQ_c (by decide) h).elim⟩
      rw [if_pos hbad]; exact failQ_c (by decide)
    · refine c_f (congrArg Value.bool (decide_eq_false hbad)) ?_
      (repeat refine Zlr ?_)
      refine l_cut q ⟨rfl, rfl, rfl, trivial⟩ ⟨G, ?_, fun _ hw => ?_⟩
      · rw [if_neg hbad]; exact ⟨hc0, rfl, rfl⟩
      · rcases Nat.lt_or_ge q.s.fn.length 32 with h | h
        · exact h
        · exact (hbad ⟨hw, h⟩).elim
  clear G h0 h1
  rintro q1 lx w ⟨G, r1, f1⟩
  have h0 := G.blk 0 rfl; try have h1 := G.blk 1 rfl; try have h2 := G.blk 2 rfl; try have h3 := G.blk 3 rfl; try have h4 := G.blk 4 rfl; try have h5 := G.blk 5 rfl
  (repeat refine Zlr ?_)
  refine s_call (us := []) (zs := []) (by kernel_rfl) rfl rfl (wantW G.at_ wFunc (by decide) (by decide)) ?_
  rintro _ w ⟨rfl, k⟩
  have G := G.no k
  have G := G.mv (Sg.want G.at_ (show wFunc ≠ [] by decide))
  have h0 := G.blk 0 rfl; try have h1 := G.blk 1 rfl; try have h2 := G.blk 2 rfl; try have h3 := G.blk 3 rfl; try have h4 := G.blk 4 rfl; try have h5 := G.blk 5 rfl
  (repeat refine Zlr ?_)
  have r2 : q1.c = 0 → Res (Sy.want X.E wFunc q1.s) (wantQ X wFunc q1) () := fun h => want_res wFunc h
  have e2 : q1.c ≠ 0 → (wantQ X wFunc q1).c ≠ 0 := fun h => by rw [want_er h]; exact h
  have f2 : (wantQ X wFunc q1).c = 0 → (wantQ X wFunc q1).s.fn.length < 32 := fun h => by
    obtain ⟨h1, h2, h3⟩ := want_c h
    rw [h3]; exact f1 h1 h2
  have b2' : (wantQ X wFunc q1).c = 0 → q1.c = 0 := fun h => (want_c h).1
  generalize wantQ X wFunc q1 = q2 at *
  refine s_call (us := []) (zs := []) (by kernel_rfl) rfl rfl (kindF G.at_ 1 (by decide)) ?_
  rintro _ w ⟨rfl, k⟩
  have G := G.no k
  have G := G.mv (Sg.kind G.at_ (show (1 : Int) ≠ 0 by decide))
  have h0 := G.blk 0 rfl; try have h1 := G.blk 1 rfl; try have h2 := G.blk 2 rfl; try have h3 := G.blk 3 rfl; try have h4 := G.blk 4 rfl; try have h5 := G.blk 5 rfl
  (repeat refine Zlr ?_)
  have r3 : q2.c = 0 → Res (knd X.E 1 q2.s) (kindQ X 1 q2) (kindW X 1 q2) := fun h => kind_res 1 h
  have e3 : q2.c ≠ 0 → (kindQ X 1 q2).c ≠ 0 := fun h => by rw [(kind_er h).1]; exact h
  have f3 : (kindQ X 1 q2).c = 0 → (kindQ X 1 q2).s.fn.length < 32 := fun h => by
    obtain ⟨h1, h2, h3, _⟩ := kind_c h
    rw [h3]; exact f2 h1
  have b3' : (kindQ X 1 q2).c = 0 → q2.c = 0 := fun h => (kind_c h).1
  generalize kindQ X 1 q2 = q3 at *
  generalize kindW X 1 q2 = nm at *
  refine s_al rfl (fun b' w n' => ?_)
  have G := G.new n'
  have h0 := G.blk 0 rfl; try have h1 := G.blk 1 rfl; try have h2 := G.blk 2 rfl; try have h3 := G.blk 3 rfl; try have h4 := G.blk 4 rfl; try have h5 := G.blk 5 rfl
  (repeat refine Zlr ?_)
  refine s_stw (vs := qc X (q3)) rfl rfl rfl rfl rfl h0 rfl (fun w s => ?_)
  have G := G.put 0 rfl s rfl
  have h0 := G.blk 0 rfl; try have h1 := G.blk 1 rfl; try have h2 := G.blk 2 rfl; try have h3 := G.blk 3 rfl; try have h4 := G.blk 4 rfl; try have h5 := G.blk 5 rfl
  (repeat refine Zlr ?_)
  refine s_call (us := []) (zs := []) (by kernel_rfl) rfl rfl (wantW G.at_ wLpar (by decide) (by decide)) ?_
  rintro _ w ⟨rfl, k⟩
  have G := G.no k
  have G := G.mv (Sg.want G.at_ (show wLpar ≠ [] by decide))
  have h0 := G.blk 0 rfl; try have h1 := G.blk 1 rfl; try have h2 := G.blk 2 rfl; try have h3 := G.blk 3 rfl; try have h4 := G.blk 4 rfl; try have h5 := G.blk 5 rfl
  (repeat refine Zlr ?_)
  refine s_stw (vs := qc X (wantQ X wLpar q3)) rfl rfl rfl rfl rfl h2 rfl (fun w s => ?_)
  have G := G.put 2 rfl s rfl
  have h0 := G.blk 0 rfl; try have h1 := G.blk 1 rfl; try have h2 := G.blk 2 rfl; try have h3 := G.blk 3 rfl; try have h4 := G.blk 4 rfl; try have h5 := G.blk 5 rfl
  (repeat refine Zlr ?_)
  have r4 : q3.c = 0 → Res (Sy.want X.E wLpar q3.s) (wantQ X wLpar q3) () := fun h => want_res wLpar h
  have e4 : q3.c ≠ 0 → (wantQ X wLpar q3).c ≠ 0 := fun h => by rw [want_er h]; exact h
  have f4 : (wantQ X wLpar q3).c = 0 → (wantQ X wLpar q3).s.fn.length < 32 := fun h => by
    obtain ⟨h1, h2, h3⟩ := want_c h
    rw [h3]; exact f3 h1
  have b4' : (wantQ X wLpar q3).c = 0 → q3.c = 0 := fun h => (want_c h).1
  generalize wantQ X wLpar q3 = q4 at *
  refine s_al rfl (fun b6 w n' => ?_)
  have G := G.new n'
  have h0 := G.blk 0 rfl; try have h1 := G.blk 1 rfl; try have h2 := G.blk 2 rfl; try have h3 := G.blk 3 rfl; try have h4 := G.blk 4 rfl; try have h5 := G.blk 5 rfl
  (repeat refine Zlr ?_)
  refine s_stw (vs := fnC ({ nm := nm, ty := 4, ps := [] }, nilS, nilS)) rfl rfl rfl rfl rfl h0 rfl (fun w s => ?_)
  have G := G.put 0 rfl s rfl
  have h0 := G.blk 0 rfl; try have h1 := G.blk 1 rfl; try have h2 := G.blk 2 rfl; try have h3 := G.blk 3 rfl; try have h4 := G.blk 4 rfl; try have h5 := G.blk 5 rfl
  (repeat refine Zlr ?_)
  obtain ⟨R, hR⟩ : ∃ R, (if wd X.E q.s = wFunc ∧ 32 ≤ q.s.fn.length then Sy.er X.E 5 q.s else .ok () q.s).bind (fun _ s0 => (Sy.want X.E wFunc s0).bind fun _ s1 => (knd X.E 1 s1).bind fun nm s2 => (Sy.want X.E wLpar s2).bind fun _ s3 => (prms X.E N [] s3).bind fun ps s4 => tlF X.E N fr nm ps s4) = R := ⟨_, rfl⟩
  have hI : ∀ q', Res (On q4 fun s => (prmsX X.E N [] s).bind fun ps s4 => tlF X.E N fr nm ps s4) q' () → Res R q' () := fun q' r => by
    rw [← hR]
    refine r1.bind (fun h1 => (r2 h1).bind (fun h2 => (r3 h2).bind (fun h3 => (r4 h3).bind (fun h4 => ?_) fun h => r.on_er h) fun h => r.on_er (e4 h)) fun h => r.on_er (e4 (e3 h))) fun h => r.on_er (e4 (e3 (e2 h)))
    have := r.on h4
    rw [prmsX, if_pos (.inl rfl)] at this
    exact this
  have hN : On q4 (fun s => (prmsX X.E N [] s).bind fun ps s4 => tlF X.E N fr nm ps s4) ≠ .out := On_ne fun h4 => by
    have h3 := b4' h4
    have h2 := b3' h3
    have h1 := b2' h2
    rw [prmsX, if_pos (.inl rfl)]
    exact (r4 h3).next ((r3 h2).next ((r2 h1).next (r1.next hr h1) h2) h3) h4
  rw [hR]
  clear hr hR r1 r2 r3 r4 e2 e3 e4 f1 f2 f3 b2' b3' b4'
  have G := G.drop 0
  refine k_loop (σ := FctS) (fun x => [(1, .pointer (some ⟨b, 0, none⟩)), (2, .pointer (some ⟨b2, 0, none⟩)), (3, .int .i64 fr), (6, .pointer (some ⟨b6, 0, none⟩))])
    (fun x w' => x.m ≤ N ∧ Wb X w0 q w' x.q [(b6, fnC ({ nm := nm, ty := 4, ps := x.l }, .slice x.a x.l.length x.c, nilS), 62), (b', qc X q3, Tp), (b2, cs, Tp), (b, qc X x.q, Tp)] ∧ Ls w0 w' x.q 9 (.slice x.a x.l.length x.c) x.l.length (x.l.map sv) ∧ ((x.l.length ≤ 20001 ∧ (x.q.c = 0 → x.l.length ≤ x.q.s.i)) ∧ (x.q.c = 0 → x.q.s.fn.length < 32)) ∧
      (∀ q', Res (On x.q fun s => (prmsX X.E x.m x.l s).bind fun ps s4 => tlF X.E N fr nm ps s4) q' () → Res R q' ()) ∧ On x.q (fun s => (prmsX X.E x.m x.l s).bind fun ps s4 => tlF X.E N fr nm ps s4) ≠ .out) (fun x => if x.q.c = 0 then x.m + 1 else 0) ⟨N, [], none, 0, q4⟩ ⟨rfl, rfl, rfl, rfl, trivial⟩ ⟨Nat.le_refl _, G, Ls.nil, ⟨⟨Nat.zero_le _, fun _ => Nat.zero_le _⟩, f4⟩, hI, hN⟩ ?_
  clear hI hN G h0 h1 h2 h3 f4
  rintro ⟨m, l, la, lc, q5⟩ lx w ⟨hm, G, LL, ⟨⟨hl0, hl1⟩, f5⟩, hI, hN⟩
  simp only at hm G LL hl0 hl1 f5 hI hN
  have h0 := G.blk 0 rfl; try have h1 := G.blk 1 rfl; try have h2 := G.blk 2 rfl; try have h3 := G.blk 3 rfl; try have h4 := G.blk 4 rfl; try have h5 := G.blk 5 rfl
  (repeat (first | refine k_nil ?_ | refine k_n ?_ | refine k_r ?_ | refine k_x ?_ | refine b_n ?_ | refine b_r ?_ | refine b_y rfl ?_ | refine b_z rfl ?_ | refine l_r ?_ | refine l_x ?_ | refine k_seq ?_ | refine k_blk ?_ | refine k_ret ?_ | refine k_exit ?_ | refine k_skip ?_ | refine Zs ?_ | refine Zl ?_))
  refine k_cutc (σ := Unit) (fun _ => [(1, .pointer (some ⟨b, 0, none⟩)), (2, .pointer (some ⟨b2, 0, none⟩)), (3, .int .i64 fr), (6, .pointer (some ⟨b6, 0, none⟩)), (41, .bool (decide (q5.c = 0 ∧ wd X.E q5.s ≠ wRpar)))])
    (fun _ w' => Wb X w0 q w' q5 [(b6, fnC ({ nm := nm, ty := 4, ps := l }, .slice la l.length lc, nilS), 62), (b', qc X q3, Tp), (b2, cs, Tp), (b, qc X q5, Tp)] ∧ Ls w0 w' q5 9 (.slice la l.length lc) l.length (l.map sv)) ?_ ?_
  · (repeat refine Zlr ?_)
    by_cases hc : q5.c = 0
    · refine s_set 37 true rfl (beq_iff_eq.2 hc) ?_
      (repeat (first | refine Zlr ?_ | refine Zn ?_ | refine Zu ?_ | refine Zg ?_ | refine Zgl ?_))
      refine s_gcall (us := []) (zs := []) rfl (by kernel_rfl) rfl rfl (isW G.at_ wRpar (by decide) (by decide)) ?_
      rintro _ w ⟨rfl, k⟩
      have G := G.no k
      have LL := LL.no k
      have h0 := G.blk 0 rfl; try have h1 := G.blk 1 rfl; try have h2 := G.blk 2 rfl; try have h3 := G.blk 3 rfl; try have h4 := G.blk 4 rfl; try have h5 := G.blk 5 rfl
      (repeat (first | refine Zlr ?_ | refine Zn ?_ | refine Zu ?_ | refine Zg ?_ | refine Zgl ?_))
      refine l_cut () ⟨rfl, rfl, rfl, rfl, ?_, trivial⟩ ⟨G, LL⟩
      show Value.bool (!isQ X wRpar q5) = _
      congr 1
      rw [isQ]
      simp [hc]
    · refine s_set 37 false rfl (beq_eq_false_iff_ne.2 hc) ?_
      (repeat (first | refine Zlr ?_ | refine Zn ?_ | refine Zu ?_ | refine Zg ?_ | refine Zgl ?_))
      refine l_cut () ⟨rfl, rfl, rfl, rfl, ?_, trivial⟩ ⟨G, LL⟩
      show Value.bool false = Value.bool _
      congr 1
      simp [hc]
  clear G LL h0 h1 h2 h3
  rintro _ lx w ⟨G, LL⟩
  have h0 := G.blk 0 rfl; try have h1 := G.blk 1 rfl; try have h2 := G.blk 2 rfl; try have h3 := G.blk 3 rfl; try have h4 := G.blk 4 rfl; try have h5 := G.blk 5 rfl
  (repeat refine Zlr ?_)
  by_cases hgo : q5.c = 0 ∧ wd X.E q5.s ≠ wRpar
  · obtain ⟨hc, nw⟩ := hgo
    refine c_t (congrArg Value.bool (decide_eq_true ⟨hc, nw⟩)) ?_
    have hl1 := hl1 hc
    have f5 := f5 hc
    have hsm := G.at_.small
    have eA : ∀ m l s, prms X.E (m + 1) l s = if wd X.E s = wRpar then .ok l (adv s) else (if l = [] then .ok () s else Sy.want X.E wComma s).bind fun _ s1 => (knd X.E 1 s1).bind fun w s2 => if wd X.E s2 = wComma ∨ wd X.E s2 = wRpar then prms X.E m (l ++ [w]) s2 else Sy.er X.E 3 s2 := fun _ _ _ => rfl
    have MM : (l = [] ∨ wd X.E q5.s = wComma) → m = (m - 1) + 1 := fun A => by
      cases m with
      | zero =>
        refine (hN ?_).elim
        rw [On_c hc, prmsX, if_pos (A.imp id .inl)]; rfl
      | succ m => rfl
    have E1 : (l = [] ∨ wd X.E q5.s = wComma) → prmsX X.E m l q5.s = (if l = [] then .ok () q5.s else Sy.want X.E wComma q5.s).bind fun _ s1 => (knd X.E 1 s1).bind fun w s2 => if wd X.E s2 = wComma ∨ wd X.E s2 = wRpar then prms X.E (m - 1) (l ++ [w]) s2 else Sy.er X.E 3 s2 := fun A => by
      rw [prmsX, if_pos (A.imp id .inl)]
      rw [MM A, eA, if_neg nw]; rfl
    (repeat refine Zlr ?_)
    by_cases hl : l = []
    · refine c_f (by show Value.bool (decide ((l.length : Int) > 0)) = _; rw [hl]; rfl) ?_
      (repeat refine Zlr ?_)
      obtain ⟨q6, hq6⟩ : ∃ q6, q5 = q6 := ⟨_, rfl⟩
      have F1 : q6.c = 0 → l = [] ∨ wd X.E q5.s = wComma := fun _ => .inl hl
      have F2 : Res (if l = [] then .ok () q5.s else Sy.want X.E wComma q5.s) q6 () := by rw [if_pos hl, ← hq6]; exact ⟨hc, rfl, rfl⟩
      have I6 : q6.c = 0 → l.length ≤ q6.s.i := fun _ => by rw [← hq6]; exact hl1
      have f6 : q6.c = 0 → q6.s.fn.length < 32 := fun _ => by rw [← hq6]; exact f5
      rw [hq6] at G LL h3
      rw [show qc X q5 = qc X q6 by rw [hq6]]
      refine s_call (us := []) (zs := []) (by kernel_rfl) rfl rfl (kindF G.at_ 1 (by decide)) ?_
      rintro _ w ⟨rfl, k⟩
      have G := G.no k
      have LL := LL.no k
      have LL := LL.gs G.at_ (Sg.kind G.at_ (show (1 : Int) ≠ 0 by decide)).gs rfl
      have G := G.mv (Sg.kind G.at_ (show (1 : Int) ≠ 0 by decide))
      have h0 := G.blk 0 rfl; try have h1 := G.blk 1 rfl; try have h2 := G.blk 2 rfl; try have h3 := G.blk 3 rfl; try have h4 := G.blk 4 rfl; try have h5 := G.blk 5 rfl
      (repeat refine Zlr ?_)
      have r6 : q6.c = 0 → Res (knd X.E 1 q6.s) (kindQ X 1 q6) (kindW X 1 q6) := fun h => kind_res 1 h
      have e6 : q6.c ≠ 0 → (kindQ X 1 q6).c ≠ 0 := fun h => by rw [(kind_er h).1]; exact h
      have b6' : (kindQ X 1 q6).c = 0 → q6.c = 0 ∧ (kindQ X 1 q6).s.i = q6.s.i + 1 ∧ (kindQ X 1 q6).s.fn = q6.s.fn := fun h => by
        obtain ⟨h1, h2, h3, _⟩ := kind_c h
        rw [h3]; exact ⟨h1, rfl, rfl⟩
      generalize kindQ X 1 q6 = q7 at *
      generalize kindW X 1 q6 = pw at *
      refine s_al rfl (fun b9 w n' => ?_)
      have G := G.new n'
      have LL := LL.no n'.kp
      have h0 := G.blk 0 rfl; try have h1 := G.blk 1 rfl; try have h2 := G.blk 2 rfl; try have h3 := G.blk 3 rfl; try have h4 := G.blk 4 rfl; try have h5 := G.blk 5 rfl
      (repeat refine Zlr ?_)
      refine s_stw (vs := qc X (q7)) rfl rfl rfl rfl rfl h0 rfl (fun w s => ?_)
      have LL := LL.box s h0 rfl
      have G := G.put 0 rfl s rfl
      have h0 := G.blk 0 rfl; try have h1 := G.blk 1 rfl; try have h2 := G.blk 2 rfl; try have h3 := G.blk 3 rfl; try have h4 := G.blk 4 rfl; try have h5 := G.blk 5 rfl
      (repeat refine Zlr ?_)
      refine s_stw (vs := qc X (q7)) rfl rfl rfl rfl rfl h4 rfl (fun w s => ?_)
      have LL := LL.box s h4 rfl
      have G := G.put 4 rfl s rfl
      have h0 := G.blk 0 rfl; try have h1 := G.blk 1 rfl; try have h2 := G.blk 2 rfl; try have h3 := G.blk 3 rfl; try have h4 := G.blk 4 rfl; try have h5 := G.blk 5 rfl
      (repeat refine Zlr ?_)
      refine s_bs (cs := [sv pw]) (e := 9) rfl (fun b4 w n4 => ?_)
      have LL := LL.no n4.kp
      have G := G.no n4.kp
      have h0 := G.blk 0 rfl; try have h1 := G.blk 1 rfl; try have h2 := G.blk 2 rfl; try have h3 := G.blk 3 rfl; try have h4 := G.blk 4 rfl; try have h5 := G.blk 5 rfl
      have h4 := n4.blk
      (repeat refine Zlr ?_)
      refine s_app (v0 := .slice la l.length lc) (k := l.length) (m := 1) (size := 1) (bytes := 16) (base := 0) (xs := l.map sv) (news := [sv pw]) rfl rfl rfl rfl rfl rfl rfl rfl LL.own rfl (blk_cells h4) rfl rfl (by omega) (by omega) (Nat.zero_le _) ?_
      intro v w ap
      obtain ⟨a9, c9, e9, _⟩ := own_read ap.own
      subst e9
      rw [snoc_sv] at ap
      obtain ⟨G, LL⟩ := (G.drop 1).lst h LL ap rfl (fun i b cs T hi => by
        match i, hi with
        | 0, hi => cases hi; rfl
        | 1, hi => cases hi; rfl
        | 2, hi => cases hi; rfl
        | 3, hi => cases hi; rfl
        | i + 4, hi => exact absurd hi (by simp))
      have h0 := G.blk 0 rfl; try have h1 := G.blk 1 rfl; try have h2 := G.blk 2 rfl; try have h3 := G.blk 3 rfl; try have h4 := G.blk 4 rfl; try have h5 := G.blk 5 rfl
      (repeat refine Zlr ?_)
      refine s_st (vs := [.slice a9 (l.length + 1) c9]) rfl rfl rfl rfl rfl h0 (Nat.le_of_ble_eq_true rfl) (fun w s => ?_)
      have s : Sb _ b6 (fnC ({ nm := nm, ty := 4, ps := l ++ [pw] }, .slice a9 (l.length + 1) c9, nilS)) _ w := s
      have LL := LL.box s h0 rfl
      have G := G.put 0 rfl s rfl
      (repeat refine Zlr ?_)
      have hll : (l ++ [pw]).length = l.length + 1 := by simp
      refine l_next ⟨m - 1, l ++ [pw], a9, c9, q7⟩ ⟨rfl, rfl, rfl, rfl, trivial⟩ ⟨by simp only; omega, by simp only [hll]; exact G, by simp only [hll]; exact LL, ⟨⟨by simp only [hll]; omega, fun h7 => by
        obtain ⟨i1, i2, _⟩ := b6' h7
        have := I6 i1
        simp only [hll]
        omega⟩, fun h7 => by
        obtain ⟨i1, _, i3⟩ := b6' h7
        show q7.s.fn.length < 32
        rw [i3]; exact f6 i1⟩, fun q' r => hI _ (Res.of_c hc ?_), On_ne fun h7 => ?_⟩ ?_
      · by_cases A : l = [] ∨ wd X.E q5.s = wComma
        · rw [E1 A, bind_assoc]
          refine F2.bind (fun h6 => ?_) fun h => r.on_er (e6 h)
          rw [bind_assoc]
          refine (r6 h6).bind (fun h7 => ?_) fun h => r.on_er h
          have := r.on h7
          rw [prmsX_snoc] at this
          exact this
        · rw [prmsX, if_neg (fun h => h.elim (fun h => A (.inl h)) fun h => h.elim (fun h => A (.inr h)) nw)]
          exact r.on_er (e6 fun h => A (F1 h))
      · obtain ⟨h6, _⟩ := b6' h7
        have A := F1 h6
        rw [On_c hc, E1 A, bind_assoc] at hN
        have hN2 := F2.next hN h6
        rw [bind_assoc] at hN2
        have := (r6 h6).next hN2 h7
        show (prmsX _ _ _ _).bind _ ≠ _
        rw [prmsX_snoc]; exact this
      · simp only [if_pos hc]
        split
        · rename_i h7
          have := MM (F1 (b6' h7).1)
          omega
        · omega
    · have hlp : 0 < l.length := List.length_pos_iff.2 hl
      refine c_t (by show Value.bool (decide ((l.length : Int) > 0)) = _; rw [decide_eq_true (by omega)]) ?_
      (repeat refine Zlr ?_)
      refine s_call (us := []) (zs := []) (by kernel_rfl) rfl rfl (wantW G.at_ wComma (by decide) (by decide)) ?_
      rintro _ w ⟨rfl, k⟩
      have G := G.no k
      have LL := LL.no k
      have LL := LL.gs G.at_ (Sg.want G.at_ (show wComma ≠ [] by decide)).gs rfl
      have G := G.mv (Sg.want G.at_ (show wComma ≠ [] by decide))
      have h0 := G.blk 0 rfl; try have h1 := G.blk 1 rfl; try have h2 := G.blk 2 rfl; try have h3 := G.blk 3 rfl; try have h4 := G.blk 4 rfl; try have h5 := G.blk 5 rfl
      (repeat refine Zlr ?_)
      refine s_stw (vs := qc X (wantQ X wComma q5)) rfl rfl rfl rfl rfl h3 rfl (fun w s => ?_)
      have LL := LL.box s h3 rfl
      have G := G.put 3 rfl s rfl
      have h0 := G.blk 0 rfl; try have h1 := G.blk 1 rfl; try have h2 := G.blk 2 rfl; try have h3 := G.blk 3 rfl; try have h4 := G.blk 4 rfl; try have h5 := G.blk 5 rfl
      (repeat refine Zlr ?_)
      obtain ⟨q6, hq6⟩ : ∃ q6, wantQ X wComma q5 = q6 := ⟨_, rfl⟩
      have F1 : q6.c = 0 → l = [] ∨ wd X.E q5.s = wComma := fun h => by rw [← hq6] at h; exact .inr (want_c h).2.1
      have F2 : Res (if l = [] then .ok () q5.s else Sy.want X.E wComma q5.s) q6 () := by rw [if_neg hl, ← hq6]; exact want_res wComma hc
      have I6 : q6.c = 0 → l.length ≤ q6.s.i := fun h => by
        rw [← hq6] at h ⊢
        rw [(want_c h).2.2]
        exact Nat.le_succ_of_le hl1
      have f6 : q6.c = 0 → q6.s.fn.length < 32 := fun h => by
        rw [← hq6] at h ⊢
        rw [(want_c h).2.2]; exact f5
      rw [hq6] at G LL h3 ⊢
      refine s_call (us := []) (zs := []) (by kernel_rfl) rfl rfl (kindF G.at_ 1 (by decide)) ?_
      rintro _ w ⟨rfl, k⟩
      have G := G.no k
      have LL := LL.no k
      have LL := LL.gs G.at_ (Sg.kind G.at_ (show (1 : Int) ≠ 0 by decide)).gs rfl
      have G := G.mv (Sg.kind G.at_ (show (1 : Int) ≠ 0 by decide))
      have h0 := G.blk 0 rfl; try have h1 := G.blk 1 rfl; try have h2 := G.blk 2 rfl; try have h3 := G.blk 3 rfl; try have h4 := G.blk 4 rfl; try have h5 := G.blk 5 rfl
      (repeat refine Zlr ?_)
      have r6 : q6.c = 0 → Res (knd X.E 1 q6.s) (kindQ X 1 q6) (kindW X 1 q6) := fun h => kind_res 1 h
      have e6 : q6.c ≠ 0 → (kindQ X 1 q6).c ≠ 0 := fun h => by rw [(kind_er h).1]; exact h
      have b6' : (kindQ X 1 q6).c = 0 → q6.c = 0 ∧ (kindQ X 1 q6).s.i = q6.s.i + 1 ∧ (kindQ X 1 q6).s.fn = q6.s.fn := fun h => by
        obtain ⟨h1, h2, h3, _⟩ := kind_c h
        rw [h3]; exact ⟨h1, rfl, rfl⟩
      generalize kindQ X 1 q6 = q7 at *
      generalize kindW X 1 q6 = pw at *
      refine s_al rfl (fun b9 w n' => ?_)
      have G := G.new n'
      have LL := LL.no n'.kp
      have h0 := G.blk 0 rfl; try have h1 := G.blk 1 rfl; try have h2 := G.blk 2 rfl; try have h3 := G.blk 3 rfl; try have h4 := G.blk 4 rfl; try have h5 := G.blk 5 rfl
      (repeat refine Zlr ?_)
      refine s_stw (vs := qc X (q7)) rfl rfl rfl rfl rfl h0 rfl (fun w s => ?_)
      have LL := LL.box s h0 rfl
      have G := G.put 0 rfl s rfl
      have h0 := G.blk 0 rfl; try have h1 := G.blk 1 rfl; try have h2 := G.blk 2 rfl; try have h3 := G.blk 3 rfl; try have h4 := G.blk 4 rfl; try have h5 := G.blk 5 rfl
      (repeat refine Zlr ?_)
      refine s_stw (vs := qc X (q7)) rfl rfl rfl rfl rfl h4 rfl (fun w s => ?_)
      have LL := LL.box s h4 rfl
      have G := G.put 4 rfl s rfl
      have h0 := G.blk 0 rfl; try have h1 := G.blk 1 rfl; try have h2 := G.blk 2 rfl; try have h3 := G.blk 3 rfl; try have h4 := G.blk 4 rfl; try have h5 := G.blk 5 rfl
      (repeat refine Zlr ?_)
      refine s_bs (cs := [sv pw]) (e := 9) rfl (fun b4 w n4 => ?_)
      have LL := LL.no n4.kp
      have G := G.no n4.kp
      have h0 := G.blk 0 rfl; try have h1 := G.blk 1 rfl; try have h2 := G.blk 2 rfl; try have h3 := G.blk 3 rfl; try have h4 := G.blk 4 rfl; try have h5 := G.blk 5 rfl
      have h4 := n4.blk
      (repeat refine Zlr ?_)
      refine s_app (v0 := .slice la l.length lc) (k := l.length) (m := 1) (size := 1) (bytes := 16) (base := 0) (xs := l.map sv) (news := [sv pw]) rfl rfl rfl rfl rfl rfl rfl rfl LL.own rfl (blk_cells h4) rfl rfl (by omega) (by omega) (Nat.zero_le _) ?_
      intro v w ap
      obtain ⟨a9, c9, e9, _⟩ := own_read ap.own
      subst e9
      rw [snoc_sv] at ap
      obtain ⟨G, LL⟩ := (G.drop 1).lst h LL ap rfl (fun i b cs T hi => by
        match i, hi with
        | 0, hi => cases hi; rfl
        | 1, hi => cases hi; rfl
        | 2, hi => cases hi; rfl
        | 3, hi => cases hi; rfl
        | i + 4, hi => exact absurd hi (by simp))
      have h0 := G.blk 0 rfl; try have h1 := G.blk 1 rfl; try have h2 := G.blk 2 rfl; try have h3 := G.blk 3 rfl; try have h4 := G.blk 4 rfl; try have h5 := G.blk 5 rfl
      (repeat refine Zlr ?_)
      refine s_st (vs := [.slice a9 (l.length + 1) c9]) rfl rfl rfl rfl rfl h0 (Nat.le_of_ble_eq_true rfl) (fun w s => ?_)
      have s : Sb _ b6 (fnC ({ nm := nm, ty := 4, ps := l ++ [pw] }, .slice a9 (l.length + 1) c9, nilS)) _ w := s
      have LL := LL.box s h0 rfl
      have G := G.put 0 rfl s rfl
      (repeat refine Zlr ?_)
      have hll : (l ++ [pw]).length = l.length + 1 := by simp
      refine l_next ⟨m - 1, l ++ [pw], a9, c9, q7⟩ ⟨rfl, rfl, rfl, rfl, trivial⟩ ⟨by simp only; omega, by simp only [hll]; exact G, by simp only [hll]; exact LL, ⟨⟨by simp only [hll]; omega, fun h7 => by
        obtain ⟨i1, i2, _⟩ := b6' h7
        have := I6 i1
        simp only [hll]
        omega⟩, fun h7 => by
        obtain ⟨i1, _, i3⟩ := b6' h7
        show q7.s.fn.length < 32
        rw [i3]; exact f6 i1⟩, fun q' r => hI _ (Res.of_c hc ?_), On_ne fun h7 => ?_⟩ ?_
      · by_cases A : l = [] ∨ wd X.E q5.s = wComma
        · rw [E1 A, bind_assoc]
          refine F2.bind (fun h6 => ?_) fun h => r.on_er (e6 h)
          rw [bind_assoc]
          refine (r6 h6).bind (fun h7 => ?_) fun h => r.on_er h
          have := r.on h7
          rw [prmsX_snoc] at this
          exact this
        · rw [prmsX, if_neg (fun h => h.elim (fun h => A (.inl h)) fun h => h.elim (fun h => A (.inr h)) nw)]
          exact r.on_er (e6 fun h => A (F1 h))
      · obtain ⟨h6, _⟩ := b6' h7
        have A := F1 h6
        rw [On_c hc, E1 A, bind_assoc] at hN
        have hN2 := F2.next hN h6
        rw [bind_assoc] at hN2
        have := (r6 h6).next hN2 h7
        show (prmsX _ _ _ _).bind _ ≠ _
        rw [prmsX_snoc]; exact this
      · simp only [if_pos hc]
        split
        · rename_i h7
          have := MM (F1 (b6' h7).1)
          omega
        · omega
  · refine c_f (congrArg Value.bool (decide_eq_false hgo)) ?_
    have hP : q5.c = 0 → Res (prmsX X.E m l q5.s) (wantQ X wRpar q5) l := fun hc => by
      have hw : wd X.E q5.s = wRpar := Decidable.byContradiction fun h => hgo ⟨hc, h⟩
      obtain ⟨hc1, hs1⟩ := want_ok (X := X) hc hw
      rw [prmsX, if_pos (.inr (.inr hw))]
      rw [On_c hc, prmsX, if_pos (.inr (.inr hw))] at hN
      cases m with
      | zero => exact (hN rfl).elim
      | succ m =>
        show Res (if wd X.E q5.s = wRpar then _ else _) _ _
        rw [if_pos hw]; exact ⟨hc1, hs1, rfl⟩
    have hI : ∀ q', Res (On (wantQ X wRpar q5) fun s => tlF X.E N fr nm l s) q' () → Res R q' () := fun q' r => hI q' (by
      by_cases hc : q5.c = 0
      · exact Res.of_c hc ((hP hc).bind (fun h => r.on h) fun h => r.on_er h)
      · rw [want_er hc] at r
        exact Res.of_er hc (r.on_er hc))
    have hN : On (wantQ X wRpar q5) (fun s => tlF X.E N fr nm l s) ≠ .out := On_ne fun h6 => by
      obtain ⟨hc, _⟩ := want_c h6
      rw [On_c hc] at hN
      exact (hP hc).next hN h6
    have f6 : (wantQ X wRpar q5).c = 0 → (wantQ X wRpar q5).s.fn.length < 32 ∧ 1 ≤ (wantQ X wRpar q5).s.i := fun h => by
      obtain ⟨hc, _, e⟩ := want_c h
      rw [e]; exact ⟨f5 hc, Nat.succ_le_succ (Nat.zero_le _)⟩
    clear hP hgo f5 hl1
    (repeat refine Zlr ?_)
    refine s_call (us := []) (zs := []) (by kernel_rfl) rfl rfl (wantW G.at_ wRpar (by decide) (by decide)) ?_
    rintro _ w ⟨rfl, k⟩
    have G := G.no k
    have LL := LL.no k
    have LL := LL.gs G.at_ (Sg.want G.at_ (show wRpar ≠ [] by decide)).gs rfl
    have G := G.mv (Sg.want G.at_ (show wRpar ≠ [] by decide))
    have h0 := G.blk 0 rfl; try have h1 := G.blk 1 rfl; try have h2 := G.blk 2 rfl; try have h3 := G.blk 3 rfl; try have h4 := G.blk 4 rfl; try have h5 := G.blk 5 rfl
    (repeat refine Zlr ?_)
    refine s_stw (vs := qc X (wantQ X wRpar q5)) rfl rfl rfl rfl rfl h3 rfl (fun w s => ?_)
    have LL := LL.box s h3 rfl
    have G := G.put 3 rfl s rfl
    have h0 := G.blk 0 rfl; try have h1 := G.blk 1 rfl; try have h2 := G.blk 2 rfl; try have h3 := G.blk 3 rfl; try have h4 := G.blk 4 rfl; try have h5 := G.blk 5 rfl
    (repeat refine Zlr ?_)
    generalize wantQ X wRpar q5 = q6 at *
    refine s_call (us := []) (zs := []) (by kernel_rfl) rfl rfl (isW G.at_ wInt (by decide) (by decide)) ?_
    rintro _ w ⟨rfl, k⟩
    have G := G.no k
    have LL := LL.no k
    have h0 := G.blk 0 rfl; try have h1 := G.blk 1 rfl; try have h2 := G.blk 2 rfl; try have h3 := G.blk 3 rfl; try have h4 := G.blk 4 rfl; try have h5 := G.blk 5 rfl
    (repeat refine Zlr ?_)
    refine k_cutc (σ := Int × Q) (fun _ => [(1, .pointer (some ⟨b, 0, none⟩)), (2, .pointer (some ⟨b2, 0, none⟩)), (3, .int .i64 fr), (6, .pointer (some ⟨b6, 0, none⟩))])
      (fun x w' => Wb X w0 q w' x.2 [(b6, fnC ({ nm := nm, ty := x.1, ps := l }, .slice la l.length lc, nilS), 62), (b', qc X q3, Tp), (b2, cs, Tp), (b, qc X x.2, Tp)] ∧ Ls w0 w' x.2 9 (.slice la l.length lc) l.length (l.map sv) ∧ Res (On q6 fun s => if wd X.E s = wInt then Rs.ok (1 : Int) (adv s) else .ok 4 s) x.2 x.1 ∧ (x.2.c = 0 → x.2.s.fn.length < 32 ∧ 1 ≤ x.2.s.i)) ?_ ?_
    · cases hi : isQ X wInt q6 with
      | true =>
        obtain ⟨hc, hw⟩ := is_yes hi
        obtain ⟨hc1, hs1⟩ := want_ok (X := X) hc hw
        refine c_t rfl ?_
        (repeat refine Zlr ?_)
        refine s_call (us := []) (zs := []) (by kernel_rfl) rfl rfl (wantW G.at_ wInt (by decide) (by decide)) ?_
        rintro _ w ⟨rfl, k⟩
        have G := G.no k
        have LL := LL.no k
        have LL := LL.gs G.at_ (Sg.want G.at_ (show wInt ≠ [] by decide)).gs rfl
        have G := G.mv (Sg.want G.at_ (show wInt ≠ [] by decide))
        have h0 := G.blk 0 rfl; try have h1 := G.blk 1 rfl; try have h2 := G.blk 2 rfl; try have h3 := G.blk 3 rfl; try have h4 := G.blk 4 rfl; try have h5 := G.blk 5 rfl
        (repeat refine Zlr ?_)
        refine s_stw (vs := qc X (wantQ X wInt q6)) rfl rfl rfl rfl rfl h3 rfl (fun w s => ?_)
        have LL := LL.box s h3 rfl
        have G := G.put 3 rfl s rfl
        have h0 := G.blk 0 rfl; try have h1 := G.blk 1 rfl; try have h2 := G.blk 2 rfl; try have h3 := G.blk 3 rfl; try have h4 := G.blk 4 rfl; try have h5 := G.blk 5 rfl
        (repeat refine Zlr ?_)
        refine s_st (vs := [.int .i64 1]) rfl rfl rfl rfl rfl h0 (Nat.le_of_ble_eq_true rfl) (fun w s => ?_)
        have s : Sb _ b6 (fnC ({ nm := nm, ty := 1, ps := l }, .slice la l.length lc, nilS)) _ w := s
        have LL := LL.box s h0 rfl
        have G := G.put 0 rfl s rfl
        (repeat refine Zlr ?_)
        refine l_cut (1, wantQ X wInt q6) ⟨rfl, rfl, rfl, rfl, trivial⟩ ⟨G, LL, Res.of_c hc (by rw [if_pos hw]; exact ⟨hc1, hs1, rfl⟩), fun _ => ?_⟩
        simp only [hs1]
        exact ⟨(f6 hc).1, Nat.succ_le_succ (Nat.zero_le _)⟩
      | false =>
        refine c_f rfl ?_
        (repeat refine Zlr ?_)
        refine l_cut (4, q6) ⟨rfl, rfl, rfl, rfl, trivial⟩ ⟨G, LL, ?_, f6⟩
        by_cases hc : q6.c = 0
        · exact Res.of_c hc (by rw [if_neg (is_no hi hc)]; exact ⟨hc, rfl, rfl⟩)
        · exact Res.of_er hc hc
    clear G LL h0 h1 h2 h3
    rintro ⟨ty, q7⟩ lx w ⟨G, LL, r7, f7⟩
    simp only at G LL r7 f7
    have eT : On q6 (fun s => tlF X.E N fr nm l s) = (On q6 fun s => if wd X.E s = wInt then Rs.ok (1 : Int) (adv s) else .ok 4 s).bind fun ty s5 => (block X.E (lv X.E N) 1 s5).bind fun bd s6 => .ok () { s6 with fn := s6.fn ++ [{ nm := nm, f := fr, e := pe X.E s6, ps := l, ty := ty, bd := bd }] } := by
      by_cases hc : q6.c = 0
      · rw [On_c hc, On_c hc]; rfl
      · rw [On_e hc, On_e hc]; rfl
    rw [eT] at hN
    have hn8 : On q7 (block X.E (lv X.E N) 1) ≠ .out := On_ne fun h7 => bind_ne' (r7.next hN h7)
    have h0 := G.blk 0 rfl; try have h1 := G.blk 1 rfl; try have h2 := G.blk 2 rfl; try have h3 := G.blk 3 rfl; try have h4 := G.blk 4 rfl; try have h5 := G.blk 5 rfl
    (repeat refine Zlr ?_)
    refine s_call (us := []) (zs := []) (by kernel_rfl) rfl rfl (hK 1 q7 _ (by omega) G.at_ hn8) ?_
    rintro _ w ⟨q8, bd, bda, bdc, rfl, g, r8, LT⟩
    have LL := LL.gs G.at_ (g).gs rfl
    have hsz := G.sg.gs.kp.size
    have LT : Ls w0 w q8 3 (.slice bda bd.length bdc) bd.length (bd.map (Value.int .i64)) := ⟨LT.own, fun g hg => ⟨Nat.le_trans hsz (LT.nw g hg).1, (LT.nw g hg).2⟩⟩
    have G := G.call g
    have h0 := G.blk 0 rfl; try have h1 := G.blk 1 rfl; try have h2 := G.blk 2 rfl; try have h3 := G.blk 3 rfl; try have h4 := G.blk 4 rfl; try have h5 := G.blk 5 rfl
    (repeat refine Zlr ?_)
    refine s_al rfl (fun b9 w n' => ?_)
    have G := G.new n'
    have LL := LL.no n'.kp
    have LT := LT.no n'.kp
    have h0 := G.blk 0 rfl; try have h1 := G.blk 1 rfl; try have h2 := G.blk 2 rfl; try have h3 := G.blk 3 rfl; try have h4 := G.blk 4 rfl; try have h5 := G.blk 5 rfl
    (repeat refine Zlr ?_)
    refine s_stw (vs := qc X (q8)) rfl rfl rfl rfl rfl h0 rfl (fun w s => ?_)
    have LL := LL.box s h0 rfl
    have LT := LT.box s h0 rfl
    have G := G.put 0 rfl s rfl
    have h0 := G.blk 0 rfl; try have h1 := G.blk 1 rfl; try have h2 := G.blk 2 rfl; try have h3 := G.blk 3 rfl; try have h4 := G.blk 4 rfl; try have h5 := G.blk 5 rfl
    (repeat refine Zlr ?_)
    have eR : ∀ q', (q8.c = 0 → q'.c = 0 ∧ q'.s = { q8.s with fn := q8.s.fn ++ [{ nm := nm, f := fr, e := pe X.E q8.s, ps := l, ty := ty, bd := bd }] }) → (q8.c ≠ 0 → q'.c ≠ 0) → Res R q' () := fun q' j1 j2 => hI q' (by
      rw [eT]
      exact r7.bind (fun h7 => (r8.on h7).bind (fun h8 => ⟨(j1 h8).1, (j1 h8).2, rfl⟩) j2) fun h7 => j2 (r8.on_er h7))
    by_cases hc : q8.c = 0
    · refine c_f (by show Value.bool (q8.c != 0) = _; rw [bne_eq_false_iff_eq.2 hc]) ?_
      obtain ⟨h7, e8⟩ := r8.up hc
      obtain ⟨f7a, f7b⟩ := f7 h7
      have u := block_up (bd_lv (E := X.E) N) e8
      have fn8 : q8.s.fn = q7.s.fn := u.2.2.1
      have i8 : 1 ≤ q8.s.i := by unfold Up at u; omega
      have hsm := G.at_.small
      have hlt := G.at_.lt
      (repeat refine Zlr ?_)
      refine s_st (vs := [.slice bda bd.length bdc]) rfl rfl rfl rfl rfl h1 (Nat.le_of_ble_eq_true rfl) (fun w s => ?_)
      have s : Sb _ b6 (fnC ({ nm := nm, ty := ty, ps := l, bd := bd }, .slice la l.length lc, .slice bda bd.length bdc)) _ w := s
      have LL := LL.box s h1 rfl
      have LT := LT.box s h1 rfl
      have G := G.put 1 rfl s rfl
      have h0 := G.blk 0 rfl; try have h1 := G.blk 1 rfl; try have h2 := G.blk 2 rfl; try have h3 := G.blk 3 rfl; try have h4 := G.blk 4 rfl; try have h5 := G.blk 5 rfl
      obtain ⟨t, ht, e1⟩ := G.at_.prev i8
      obtain ⟨c1, c2, c3⟩ := G.at_.tokens _ _ ht
      rw [show ((q8.s.i - 1 : Nat) : Int) = (q8.s.i : Int) - 1 by omega] at c1 c2 c3
      (repeat refine Zlr ?_)
      refine s_v (r_ia rfl rfl rfl rfl (by omega) (by omega)) ?_
      (repeat refine Zlr ?_)
      rw [← e1]
      refine s_st (vs := [.int .i64 fr, .int .i64 (pe X.E q8.s)]) rfl rfl rfl rfl rfl h1 (Nat.le_of_ble_eq_true rfl) (fun w s => ?_)
      have s : Sb _ b6 (fnC ({ nm := nm, f := fr, e := pe X.E q8.s, ty := ty, ps := l, bd := bd }, .slice la l.length lc, .slice bda bd.length bdc)) _ w := s
      have LL := LL.box s h1 rfl
      have LT := LT.box s h1 rfl
      have G := G.put 1 rfl s rfl
      have h0 := G.blk 0 rfl; try have h1 := G.blk 1 rfl; try have h2 := G.blk 2 rfl; try have h3 := G.blk 3 rfl; try have h4 := G.blk 4 rfl; try have h5 := G.blk 5 rfl
      (repeat refine Zlr ?_)
      refine s_bs (cs := fnC ({ nm := nm, f := fr, e := pe X.E q8.s, ty := ty, ps := l, bd := bd }, .slice la l.length lc, .slice bda bd.length bdc)) (e := 62) rfl (fun b4 w n4 => ?_)
      have LL := LL.no n4.kp
      have LT := LT.no n4.kp
      have G := G.new n4
      have h0 := G.blk 0 rfl; try have h1 := G.blk 1 rfl; try have h2 := G.blk 2 rfl; try have h3 := G.blk 3 rfl; try have h4 := G.blk 4 rfl; try have h5 := G.blk 5 rfl
      have G := (G.more (.slice la l.length lc) LL.rng).more (.slice bda bd.length bdc) LT.rng
      obtain ⟨rz, a1, o1, l1⟩ := (G.at_.gd hc).fs
      (repeat refine Zlr ?_)
      refine s_app (v0 := q8.z.v) (k := q8.s.fn.length) (m := 1) (size := 6) (bytes := 88) (base := 0) (xs := rz.flatMap fnC) (news := fnC ({ nm := nm, f := fr, e := pe X.E q8.s, ty := ty, ps := l, bd := bd }, .slice la l.length lc, .slice bda bd.length bdc)) rfl rfl rfl rfl rfl rfl rfl rfl o1 rfl (blk_cells h0) rfl rfl (by rw [fn8]; omega) (by rw [fn8]; omega) (Nat.zero_le _) ?_
      intro v w ap
      obtain ⟨a9, c9, e9, _⟩ := own_read ap.own
      subst e9
      have G := G.call (Sg.putz (x := { nm := nm, f := fr, e := pe X.E q8.s, ty := ty, ps := l, bd := bd }) G.at_ hc a1 o1 l1 LL.own (fun g hg => .inl (.inr hg)) LT.own (fun g hg => .inr hg) (by show q8.s.fn.length + 1 ≤ 32; rw [fn8]; omega) ap)
      have h0 := G.blk 0 rfl; try have h1 := G.blk 1 rfl; try have h2 := G.blk 2 rfl; try have h3 := G.blk 3 rfl; try have h4 := G.blk 4 rfl; try have h5 := G.blk 5 rfl
      (repeat refine Zlr ?_)
      refine s_st (vs := [.slice a9 (q8.s.fn.length + 1) c9]) rfl rfl rfl rfl rfl h1 (Nat.le_of_ble_eq_true rfl) (fun w s => ?_)
      have s : Sb _ b9 (qc X { ((q8.add (.slice la l.length lc)).add (.slice bda bd.length bdc)) with s := { q8.s with fn := q8.s.fn ++ [{ nm := nm, f := fr, e := pe X.E q8.s, ty := ty, ps := l, bd := bd }] }, z := ⟨a9, q8.s.fn.length + 1, c9⟩ }) _ w := s
      have G := G.put 1 rfl s rfl
      have h0 := G.blk 0 rfl; try have h1 := G.blk 1 rfl; try have h2 := G.blk 2 rfl; try have h3 := G.blk 3 rfl; try have h4 := G.blk 4 rfl; try have h5 := G.blk 5 rfl
      (repeat refine Zlr ?_)
      refine s_stw (vs := qc X ({ ((q8.add (.slice la l.length lc)).add (.slice bda bd.length bdc)) with s := { q8.s with fn := q8.s.fn ++ [{ nm := nm, f := fr, e := pe X.E q8.s, ty := ty, ps := l, bd := bd }] }, z := ⟨a9, q8.s.fn.length + 1, c9⟩ })) rfl rfl rfl rfl rfl h4 hcs (fun w s => ?_)
      have G := G.put 4 rfl s rfl
      have h0 := G.blk 0 rfl; try have h1 := G.blk 1 rfl; try have h2 := G.blk 2 rfl; try have h3 := G.blk 3 rfl; try have h4 := G.blk 4 rfl; try have h5 := G.blk 5 rfl
      (repeat refine Zlr ?_)
      exact ret_c1 rfl (rv_agw rfl h4 rfl rfl) ⟨{ ((q8.add (.slice la l.length lc)).add (.slice bda bd.length bdc)) with s := { q8.s with fn := q8.s.fn ++ [{ nm := nm, f := fr, e := pe X.E q8.s, ty := ty, ps := l, bd := bd }] }, z := ⟨a9, q8.s.fn.length + 1, c9⟩ }, rfl, G.sg, eR _ (fun _ => ⟨hc, rfl⟩) fun h => (h hc).elim⟩
    · refine c_t (by show Value.bool (q8.c != 0) = _; rw [bne_iff_ne.2 hc]) ?_
      (repeat refine Zlr ?_)
      refine s_stw (vs := qc X (q8)) rfl rfl rfl rfl rfl h3 hcs (fun w s => ?_)
      have G := G.put 3 rfl s rfl
      have h0 := G.blk 0 rfl; try have h1 := G.blk 1 rfl; try have h2 := G.blk 2 rfl; try have h3 := G.blk 3 rfl; try have h4 := G.blk 4 rfl; try have h5 := G.blk 5 rfl
      (repeat refine Zlr ?_)
      exact ret_c1 rfl (rv_agw rfl h3 rfl rfl) ⟨q8, rfl, G.sg, eR _ (fun h => (hc h).elim) fun h => h⟩
end
end Go.Proofs.YtfnbgbeinmekgaaGreatDoor.Rf
