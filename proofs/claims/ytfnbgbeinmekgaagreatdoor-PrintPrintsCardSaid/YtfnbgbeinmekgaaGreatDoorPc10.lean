/- What the proofs of this seat lean on, part 10. -/
import Derived.Test.YtfnbgbeinmekgaaGreatDoorPc9
namespace Go.Proofs.YtfnbgbeinmekgaaGreatDoor
open Go Go.RowKit Fw Nu Sy Pt
set_option linter.unusedVariables false
set_option maxRecDepth 20000
namespace Rp5
theorem jnP_snoc : ∀ (l : List (List Int)) (x : List Int), jnP (l ++ [x]) = (if l.length = 0 then [] else jnP l ++ [44, 32]) ++ x := by
  intro l
  induction l with
  | nil => intro x; rfl
  | cons y r ih =>
    intro x
    cases r with
    | nil => simp [jnP]
    | cons z r =>
      have := ih x
      simp only [List.cons_append, jnP, List.length_cons] at this ⊢
      rw [this]
      simp
def Sub (S : PS) : X → Prop
  | .idx _ a => EC S a
  | .call _ l => ∀ lo, ∀ p ∈ els lo l, EC S p.2
  | .un _ a => EC S a
  | .pr _ a b => EC S a ∧ EC S b
  | _ => True
set_option maxHeartbeats 8000000 in
theorem exprF {S : PS} {x : X} (hE : Sub S x) : EC S x := by
  intro lo ux us uf w ht hs hx hw hz
  obtain ⟨i, z, hi, hzi, hb⟩ := hs.root hx
  have hil := (List.getElem?_eq_some_iff.1 hzi).1
  obtain ⟨xa, sa, fa, xc, sc, fc, rfl, rfl, rfl⟩ := ht.val
  obtain ⟨g, lv, rfl, hl, hc⟩ := ht.ex hzi
  have hsz := eT_size hw hz
  have hk : z.k = (root lo x).k := (congrArg Ex.k hb : (bx z).k = _)
  have hn : z.n = (root lo x).n := (congrArg Ex.n hb : (bx z).n = _)
  have hnm : z.nm = (root lo x).nm := (congrArg Ex.nm hb : (bx z).nm = _)
  have hop : z.op = (root lo x).op := (congrArg Ex.op hb : (bx z).op = _)
  have ha : z.a = (root lo x).a := (congrArg Ex.a hb : (bx z).a = _)
  have hbb : z.b = (root lo x).b := (congrArg Ex.b hb : (bx z).b = _)
  have hlx : z.l = (root lo x).l := (congrArg Ex.l hb : (bx z).l = _)
  obtain ⟨la, lc, rfl⟩ := Sy.LI.val hl
  obtain ⟨ln1, hln1⟩ : ∃ k, z.l.length = k := ⟨_, rfl⟩
  rw [hln1] at hl hc
  rw [hlx] at hl
  have h1c : (exC (z, .slice la ln1 lc)).all Value.oneCell' = true := rfl
  refine ret_enter Tryz.func14 rfl Tryz.ntmps14 rfl ?_
  (repeat refine Zr ?_)
  refine s_box (cs := [.slice (some ⟨g, 0, none⟩) S.ex.length xc, .slice sa S.st.length sc, .slice fa S.fn.length fc]) rfl rfl (fun b2 w0 n0 => ?_)
  have e2 : w0.heap[b2]? = some (.cells [.slice (some ⟨g, 0, none⟩) S.ex.length xc, .slice sa S.st.length sc, .slice fa S.fn.length fc].toArray 27 (0, 0)) := n0.blk
  have hc1 : ∀ (j : Nat) (u : Value), (exC (z, .slice la ln1 lc))[j]? = some u → w0.cell? ⟨g, 0 + (i : Int).toNat * 9 + j, none⟩ = some u := fun j u hj => n0.kp.cell0 (hc j u hj)
  (repeat refine Zr ?_)
  rw [hi]
  refine s_v (r_ia (size := 9) rfl rfl rfl rfl (by omega) (by omega)) ?_
  refine s_v (r_lda (vs := exC (z, .slice la ln1 lc)) rfl rfl rfl rfl (cellsOf rfl hc1)) ?_
  refine s_al rfl (fun b1 w1 n1 => ?_)
  have g1 := n1.ge
  refine s_st (vs := exC (z, .slice la ln1 lc)) rfl rfl rfl rfl h1c n1.blk (Nat.le_of_ble_eq_true rfl) (fun w2 s2 => ?_)
  have k02 : Kp No w0 w2 := n1.kp.trans s2.kp (fun _ _ e => by omega)
  have k2 : Kp No w w2 := n0.kp.no k02
  have e2 := k02.get0 e2
  have e1 : w2.heap[b1]? = some (.cells [.int .i64 (root lo x).k, .int .i64 z.f, .int .i64 z.e, .int .i64 (root lo x).n, .string (strOfNums (root lo x).nm), .string (strOfNums (root lo x).op), .int .i64 (root lo x).a, .int .i64 (root lo x).b, .slice la ln1 lc].toArray 67 (0, 0)) := by rw [← hk, ← hn, ← hnm, ← hop, ← ha, ← hbb]; exact s2.blk
  clear hk hn hnm hop ha hbb
  have tr2 := ht.kp k2
  have hd := fun (w' : World) (hw : Kp No w2 w') => hw.get0 e1
  have hd2 := fun (w' : World) (hw : Kp No w2 w') => hw.get0 e2
  cases x with
  | nil => cases hx
  | cons _ _ => cases hx
  | num n =>
    (repeat (first | refine Zr ?_ | refine c_t rfl ?_ | refine c_f rfl ?_))
    refine s_call (us := []) (zs := []) (by kernel_rfl) rfl rfl (decimalF hw.1 hw.2 w2) ?_
    rintro _ w3 ⟨⟨s, rfl, hB⟩, k3⟩
    (repeat (first | refine Zr ?_ | refine c_t rfl ?_ | refine c_f rfl ?_))
    exact ret_1 rfl rfl ⟨⟨_, rfl, hB⟩, k2.no k3⟩
  | tt =>
    (repeat (first | refine Zr ?_ | refine c_t rfl ?_ | refine c_f rfl ?_))
    exact ret_1 rfl rfl ⟨⟨_, rfl, rfl⟩, k2⟩
  | ff =>
    (repeat (first | refine Zr ?_ | refine c_t rfl ?_ | refine c_f rfl ?_))
    exact ret_1 rfl rfl ⟨⟨_, rfl, rfl⟩, k2⟩
  | rd =>
    (repeat (first | refine Zr ?_ | refine c_t rfl ?_ | refine c_f rfl ?_))
    exact ret_1 rfl rfl ⟨⟨_, rfl, rfl⟩, k2⟩
  | nm nw =>
    (repeat (first | refine Zr ?_ | refine c_t rfl ?_ | refine c_f rfl ?_))
    exact ret_1 rfl rfl ⟨⟨_, rfl, (nmB hw).1⟩, k2⟩
  | idx nw a =>
    obtain ⟨hnw, hxa, hwa⟩ := hw
    have hnB := nmB hnw
    have hza : sz a ≤ 20001 := by simp only [sz] at hz; omega
    have hta := eT_size hwa hza
    (repeat (first | refine Zr ?_ | refine c_t rfl ?_ | refine c_f rfl ?_))
    refine k_h (fun w' => Kp No w2 w') [(0, false), (1, false), (2, false), (3, false), (4, false), (5, false), (6, true), (7, false), (8, false), (9, false)] 10 (by kernel_rfl) (by exact waits_none) (by kernel_rfl) (by kernel_rfl) rfl rfl (fun m1 k1 _ => ?_)
    have hnz : (strOfNums (root lo (.idx nw a)).nm).size ≤ 20000 := hnB.2
    (repeat (first | refine Zhq ?_ | refine Zhgn ?_ | refine Zhgu ?_ | refine Zhgv ?_))
    refine h_call (us := []) (zs := []) (by kernel_rfl) rfl rfl (hE lo _ _ _ m1 (tr2.kp k1) hs.left hxa hwa hza) ?_
    rintro _ m2 ⟨⟨s, rfl, hB⟩, k3⟩
    have k13 := k1.no k3
    have hsz2 := szB hB
    refine ⟨fun _ => k13, ?_⟩
    (repeat (first | refine Zhq ?_ | refine Zhgn ?_ | refine Zhgu ?_ | refine Zhgv ?_))
    refine h_nil ?_
    (repeat refine Zr ?_)
    refine ret_1 rfl rfl ⟨⟨_, rfl, ?_⟩, k2.no k13⟩
    have hnn : B (strOfNums (root lo (.idx nw a)).nm) = nw := hnB.1
    simp only [B_append, hB, hnn, eT]
    simp [B]
  | call nw l =>
    obtain ⟨hnw, hxa, hwa⟩ := hw
    have hnB := nmB hnw
    have hza : sz l ≤ 20001 := by simp only [sz] at hz; omega
    have hl0 : Sg S.ex lo (fl lo l) := hs.left
    obtain ⟨L, hL⟩ : ∃ L, els lo l = L := ⟨_, rfl⟩
    have hat := els_at l lo hxa hwa hl0
    have hLn := els_sz l lo hxa hwa
    have hT := eT_els l lo hxa hwa
    have hE := hE lo
    have hl : LI w (.slice la ln1 lc) (rts lo l) := hl
    rw [hL] at hat hLn hT hE
    rw [rts_els, hL] at hl
    obtain ⟨a', c', hv, hcl⟩ := LI.at hl
    cases hv
    rw [List.length_map] at *
    have hnz : (strOfNums (root lo (.call nw l)).nm).size ≤ 20000 := hnB.2
    have hbnd : ∀ j, (jnP ((L.take j).map fun p => eT p.2)).length ≤ 8100000000000 := fun j => by
      have := jnP_len ((L.take j).map fun p => eT p.2) 402020100 (fun t ht => by
        obtain ⟨p, hp, rfl⟩ := List.mem_map.1 ht
        have hp := List.mem_of_mem_take hp
        exact eT_size (hat p hp).2.1 (by have := (hat p hp).2.2.2; omega))
      rw [List.length_map] at this
      have h2 : (L.take j).length ≤ 20001 := by rw [List.length_take]; omega
      refine Nat.le_trans this (Nat.le_trans (Nat.mul_le_mul_right _ h2) ?_)
      decide
    (repeat (first | refine Zr ?_ | refine c_t rfl ?_ | refine c_f rfl ?_))
    refine s_v (r_cat rfl rfl (by rw [show (ByteArray.mk #[40]).size = 1 from rfl]; omega)) ?_
    obtain ⟨s0, hs0, hB0⟩ : ∃ s0, strOfNums (root lo (.call nw l)).nm ++ ByteArray.mk #[40] = s0 ∧ B s0 = nw ++ [40] := ⟨_, rfl, by rw [B_append]; have : B (strOfNums (root lo (.call nw l)).nm) = nw := hnB.1; rw [this]; rfl⟩
    rw [hs0]
    (repeat (first | refine Zr ?_ | refine c_t rfl ?_ | refine c_f rfl ?_))
    refine k_loop (σ := Nat × ByteArray) (fun t => [(2, .pointer (some ⟨b2, 0, none⟩)), (5, .pointer (some ⟨b1, 0, none⟩)), (6, .string t.2), (43, .int .i64 (L.length : Int)), (44, .int .i64 (t.1 : Int))])
      (fun t m => t.1 ≤ L.length ∧ B t.2 = nw ++ 40 :: jnP ((L.take t.1).map fun p => eT p.2) ∧ Kp No w2 m) (fun t => L.length - t.1) (0, s0) ⟨rfl, rfl, rfl, rfl, rfl, trivial⟩ ⟨Nat.zero_le _, hB0, Kp.refl _ _⟩ ?_
    rintro ⟨j, s⟩ lr m ⟨hj, hB, km⟩
    simp only at hj hB
    have hsz1 := szB hB
    have hb1 := hbnd j
    rw [List.length_append, List.length_cons] at hsz1
    have hnl := hnw.2
    (repeat refine Zr ?_)
    refine c_dec rfl (fun hlt => ?_) (fun hge => ?_)
    · obtain ⟨p, hp⟩ : ∃ p, L[j]? = some p := ⟨_, List.getElem?_eq_getElem (by omega)⟩
      have hpm := List.mem_of_getElem? hp
      obtain ⟨p1, p2, p3, p4⟩ := hat p hpm
      have hpt := eT_size p2 (by omega)
      obtain ⟨g3, rfl, hcell⟩ := hcl j (rt p.1 p.2) (by rw [List.getElem?_map, hp]; rfl)
      have hcell := km.cell0 (k2.cell0 hcell)
      have e1m := km.get0 e1
      have e2m := km.get0 e2
      (repeat refine Zr ?_)
      refine k_cutc (σ := ByteArray) (fun s' => [(2, .pointer (some ⟨b2, 0, none⟩)), (5, .pointer (some ⟨b1, 0, none⟩)), (6, .string s'), (7, .int .i64 (j : Int)), (43, .int .i64 (L.length : Int)), (44, .int .i64 (j : Int))])
        (fun s' m' => Kp No m m' ∧ B s' = nw ++ 40 :: (if j = 0 then [] else jnP ((L.take j).map fun p => eT p.2) ++ [44, 32])) ?_ ?_
      · refine c_dec rfl (fun q => ?_) (fun q => ?_)
        · (repeat refine Zrc ?_)
          refine l_cut (s ++ ⟨#[44, 32]⟩) ⟨rfl, rfl, rfl, rfl, rfl, rfl, trivial⟩ ⟨Kp.refl _ _, ?_⟩
          rw [B_append, hB, if_neg (by omega)]
          simp [B]
        · (repeat refine Zrc ?_)
          refine l_cut s ⟨rfl, rfl, rfl, rfl, rfl, rfl, trivial⟩ ⟨Kp.refl _ _, ?_⟩
          obtain rfl : j = 0 := by omega
          rw [hB]; rfl
      rintro s' lr2 m' ⟨km', hB'⟩
      have hsz3 := szB hB'
      have hsz4 : s'.size ≤ 8200000000000 := by
        rw [hsz3, List.length_append, List.length_cons]
        split
        · simp; omega
        · rw [List.length_append]; simp only [List.length_cons, List.length_nil]; omega
      have km2 := km.no km'
      have e1n := km'.get0 e1m
      have e2n := km'.get0 e2m
      have hcelln := km'.cell0 hcell
      have hdn := fun (w' : World) (hw : Kp No m' w') => hw.get0 e1n
      have hd2n := fun (w' : World) (hw : Kp No m' w') => hw.get0 e2n
      have hdc := fun (w' : World) (hw : Kp No m' w') => hw.cell0 hcelln
      (repeat refine Zr ?_)
      refine k_h (fun w' => Kp No m' w') [(0, false), (1, false), (2, false), (3, false), (4, false), (5, false), (6, false), (7, true), (8, false), (9, false)] 10 (by kernel_rfl) (by exact waits_none) (by kernel_rfl) (by kernel_rfl) rfl rfl (fun m1 q1 _ => ?_)
      (repeat (first | refine Zhq ?_ | refine Zhgn ?_ | refine Zhgu ?_ | refine Zhgv ?_))
      refine h_call (us := []) (zs := []) (by kernel_rfl) rfl rfl (hE p hpm p.1 _ _ _ m1 ((tr2.kp km2).kp q1) p3 p1 p2 (by omega)) ?_
      rintro _ m2 ⟨⟨s5, rfl, hB5⟩, q2⟩
      have q12 := q1.no q2
      have hsz5 := szB hB5
      refine ⟨fun _ => q12, ?_⟩
      (repeat (first | refine Zhq ?_ | refine Zhgn ?_ | refine Zhgu ?_ | refine Zhgv ?_))
      refine h_nil ?_
      (repeat refine Zr ?_)
      refine l_next (j + 1, s' ++ s5) ⟨rfl, rfl, rfl, rfl, rfl, trivial⟩ ⟨by simp only; omega, ?_, km2.no q12⟩ (by simp only; omega)
      simp only
      have e : (L.take (j + 1)).map (fun p : Nat × X => eT p.2) = (L.take j).map (fun p => eT p.2) ++ [eT p.2] := by rw [List.take_add_one, hp]; simp
      have hlj : ((L.take j).map fun p : Nat × X => eT p.2).length = j := by rw [List.length_map, List.length_take]; omega
      rw [B_append, hB', hB5, e, jnP_snoc, hlj]
      simp
    · obtain rfl : j = L.length := by omega
      rw [List.take_length, ← hT] at hB
      have hb1 := hbnd L.length
      rw [List.take_length, ← hT] at hb1
      (repeat refine Zrc ?_)
      refine ret_1 rfl rfl ⟨⟨_, rfl, ?_⟩, k2.no km⟩
      rw [B_append, hB]
      simp [eT, B]
  | un op a =>
    obtain ⟨ho, hxa, hwa⟩ := hw
    have hnB : B (strOfNums op) = op ∧ (strOfNums op).size ≤ 1 := by rcases ho with rfl | rfl <;> exact ⟨rfl, Nat.le_refl _⟩
    have hza : sz a ≤ 20001 := by simp only [sz] at hz; omega
    have hta := eT_size hwa hza
    (repeat (first | refine Zr ?_ | refine c_t rfl ?_ | refine c_f rfl ?_))
    refine k_h (fun w' => Kp No w2 w') [(0, false), (1, false), (2, false), (3, false), (4, false), (5, true), (6, false), (7, false)] 8 (by kernel_rfl) (by exact waits_none) (by kernel_rfl) (by kernel_rfl) rfl rfl (fun m1 k1 _ => ?_)
    have hnz : (strOfNums (root lo (.un op a)).op).size ≤ 1 := hnB.2
    (repeat (first | refine Zhq ?_ | refine Zhgn ?_ | refine Zhgu ?_ | refine Zhgv ?_))
    refine h_call (us := []) (zs := []) (by kernel_rfl) rfl rfl (brackF hE 5 5 rfl (Nat.le_refl _) lo _ _ _ m1 (tr2.kp k1) hs.left hxa hwa hza) ?_
    rintro _ m2 ⟨⟨s, rfl, hB⟩, k3⟩
    have k13 := k1.no k3
    have hbl := br_len (decide (lvX a < 5)) (eT a)
    have hsz2 := szB hB
    refine ⟨fun _ => k13, ?_⟩
    (repeat (first | refine Zhq ?_ | refine Zhgn ?_ | refine Zhgu ?_ | refine Zhgv ?_))
    refine h_nil ?_
    (repeat refine Zr ?_)
    refine ret_1 rfl rfl ⟨⟨_, rfl, ?_⟩, k2.no k13⟩
    have hnn : B (strOfNums (root lo (.un op a)).op) = op := hnB.1
    simp only [B_append, hB, hnn, eT]
  | pr op a c =>
    obtain ⟨⟨v, hv, ho⟩, hx1, hx2, hw1, hw2⟩ := hw
    have hlo : lvO op = v := lvO_of hv ho
    obtain ⟨hoB, hoz⟩ := opB hv ho
    have hs1 : Sg S.ex lo (fl lo a) := hs.left
    have hs2 : Sg S.ex (lo + sz a) (fl (lo + sz a) c) := (hs.right (fl_len a lo)).left
    have z1 : sz a ≤ 20001 := by simp only [sz] at hz; omega
    have z2 : sz c ≤ 20001 := by simp only [sz] at hz; omega
    have t1 := eT_size hw1 z1
    have t2 := eT_size hw2 z2
    have hlev := levelF hv ho w2
    rw [hlo] at hlev
    have hnz : (strOfNums (root lo (.pr op a c)).op).size ≤ 2 := hoz
    have hnn : B (strOfNums (root lo (.pr op a c)).op) = op := hoB
    (repeat (first | refine Zr ?_ | refine c_t rfl ?_ | refine c_f rfl ?_))
    refine s_call (us := []) (zs := []) (by kernel_rfl) rfl rfl hlev ?_
    rintro _ w3 ⟨rfl, k3⟩
    have kw3 := k2.no k3
    have tr3 := ht.kp kw3
    have e1 := k3.get0 e1
    have e2 := k3.get0 e2
    have hd := fun (w' : World) (hw : Kp No w3 w') => hw.get0 e1
    have hd2 := fun (w' : World) (hw : Kp No w3 w') => hw.get0 e2
    clear hlev
    -- two parts
    have fin : ∀ (n1 n2 : Nat), n1 = lf v → n2 = v + 1 → ∀ s1 s2 : ByteArray, B s1 = br (decide (lvX a < n1)) (eT a) → B s2 = br (decide (lvX c < n2)) (eT c) → B (s1 ++ ⟨#[32]⟩ ++ strOfNums (root lo (.pr op a c)).op ++ ⟨#[32]⟩ ++ s2) = eT (.pr op a c) := fun n1 n2 e1 e2 s1 s2 h1 h2 => by
      subst e1 e2
      simp only [B_append, h1, h2, hnn, eT, hlo]
      simp [B]
    (repeat refine Zr ?_)
    refine c_eq rfl (fun q => ?_) (fun q => ?_)
    · have hv2 : v = 2 := by omega
      (repeat refine Zr ?_)
      refine k_h (fun w' => Kp No w3 w') [(0, false), (1, false), (2, false), (5, false), (6, false), (9, false), (10, false), (11, false), (3, true), (4, false), (7, false), (8, false), (12, true), (13, false), (14, false)] 15 (by kernel_rfl) (by exact waits_none) (by kernel_rfl) (by kernel_rfl) rfl rfl (fun m1 k1 _ => ?_)
      (repeat (first | refine Zhq ?_ | refine Zhgn ?_ | refine Zhgu ?_ | refine Zhgv ?_))
      refine h_call (us := []) (zs := []) (by kernel_rfl) rfl rfl (brackF hE.1 3 3 rfl (by decide) lo _ _ _ m1 (tr3.kp k1) hs1 hx1 hw1 z1) ?_
      rintro _ m2 ⟨⟨s1, rfl, hB1⟩, q2⟩
      have k12 := k1.no q2
      have b1l := br_len (decide (lvX a < 3)) (eT a)
      have s1z := szB hB1
      refine ⟨fun _ => k12, ?_⟩
      (repeat (first | refine Zhq ?_ | refine Zhgn ?_ | refine Zhgu ?_ | refine Zhgv ?_))
      refine h_call (us := []) (zs := []) (by kernel_rfl) rfl rfl (brackF hE.2 3 3 rfl (by decide) (lo + sz a) _ _ _ m2 (tr3.kp k12) hs2 hx2 hw2 z2) ?_
      rintro _ m3 ⟨⟨s2, rfl, hB2⟩, q3⟩
      have k13 := k12.no q3
      have b2l := br_len (decide (lvX c < 3)) (eT c)
      have s2z := szB hB2
      refine ⟨fun _ => k13, ?_⟩
      (repeat (first | refine Zhq ?_ | refine Zhgn ?_ | refine Zhgu ?_ | refine Zhgv ?_))
      refine h_nil ?_
      (repeat refine Zr ?_)
      exact ret_1 rfl rfl ⟨⟨_, rfl, fin 3 3 (by rw [hv2]; rfl) (by omega) s1 s2 hB1 hB2⟩, kw3.no k13⟩
    · (repeat refine Zr ?_)
      have hlf : lf v = v := by unfold lf; rw [if_neg (by omega)]
      refine k_h (fun w' => Kp No w3 w') [(0, false), (1, false), (2, false), (3, false), (6, false), (7, false), (10, false), (11, false), (12, false), (13, false), (14, false), (4, true), (5, false), (8, false), (9, false), (15, true), (16, false), (17, false)] 18 (by kernel_rfl) (by exact waits_none) (by kernel_rfl) (by kernel_rfl) rfl rfl (fun m1 k1 _ => ?_)
      (repeat (first | refine Zhq ?_ | refine Zhgn ?_ | refine Zhgu ?_ | refine Zhgv ?_))
      refine h_call (us := []) (zs := []) (by kernel_rfl) rfl rfl (brackF hE.1 v _ rfl (by omega) lo _ _ _ m1 (tr3.kp k1) hs1 hx1 hw1 z1) ?_
      rintro _ m2 ⟨⟨s1, rfl, hB1⟩, q2⟩
      have k12 := k1.no q2
      have b1l := br_len (decide (lvX a < v)) (eT a)
      have s1z := szB hB1
      refine ⟨fun _ => k12, ?_⟩
      (repeat (first | refine Zhq ?_ | refine Zhgn ?_ | refine Zhgu ?_ | refine Zhgv ?_))
      refine h_call (us := []) (zs := []) (by kernel_rfl) rfl rfl (brackF hE.2 (v + 1) ((v : Int) + 1) (by omega) (by omega) (lo + sz a) _ _ _ m2 (tr3.kp k12) hs2 hx2 hw2 z2) ?_
      rintro _ m3 ⟨⟨s2, rfl, hB2⟩, q3⟩
      have k13 := k12.no q3
      have b2l := br_len (decide (lvX c < v + 1)) (eT c)
      have s2z := szB hB2
      refine ⟨fun _ => k13, ?_⟩
      (repeat (first | refine Zhq ?_ | refine Zhgn ?_ | refine Zhgu ?_ | refine Zhgv ?_))
      refine h_nil ?_
      (repeat refine Zr ?_)
      exact ret_1 rfl rfl ⟨⟨_, rfl, fin v (v + 1) hlf.symm rfl s1 s2 hB1 hB2⟩, kw3.no k13⟩
/-- Of any expression. -/
theorem exprA {S : PS} : ∀ x : X, EC S x ∧ ∀ lo, ∀ p ∈ els lo x, EC S p.2 := by
  intro x
  have no : ∀ {y : X}, isX y = false → EC S y := fun h lo ux us uf w _ _ hx => by rw [h] at hx; cases hx
  induction x with
  | idx w a ih => exact ⟨exprF ih.1, fun lo p hp => by cases hp⟩
  | call w l ih => exact ⟨exprF ih.2, fun lo p hp => by cases hp⟩
  | un op a ih => exact ⟨exprF ih.1, fun lo p hp => by cases hp⟩
  | pr op a b iha ihb => exact ⟨exprF ⟨iha.1, ihb.1⟩, fun lo p hp => by cases hp⟩
  | nil => exact ⟨no rfl, fun lo p hp => by cases hp⟩
  | cons a l iha ihl =>
    refine ⟨no rfl, fun lo p hp => ?_⟩
    rcases List.mem_cons.1 hp with rfl | hp
    · exact iha.1
    · exact ihl.2 _ p hp
  | _ => exact ⟨exprF trivial, fun lo p hp => by cases hp⟩
end Rp5
end Go.Proofs.YtfnbgbeinmekgaaGreatDoor
namespace Go.Proofs.YtfnbgbeinmekgaaGreatDoor
open Go Go.RowKit Fw Nu Sy Pt
set_option linter.unusedVariables false
set_option maxRecDepth 20000
namespace Rp5
/-- A text joined of two, under a name. -/
theorem cat_name (a b : ByteArray) : ∃ s', a ++ b = s' ∧ B s' = B a ++ B b ∧ s'.size = a.size + b.size := ⟨_, rfl, B_append _ _, ByteArray.size_append⟩
theorem own_max' {w : World} {base : Nat} {e : TypeId} {size : Nat} {v : Value} {n : Nat} {cs : List Value} (h : w.ownsRow base e size v n cs) : n ≤ maxLen := by
  rcases h.2 with ⟨_, rfl⟩ | ⟨g, cap, cur, _, _, _, h1, h2, _⟩
  · exact Nat.zero_le _
  · exact Nat.le_trans h1 h2
theorem elsY_ok : ∀ (l : Y) (lo ls : Nat) (k : Int), okY k l → ∀ p ∈ elsY lo ls l, okY k p.2.2 := by
  intro l
  induction l with
  | cons s l _ ih =>
    intro lo ls k h p hp
    rcases List.mem_cons.1 hp with rfl | hp
    · exact h.1
    · exact ih _ _ k h.2 p hp
  | _ => intro lo ls k _ p hp; cases hp
theorem flat_take_succ {α : Type} (f : α → List Int) (L : List α) (j : Nat) (p : α) (h : L[j]? = some p) : (L.take (j + 1)).flatMap f = (L.take j).flatMap f ++ f p := by
  rw [List.take_add_one, h]; simp
theorem flat_take_le {α : Type} (f : α → List Int) (L : List α) (j : Nat) : ((L.take j).flatMap f).length ≤ (L.flatMap f).length := by
  conv => rhs; rw [← List.take_append_drop j L]
  rw [List.flatMap_append, List.length_append]; omega
/-- A statement's text. -/
def SC (S : PS) (y : Y) : Prop := ∀ (lo ls d : Nat) (dI k : Int) (ux us uf : Value) (w : World), Tr w ux us uf S → S.ex.length ≤ 20001 → Sg S.ex lo (fx lo y) → SgY S.st ls (fy lo ls y) → isY y = true → wfY y → okY k y → dI = (d : Int) → (d : Int) ≤ k → k ≤ 64 →
  (tY y false d).length ≤ 1000000000000 →
  Ret Tryz.prog 67 [.agg #[ux, us, uf], .int .i64 (ry ls y), .int .i64 dI] w fun v w1 => (∃ s, v = .string s ∧ B s = tY y false d) ∧ Kp No w w1
def RC (S : PS) (l : Y) : Prop := ∀ lo ls, ∀ p ∈ elsY lo ls l, SC S p.2.2
set_option maxHeartbeats 4000000 in
theorem blockF {S : PS} {l : Y} (lo ls : Nat) (hE : ∀ p ∈ elsY lo ls l, SC S p.2.2) (d : Nat) (dI k : Int) (ux us uf vl : Value) (w : World) (ht : Tr w ux us uf S) (hn : S.ex.length ≤ 20001)
    (hs : Sg S.ex lo (fx lo l)) (hy : SgY S.st ls (fy lo ls l)) (hi : isY l = false) (hw : wfY l) (hok : okY k l) (hdI : dI = (d : Int)) (hdk : (d : Int) + 1 ≤ k) (hk : k ≤ 64) (hl : LI w vl (rys ls l))
    (hz : (blk d (tY l false (d + 1))).length ≤ 1000000000000) :
    Ret Tryz.prog 36 [.agg #[ux, us, uf], vl, .int .i64 dI] w fun v w1 => (∃ s, v = .string s ∧ B s = blk d (tY l false (d + 1))) ∧ Kp No w w1 := by
  have hat := elsY_at l lo ls hi hw hs hy
  have hao := elsY_ok l lo ls k hok
  have hT := tY_els l lo ls (d + 1) hi hw
  rw [rys_els l lo ls] at hl
  obtain ⟨L, hL⟩ : ∃ L, elsY lo ls l = L := ⟨_, rfl⟩
  rw [hL] at hat hT hE hao hl
  rw [hT] at hz ⊢
  rw [blk_len] at hz
  have hLm : L.length ≤ maxLen := by have := own_max' hl; rwa [List.length_map] at this
  have hLn : L.length ≤ 9223372036854775807 := Nat.le_trans hLm (by decide)
  obtain ⟨a, c, rfl, hcl⟩ := LI.at hl
  rw [List.length_map]
  obtain ⟨xa, sa, fa, xc, sc, fc, rfl, rfl, rfl⟩ := ht.val
  subst hdI
  refine ret_enter Tryz.func36 rfl Tryz.ntmps36 rfl ?_
  (repeat refine Zr ?_)
  refine s_box (cs := [.slice xa S.ex.length xc, .slice sa S.st.length sc, .slice fa S.fn.length fc]) rfl rfl (fun b2 w0 n0 => ?_)
  have e2 : w0.heap[b2]? = some (.cells [.slice xa S.ex.length xc, .slice sa S.st.length sc, .slice fa S.fn.length fc].toArray 27 (0, 0)) := n0.blk
  have tr0 := ht.kp n0.kp
  have k0 := n0.kp
  have hcl0 : ∀ (j : Nat) (x : Int), ((List.map (fun p : Nat × Nat × Y => ry p.2.1 p.2.2) L))[j]? = some x → ∃ g, a = some ⟨g, 0, none⟩ ∧ w0.cell? ⟨g, 0 + (j : Int).toNat * 1, none⟩ = some (.int .i64 x) := fun j x hj => by
    obtain ⟨g, e, hc⟩ := hcl j x hj
    exact ⟨g, e, k0.cell0 hc⟩
  (repeat refine Zr ?_)
  refine k_loop (σ := Nat × ByteArray) (fun t => [(1, .slice a L.length c), (2, .int .i64 (d : Int)), (3, .pointer (some ⟨b2, 0, none⟩)), (7, .string t.2), (10, .int .i64 (L.length : Int)), (11, .int .i64 (t.1 : Int))])
    (fun t m => t.1 ≤ L.length ∧ B t.2 = 123 :: 10 :: (L.take t.1).flatMap (fun p => ln (d + 1) p.2.2) ∧ Kp No w0 m) (fun t => L.length - t.1) (0, ⟨#[123, 10]⟩) ⟨rfl, rfl, rfl, rfl, rfl, rfl, trivial⟩ ⟨Nat.zero_le _, rfl, Kp.refl _ _⟩ ?_
  rintro ⟨j, s⟩ lr m ⟨hj, hB, km⟩
  simp only at hj hB
  have hsz := szB hB
  simp only [List.length_cons] at hsz
  have hfl0 := flat_take_le (fun p : Nat × Nat × Y => ln (d + 1) p.2.2) L j
  (repeat refine Zr ?_)
  refine c_dec rfl (fun hlt => ?_) (fun hge => ?_)
  · obtain ⟨p, hp⟩ : ∃ p, L[j]? = some p := ⟨_, List.getElem?_eq_getElem (by omega)⟩
    have hpm := List.mem_of_getElem? hp
    obtain ⟨p1, p2, p3, p4⟩ := hat p hpm
    obtain ⟨g, rfl, hcell⟩ := hcl0 j (ry p.2.1 p.2.2) (by rw [List.getElem?_map, hp]; rfl)
    have hcell := km.cell0 hcell
    have hfl := flat_take_le (fun p : Nat × Nat × Y => ln (d + 1) p.2.2) L (j + 1)
    have hfs := flat_take_succ (fun p : Nat × Nat × Y => ln (d + 1) p.2.2) L j p hp
    rw [hfs, List.length_append, show (ln (d + 1) p.2.2).length = 2 * (d + 1) + ((tY p.2.2 false (d + 1)).length + 1) by simp [ln, bl_len]] at hfl
    obtain ⟨F, hF⟩ : ∃ F, (L.take j).flatMap (fun p : Nat × Nat × Y => ln (d + 1) p.2.2) = F := ⟨_, rfl⟩
    rw [hF] at hfl hfs hsz hB hfl0
    have e2m := km.get0 e2
    have hd2 := fun (w' : World) (hw : Kp No m w') => hw.get0 e2m
    have hdc := fun (w' : World) (hw : Kp No m w') => hw.cell0 hcell
    (repeat refine Zr ?_)
    refine k_h (fun w' => Kp No m w') [(0, false), (1, false), (2, false), (5, false), (6, false), (7, false), (8, false), (9, false), (10, false), (11, false), (3, true), (4, false), (12, true), (13, false), (14, false), (15, false)] 16 (by kernel_rfl) (by exact waits_none) (by kernel_rfl) (by kernel_rfl) rfl rfl (fun m1 q1 _ => ?_)
    (repeat (first | refine Zhq ?_ | refine Zhgn ?_ | refine Zhgu ?_ | refine Zhgv ?_))
    refine h_call (us := []) (zs := []) (by kernel_rfl) rfl rfl (blanksF (d + 1) ((d : Int) + 1) (by omega) m1 (by omega)) ?_
    rintro _ m2 ⟨⟨s2, rfl, hB2⟩, q2⟩
    have q12 := q1.no q2
    have hs2 := szB hB2
    rw [bl_len] at hs2
    refine ⟨fun _ => q12, ?_⟩
    (repeat (first | refine Zhq ?_ | refine Zhgn ?_ | refine Zhgu ?_ | refine Zhgv ?_))
    refine h_call (us := []) (zs := []) (by kernel_rfl) rfl rfl (hE p hpm p.1 p.2.1 (d + 1) ((d : Int) + 1) k _ _ _ m2 ((tr0.kp km).kp q12) hn p3 p4 p1 p2 (hao p hpm) (by omega) (by omega) hk (by omega)) ?_
    rintro _ m3 ⟨⟨s3, rfl, hB3⟩, q3⟩
    have q13 := q12.no q3
    have hs3 := szB hB3
    refine ⟨fun _ => q13, ?_⟩
    (repeat (first | refine Zhq ?_ | refine Zhgn ?_ | refine Zhgu ?_ | refine Zhgv ?_))
    refine h_nil ?_
    (repeat refine Zr ?_)
    refine l_next (j + 1, s ++ s2 ++ s3 ++ ⟨#[10]⟩) ⟨rfl, rfl, rfl, rfl, rfl, rfl, trivial⟩ ⟨by simp only; omega, ?_, km.no q13⟩ (by simp only; omega)
    simp only
    rw [hfs, B_append, B_append, B_append, hB, hB2, hB3]
    simp [ln, B]
  · obtain rfl : j = L.length := by omega
    rw [List.take_length] at hB hsz
    (repeat refine Zr ?_)
    refine s_call (us := []) (zs := []) (by kernel_rfl) rfl rfl (blanksF d _ rfl m (by omega)) ?_
    rintro _ m2 ⟨⟨s2, rfl, hB2⟩, q2⟩
    have hs2 := szB hB2
    rw [bl_len] at hs2
    (repeat refine Zrc ?_)
    refine ret_1 rfl rfl ⟨⟨_, rfl, ?_⟩, (k0.no km).no q2⟩
    rw [B_append, B_append, hB, hB2]
    simp [blk, B]
end Rp5
end Go.Proofs.YtfnbgbeinmekgaaGreatDoor
namespace Go.Proofs.YtfnbgbeinmekgaaGreatDoor
open Go Go.RowKit Fw Nu Sy Pt
set_option linter.unusedVariables false
set_option maxRecDepth 20000
namespace Rp5
/-- The text of what stands behind else. -/
def elT (el : Y) (d : Nat) : List Int := if isN el then [] else 32 :: (wElse ++ 32 :: if isEI el then tY el true d else blk d (tY el false (d + 1)))
theorem kif {s : Y} (lo ls : Nat) (hs : isY s = true) : ((rootY lo ls s).k == 5) = isIf s := by cases s <;> first | rfl | cases hs
def SubY (S : PS) : Y → Prop
  | .sif _ th el => RC S th ∧ RC S el
  | .swh _ th => RC S th
  | _ => True
set_option maxHeartbeats 16000000 in
theorem stmtF {S : PS} {y : Y} (hE : SubY S y) : SC S y := by
  intro lo ls d dI k ux us uf w ht hn hs hy hsy hw hok hdI hdk hk hz
  obtain ⟨i, z, hi, hzi, hb⟩ := hy.root hsy
  have hil := (List.getElem?_eq_some_iff.1 hzi).1
  obtain ⟨xa, sa, fa, xc, sc, fc, rfl, rfl, rfl⟩ := ht.val
  obtain ⟨g, lv, mv, rfl, hl, hm, hc⟩ := ht.st hzi
  have hkk : z.k = (rootY lo ls y).k := (congrArg St.k hb : (Pt.bs z).k = _)
  have hnn : z.n = (rootY lo ls y).n := (congrArg St.n hb : (Pt.bs z).n = _)
  have hnm : z.nm = (rootY lo ls y).nm := (congrArg St.nm hb : (Pt.bs z).nm = _)
  have ha : z.a = (rootY lo ls y).a := (congrArg St.a hb : (Pt.bs z).a = _)
  have hbb : z.b = (rootY lo ls y).b := (congrArg St.b hb : (Pt.bs z).b = _)
  have hth : z.th = (rootY lo ls y).th := (congrArg St.th hb : (Pt.bs z).th = _)
  have hel : z.el = (rootY lo ls y).el := (congrArg St.el hb : (Pt.bs z).el = _)
  obtain ⟨la, lc, rfl⟩ := Sy.LI.val hl
  obtain ⟨ma, mc, rfl⟩ := Sy.LI.val hm
  obtain ⟨ln1, hln1⟩ : ∃ k, z.th.length = k := ⟨_, rfl⟩
  obtain ⟨ln2, hln2⟩ : ∃ k, z.el.length = k := ⟨_, rfl⟩
  rw [hln1] at hl hc
  rw [hln2] at hm hc
  have h1c : (stC (z, .slice la ln1 lc, .slice ma ln2 mc)).all Value.oneCell' = true := rfl
  rw [hth] at hl
  rw [hel] at hm hln2
  refine ret_enter Tryz.func67 rfl Tryz.ntmps67 rfl ?_
  (repeat refine Zr ?_)
  refine s_box (cs := [.slice xa S.ex.length xc, .slice (some ⟨g, 0, none⟩) S.st.length sc, .slice fa S.fn.length fc]) rfl rfl (fun b2 w0 n0 => ?_)
  have e2 : w0.heap[b2]? = some (.cells [.slice xa S.ex.length xc, .slice (some ⟨g, 0, none⟩) S.st.length sc, .slice fa S.fn.length fc].toArray 27 (0, 0)) := n0.blk
  have hc1 : ∀ (j : Nat) (u : Value), (stC (z, .slice la ln1 lc, .slice ma ln2 mc))[j]? = some u → w0.cell? ⟨g, 0 + (i : Int).toNat * 9 + j, none⟩ = some u := fun j u hj => n0.kp.cell0 (hc j u hj)
  (repeat refine Zr ?_)
  rw [hi]
  refine s_v (r_ia (size := 9) rfl rfl rfl rfl (by omega) (by omega)) ?_
  refine s_v (r_lda (vs := stC (z, .slice la ln1 lc, .slice ma ln2 mc)) rfl rfl rfl rfl (cellsOf rfl hc1)) ?_
  refine s_al rfl (fun b1 w1 n1 => ?_)
  have g1 := n1.ge
  refine s_st (vs := stC (z, .slice la ln1 lc, .slice ma ln2 mc)) rfl rfl rfl rfl h1c n1.blk (Nat.le_of_ble_eq_true rfl) (fun w2 s2 => ?_)
  have k02 : Kp No w0 w2 := n1.kp.trans s2.kp (fun _ _ e => by omega)
  have k2 : Kp No w w2 := n0.kp.no k02
  have e2 := k02.get0 e2
  have e1 : w2.heap[b1]? = some (.cells [.int .i64 (rootY lo ls y).k, .int .i64 z.f, .int .i64 z.e, .string (strOfNums (rootY lo ls y).nm), .int .i64 (rootY lo ls y).n, .int .i64 (rootY lo ls y).a, .int .i64 (rootY lo ls y).b, .slice la ln1 lc, .slice ma ln2 mc].toArray 42 (0, 0)) := by rw [← hkk, ← hnn, ← hnm, ← ha, ← hbb]; exact s2.blk
  clear hkk hnn hnm ha hbb hth hel
  have tr2 := ht.kp k2
  have hd := fun (w' : World) (hw : Kp No w2 w') => hw.get0 e1
  have hd2 := fun (w' : World) (hw : Kp No w2 w') => hw.get0 e2
  cases y with
  | nil => cases hsy
  | cons _ _ => cases hsy
  | svar nw x =>
    obtain ⟨hnw, hxa, hwa⟩ := hw
    have hnB := nmB hnw
    have hnz : (strOfNums (rootY lo ls (Y.svar nw x)).nm).size ≤ 20000 := hnB.2
    have hnn : B (strOfNums (rootY lo ls (Y.svar nw x)).nm) = nw := hnB.1
    have hs1 : Sg S.ex lo (fl lo x) := hs
    have hza := Nat.le_trans (Sg.le hs1) hn
    have hta := eT_size hwa hza
    (repeat (first | refine Zr ?_ | refine c_t rfl ?_ | refine c_f rfl ?_))
    refine k_h (fun w' => Kp No w2 w') [(0, false), (1, false), (2, false), (3, false), (4, false), (5, false), (6, false), (7, true), (8, false), (9, false), (10, false)] 11 (by kernel_rfl) (by exact waits_none) (by kernel_rfl) (by kernel_rfl) rfl rfl (fun m1 k1 _ => ?_)
    (repeat (first | refine Zhq ?_ | refine Zhgn ?_ | refine Zhgu ?_ | refine Zhgv ?_))
    refine h_call (us := []) (zs := []) (by kernel_rfl) rfl rfl ((exprA x).1 lo _ _ _ m1 (tr2.kp k1) hs1 hxa hwa hza) ?_
    rintro _ m2 ⟨⟨s, rfl, hBs⟩, qs⟩
    have k3 := k1.no qs
    have hszs := szB hBs
    refine ⟨fun _ => k3, ?_⟩
    (repeat (first | refine Zhq ?_ | refine Zhgn ?_ | refine Zhgu ?_ | refine Zhgv ?_))
    refine h_nil ?_
    (repeat refine Zr ?_)
    refine ret_1 rfl rfl ⟨⟨_, rfl, ?_⟩, k2.no k3⟩
    simp only [B_append, hBs, hnn, tY]
    simp [B, wVar]
  | sarr nw n =>
    obtain ⟨hnw, h0, hnu⟩ := hw
    have hnB := nmB hnw
    have hnz : (strOfNums (rootY lo ls (Y.sarr nw n)).nm).size ≤ 20000 := hnB.2
    have hnn : B (strOfNums (rootY lo ls (Y.sarr nw n)).nm) = nw := hnB.1
    have hni := nu_i64 h0 hnu
    (repeat (first | refine Zr ?_ | refine c_t rfl ?_ | refine c_f rfl ?_))
    refine k_h (fun w' => Kp No w2 w') [(0, false), (1, false), (2, false), (3, false), (4, false), (5, false), (6, true), (7, false), (8, false), (9, false)] 10 (by kernel_rfl) (by exact waits_none) (by kernel_rfl) (by kernel_rfl) rfl rfl (fun m1 k1 _ => ?_)
    (repeat (first | refine Zhq ?_ | refine Zhgn ?_ | refine Zhgu ?_ | refine Zhgv ?_))
    refine h_call (us := []) (zs := []) (by kernel_rfl) rfl rfl (decimalF h0 hnu m1) ?_
    rintro _ m2 ⟨⟨s, rfl, hBs⟩, qs⟩
    have k3 := k1.no qs
    have hszs := szB hBs
    refine ⟨fun _ => k3, ?_⟩
    (repeat (first | refine Zhq ?_ | refine Zhgn ?_ | refine Zhgu ?_ | refine Zhgv ?_))
    refine h_nil ?_
    (repeat refine Zr ?_)
    refine ret_1 rfl rfl ⟨⟨_, rfl, ?_⟩, k2.no k3⟩
    simp only [B_append, hBs, hnn, tY]
    simp [B, wVar]
  | sset nw x =>
    obtain ⟨hnw, hxa, hwa⟩ := hw
    have hnB := nmB hnw
    have hnz : (strOfNums (rootY lo ls (Y.sset nw x)).nm).size ≤ 20000 := hnB.2
    have hnn : B (strOfNums (rootY lo ls (Y.sset nw x)).nm) = nw := hnB.1
    have hs1 : Sg S.ex lo (fl lo x) := hs
    have hza := Nat.le_trans (Sg.le hs1) hn
    have hta := eT_size hwa hza
    (repeat (first | refine Zr ?_ | refine c_t rfl ?_ | refine c_f rfl ?_))
    refine k_h (fun w' => Kp No w2 w') [(0, false), (1, false), (2, false), (3, false), (4, false), (5, false), (6, true), (7, false), (8, false), (9, false)] 10 (by kernel_rfl) (by exact waits_none) (by kernel_rfl) (by kernel_rfl) rfl rfl (fun m1 k1 _ => ?_)
    (repeat (first | refine Zhq ?_ | refine Zhgn ?_ | refine Zhgu ?_ | refine Zhgv ?_))
    refine h_call (us := []) (zs := []) (by kernel_rfl) rfl rfl ((exprA x).1 lo _ _ _ m1 (tr2.kp k1) hs1 hxa hwa hza) ?_
    rintro _ m2 ⟨⟨s, rfl, hBs⟩, qs⟩
    have k3 := k1.no qs
    have hszs := szB hBs
    refine ⟨fun _ => k3, ?_⟩
    (repeat (first | refine Zhq ?_ | refine Zhgn ?_ | refine Zhgu ?_ | refine Zhgv ?_))
    refine h_nil ?_
    (repeat refine Zr ?_)
    refine ret_1 rfl rfl ⟨⟨_, rfl, ?_⟩, k2.no k3⟩
    simp only [B_append, hBs, hnn, tY]
    simp [B]
  | sput nw x y2 =>
    obtain ⟨hnw, hxa, hwa, hxb, hwb⟩ := hw
    have hnB := nmB hnw
    have hnz : (strOfNums (rootY lo ls (Y.sput nw x y2)).nm).size ≤ 20000 := hnB.2
    have hnn : B (strOfNums (rootY lo ls (Y.sput nw x y2)).nm) = nw := hnB.1
    have hs1 : Sg S.ex lo (fl lo x) := hs.left
    have hs2 : Sg S.ex (lo + sz x) (fl (lo + sz x) y2) := hs.right (fl_len x lo)
    have hza := Nat.le_trans (Sg.le hs1) hn
    have hta := eT_size hwa hza
    have hzb := Nat.le_trans (Sg.le hs2) hn
    have htb := eT_size hwb hzb
    (repeat (first | refine Zr ?_ | refine c_t rfl ?_ | refine c_f rfl ?_))
    refine k_h (fun w' => Kp No w2 w') [(0, false), (1, false), (2, false), (3, false), (4, false), (5, false), (9, false), (10, false), (11, false), (6, true), (7, false), (8, false), (12, true), (13, false), (14, false), (15, false)] 16 (by kernel_rfl) (by exact waits_none) (by kernel_rfl) (by kernel_rfl) rfl rfl (fun m1 k1 _ => ?_)
    (repeat (first | refine Zhq ?_ | refine Zhgn ?_ | refine Zhgu ?_ | refine Zhgv ?_))
    refine h_call (us := []) (zs := []) (by kernel_rfl) rfl rfl ((exprA x).1 lo _ _ _ m1 (tr2.kp k1) hs1 hxa hwa hza) ?_
    rintro _ m2 ⟨⟨s, rfl, hBs⟩, qs⟩
    have k3 := k1.no qs
    have hszs := szB hBs
    refine ⟨fun _ => k3, ?_⟩
    (repeat (first | refine Zhq ?_ | refine Zhgn ?_ | refine Zhgu ?_ | refine Zhgv ?_))
    refine h_call (us := []) (zs := []) (by kernel_rfl) rfl rfl ((exprA y2).1 (lo + sz x) _ _ _ m2 (tr2.kp k3) hs2 hxb hwb hzb) ?_
    rintro _ m3 ⟨⟨t, rfl, hBt⟩, qt⟩
    have k4 := k3.no qt
    have hszt := szB hBt
    refine ⟨fun _ => k4, ?_⟩
    (repeat (first | refine Zhq ?_ | refine Zhgn ?_ | refine Zhgu ?_ | refine Zhgv ?_))
    refine h_nil ?_
    (repeat refine Zr ?_)
    refine ret_1 rfl rfl ⟨⟨_, rfl, ?_⟩, k2.no k4⟩
    simp only [B_append, hBs, hBt, hnn, tY]
    simp [B]
  | sif x th el =>
    obtain ⟨hxa, hwa, hi1, hw1, hi2, hw2⟩ := hw
    obtain ⟨ho1, ho2, ho3, ho4⟩ := hok
    have hs1 : Sg S.ex lo (fl lo x) := hs.left
    have hsr := hs.right (fl_len x lo)
    have hs2 : Sg S.ex (lo + sz x) (fx (lo + sz x) th) := hsr.left
    have hs3 : Sg S.ex (lo + sz x + zx th) (fx (lo + sz x + zx th) el) := hsr.right (fx_len th (lo + sz x))
    have hy1 : SgY S.st ls (fy (lo + sz x) ls th) := hy.left
    have hy2 : SgY S.st (ls + zy th) (fy (lo + sz x + zx th) (ls + zy th) el) := (hy.right (fy_len th (lo + sz x) ls)).left
    have hza := Nat.le_trans (Sg.le hs1) hn
    have hta := eT_size hwa hza
    have hT : tY (.sif x th el) false d = wIf ++ 32 :: (eT x ++ 32 :: (blk d (tY th false (d + 1)) ++ elT el d)) := rfl
    rw [hT] at hz ⊢
    simp only [List.length_append, List.length_cons, show wIf.length = 2 from rfl] at hz
    have hl : LI w (.slice la ln1 lc) (rys ls th) := hl
    have hm : LI w (.slice ma ln2 mc) (rys (ls + zy th) el) := hm
    have hln2 : (rys (ls + zy th) el).length = ln2 := hln2
    subst hdI
    (repeat (first | refine Zr ?_ | refine c_t rfl ?_ | refine c_f rfl ?_))
    refine k_h (fun w' => Kp No w2 w') [(0, false), (1, false), (2, false), (6, false), (7, false), (8, false), (9, false), (3, true), (4, false), (5, false), (10, true), (11, false), (12, false)] 13 (by kernel_rfl) (by exact waits_none) (by kernel_rfl) (by kernel_rfl) rfl rfl (fun m1 k1 _ => ?_)
    (repeat (first | refine Zhq ?_ | refine Zhgn ?_ | refine Zhgu ?_ | refine Zhgv ?_))
    refine h_call (us := []) (zs := []) (by kernel_rfl) rfl rfl ((exprA x).1 lo _ _ _ m1 (tr2.kp k1) hs1 hxa hwa hza) ?_
    rintro _ m2 ⟨⟨s, rfl, hBs⟩, qs⟩
    have k3 := k1.no qs
    have hszs := szB hBs
    refine ⟨fun _ => k3, ?_⟩
    (repeat (first | refine Zhq ?_ | refine Zhgn ?_ | refine Zhgu ?_ | refine Zhgv ?_))
    refine h_call (us := []) (zs := []) (by kernel_rfl) rfl rfl (blockF (lo + sz x) ls (hE.1 _ _) d d (k + 1) _ _ _ _ m2 (tr2.kp k3) hn hs2 hy1 hi1 hw1 ho3 rfl (by omega) ho2 (own_kp hl (k2.no k3) fun _ _ h => h) (by omega)) ?_
    rintro _ m3 ⟨⟨t, rfl, hBt⟩, qt⟩
    have k4 := k3.no qt
    have hszt := szB hBt
    refine ⟨fun _ => k4, ?_⟩
    obtain ⟨s8, hs8, hB8, hz8⟩ : ∃ s8, ((ByteArray.mk #[105, 102, 32] ++ s) ++ ByteArray.mk #[32]) ++ t = s8 ∧ B s8 = wIf ++ 32 :: (eT x ++ 32 :: blk d (tY th false (d + 1))) ∧ s8.size = 4 + (eT x).length + (blk d (tY th false (d + 1))).length := by
      refine ⟨_, rfl, by simp only [B_append, hBs, hBt]; simp [B, wIf], ?_⟩
      simp only [ByteArray.size_append, lit_size, hszs, hszt]; simp; omega
    refine h_v k4 (fun w' hw => r_cat rfl rfl (by simp only [ByteArray.size_append, lit_size, List.size_toArray, List.length_cons, List.length_nil]; omega)) ?_
    rw [hs8]
    (repeat (first | refine Zhq ?_ | refine Zhgn ?_ | refine Zhgu ?_ | refine Zhgv ?_))
    refine h_nil ?_
    have kw := k2.no k4
    have e1 := k4.get0 e1
    have e2 := k4.get0 e2
    have tr := ht.kp kw
    have hm := own_kp hm kw fun _ _ h => h
    clear hd hd2
    have hLn : (rys (ls + zy th) el).length ≤ 9223372036854775807 := Nat.le_trans (own_max' hm) (by decide)
    have hm' := hm
    obtain ⟨a', c', hv, hcl⟩ := LI.at hm
    cases hv
    have hfin : ∀ T, elT el d = T → ∀ s9 : ByteArray, B s9 = T → B (s8 ++ s9) = wIf ++ 32 :: (eT x ++ 32 :: (blk d (tY th false (d + 1)) ++ elT el d)) := fun T e s9 h9 => by
      rw [B_append, hB8, h9, e]; simp
    (repeat refine Zr ?_)
    refine k_q (by kernel_rfl) (by kernel_rfl) ?_
    (repeat (first | refine Zq ?_ | refine Zqn ?_ | refine Zqu ?_ | refine Zqg ?_))
    cases el with
    | nil =>
      refine q_set 85 false rfl rfl ?_
      (repeat (first | refine Zq ?_ | refine Zqn ?_ | refine Zqu ?_ | refine Zqg ?_))
      refine q_nil (fun w3 k5 => ?_)
      have e1 := k5.get0 e1
      (repeat refine Zr ?_)
      refine c_f rfl ?_
      (repeat refine Zr ?_)
      refine c_f rfl ?_
      (repeat refine Zr ?_)
      refine ret_1 rfl rfl ⟨⟨_, rfl, ?_⟩, kw.no k5⟩
      rw [hB8]; simp [elT, isN]
    | cons s9 l =>
      have hT2 : elT (.cons s9 l) d = 32 :: (wElse ++ 32 :: if isEI (.cons s9 l) then tY (.cons s9 l) true d else blk d (tY (.cons s9 l) false (d + 1))) := rfl
      rw [hT2] at hz
      simp only [List.length_append, List.length_cons, show wElse.length = 4 from rfl] at hz
      have hlen : (rys (ls + zy th) (.cons s9 l)).length = (rys (ls + zy th + zy s9) l).length + 1 := rfl
      have hgo : SC S s9 := hE.2 (lo + sz x + zx th) (ls + zy th) (lo + sz x + zx th, ls + zy th, s9) (by simp [elsY])
      obtain ⟨g5, rfl, hcell⟩ := hcl 0 (ry (ls + zy th) s9) rfl
      have hcell : m3.cell? ⟨g5, 0 + (0 : Int).toNat * 1, none⟩ = some (.int .i64 (ry (ls + zy th) s9)) := hcell
      have hsy9 : isY s9 = true := hw2.1
      obtain ⟨i9, zs, hri, hzi9, hzb⟩ := (hy2.left : SgY S.st (ls + zy th) (fy (lo + sz x + zx th) (ls + zy th) s9)).root hsy9
      have hil9 := (List.getElem?_eq_some_iff.1 hzi9).1
      obtain ⟨g6, lv2, mv2, hg6, _, _, hc2⟩ := tr.st hzi9
      cases hg6
      have hk2 : zs.k = (rootY (lo + sz x + zx th) (ls + zy th) s9).k := (congrArg St.k hzb : (Pt.bs zs).k = _)
      have hck : m3.cell? ⟨g, 0 + (ry (ls + zy th) s9).toNat * 9 + 0, none⟩ = some (.int .i64 zs.k) := by rw [hri]; exact hc2 0 _ rfl
      have hkf := kif (lo + sz x + zx th) (ls + zy th) hsy9
      rw [← hk2] at hkf
      have h01 : (0 : Int) < ((rys (ls + zy th) (.cons s9 l)).length : Int) := by rw [hlen]; omega
      -- the block
      have blkC : isEI (.cons s9 l) = false → ∀ w3, Kp No m3 w3 → Ret Tryz.prog 36 [.agg #[.slice xa S.ex.length xc, .slice (some ⟨g, 0, none⟩) S.st.length sc, .slice fa S.fn.length fc], .slice (some ⟨g5, 0, none⟩) (rys (ls + zy th) (.cons s9 l)).length mc, .int .i64 (d : Int)] w3 fun v w1 => (∃ s, v = .string s ∧ B s = blk d (tY (.cons s9 l) false (d + 1))) ∧ Kp No w3 w1 := fun he w3 k5 => by
        rw [he] at hz
        exact blockF (lo + sz x + zx th) (ls + zy th) (hE.2 _ _) d d (k + 1) _ _ _ _ w3 (tr.kp k5) hn hs3 hy2 rfl hw2 ho4 rfl (by omega) ho2 (own_kp hm' k5 fun _ _ h => h) (by have hz : 2 + ((eT x).length + ((blk d (tY th false (d + 1))).length + (4 + ((blk d (tY (.cons s9 l) false (d + 1))).length + 1) + 1) + 1) + 1) ≤ 1000000000000 := hz; omega)
      have bfin : isEI (.cons s9 l) = false → ∀ t9 : ByteArray, B t9 = blk d (tY (.cons s9 l) false (d + 1)) → B ((s8 ++ ⟨#[32, 101, 108, 115, 101, 32]⟩) ++ t9) = wIf ++ 32 :: (eT x ++ 32 :: (blk d (tY th false (d + 1)) ++ elT (.cons s9 l) d)) ∧ t9.size ≤ 1000000000000 := fun he t9 h9 => by
        rw [he] at hz
        have hz : 2 + ((eT x).length + ((blk d (tY th false (d + 1))).length + (4 + ((blk d (tY (.cons s9 l) false (d + 1))).length + 1) + 1) + 1) + 1) ≤ 1000000000000 := hz
        refine ⟨?_, by rw [szB h9]; omega⟩
        rw [B_append, B_append, hB8, h9, hT2, he]
        simp [B, wElse]
      cases hlc : isN l with
      | false =>
        have hl0 : (rys (ls + zy th + zy s9) l).length ≠ 0 := by
          cases l with
          | nil => cases hlc
          | cons s' l' => simp [rys]
          | _ => exact absurd hw2.2.1 (by simp [isY])
        have hei : isEI (.cons s9 l) = false := by cases s9 <;> cases l <;> first | rfl | cases hlc
        refine q_set 85 false rfl (by rw [hlen]; show (((_ + 1 : Nat) : Int) == 1) = false; rw [beq_eq_false_iff_ne]; omega) ?_
        (repeat (first | refine Zq ?_ | refine Zqn ?_ | refine Zqu ?_ | refine Zqg ?_))
        refine q_nil (fun w3 k5 => ?_)
        have e1 := k5.get0 e1
        have e2 := k5.get0 e2
        (repeat refine Zr ?_)
        refine c_f rfl ?_
        (repeat refine Zr ?_)
        refine c_t (congrArg Value.bool (decide_eq_true h01)) ?_
        (repeat refine Zr ?_)
        refine s_v (r_cat rfl rfl (by simp only [lit_size, List.size_toArray, List.length_cons, List.length_nil]; omega)) ?_
        (repeat refine Zr ?_)
        refine s_v (r_lwb rfl e2 rfl rfl) ?_
        (repeat refine Zr ?_)
        refine s_call (us := []) (zs := []) (by kernel_rfl) rfl rfl (blkC hei w3 k5) ?_
        rintro _ w4 ⟨⟨t9, rfl, hB9⟩, k6⟩
        obtain ⟨f1, f2⟩ := bfin hei t9 hB9
        (repeat refine Zrc ?_)
        exact ret_1 rfl rfl ⟨⟨_, rfl, f1⟩, (kw.no k5).no k6⟩
      | true =>
        have hln : l = .nil := by cases l <;> first | rfl | cases hlc
        subst hln
        refine q_set 85 true rfl rfl ?_
        (repeat (first | refine Zq ?_ | refine Zqn ?_ | refine Zqu ?_ | refine Zqg ?_))
        refine q_nil (fun w3 k5 => ?_)
        have e1 := k5.get0 e1
        have e2 := k5.get0 e2
        have hcw3 := k5.cell0 hcell
        (repeat refine Zr ?_)
        refine c_b rfl (fun ht9 => ?_) (fun hf9 => ?_)
        · have hif : isIf s9 = true := by rw [← hkf]; exact ht9
          have hei : isEI (.cons s9 .nil) = true := by cases s9 <;> first | rfl | cases hif
          rw [hei] at hz
          have hz : 2 + ((eT x).length + ((blk d (tY th false (d + 1))).length + (4 + ((tY s9 false d).length + 1) + 1) + 1) + 1) ≤ 1000000000000 := hz
          (repeat refine Zr ?_)
          refine k_h (fun w' => Kp No w3 w') [(0, false), (1, false), (2, false), (3, false), (4, false), (5, false), (6, false), (7, false), (8, true), (9, false), (10, false)] 11 (by kernel_rfl) (by exact waits_none) (by kernel_rfl) (by kernel_rfl) rfl rfl (fun m5 q5 _ => ?_)
          have hd := fun (w' : World) (hw : Kp No w3 w') => hw.get0 e1
          have hd2 := fun (w' : World) (hw : Kp No w3 w') => hw.get0 e2
          have hdc := fun (w' : World) (hw : Kp No w3 w') => hw.cell0 hcw3
          (repeat (first | refine Zhq ?_ | refine Zhgn ?_ | refine Zhgu ?_ | refine Zhgv ?_))
          refine h_call (us := []) (zs := []) (by kernel_rfl) rfl rfl (hgo (lo + sz x + zx th) (ls + zy th) d d (k + 1) _ _ _ m5 (tr.kp (k5.no q5)) hn (hs3.left : Sg S.ex (lo + sz x + zx th) (fx (lo + sz x + zx th) s9)) hy2.left hsy9 hw2.2.2.1 ho4.1 rfl (by omega) ho2 (by omega)) ?_
          rintro _ m6 ⟨⟨t9, rfl, hB9⟩, q6⟩
          have q56 := q5.no q6
          have hszz := szB hB9
          refine ⟨fun _ => q56, ?_⟩
          (repeat (first | refine Zhq ?_ | refine Zhgn ?_ | refine Zhgu ?_ | refine Zhgv ?_))
          refine h_nil ?_
          (repeat refine Zr ?_)
          refine ret_1 rfl rfl ⟨⟨_, rfl, ?_⟩, (kw.no k5).no q56⟩
          rw [B_append, B_append, hB8, hB9, hT2, hei]
          simp [B, wElse, tY]
        · have hif : isIf s9 = false := by rw [← hkf]; exact hf9
          have hei : isEI (.cons s9 .nil) = false := by cases s9 <;> first | rfl | cases hif
          (repeat refine Zr ?_)
          refine c_t (congrArg Value.bool (decide_eq_true h01)) ?_
          (repeat refine Zr ?_)
          refine s_v (r_cat rfl rfl (by simp only [lit_size, List.size_toArray, List.length_cons, List.length_nil]; omega)) ?_
          (repeat refine Zr ?_)
          refine s_v (r_lwb rfl e2 rfl rfl) ?_
          (repeat refine Zr ?_)
          refine s_call (us := []) (zs := []) (by kernel_rfl) rfl rfl (blkC hei w3 k5) ?_
          rintro _ w4 ⟨⟨t9, rfl, hB9⟩, k6⟩
          obtain ⟨f1, f2⟩ := bfin hei t9 hB9
          (repeat refine Zrc ?_)
          exact ret_1 rfl rfl ⟨⟨_, rfl, f1⟩, (kw.no k5).no k6⟩
    | _ => cases hi2
  | swh x th =>
    obtain ⟨hxa, hwa, hi1, hw1⟩ := hw
    obtain ⟨ho1, ho2, ho3⟩ := hok
    have hs1 : Sg S.ex lo (fl lo x) := hs.left
    have hs2 : Sg S.ex (lo + sz x) (fx (lo + sz x) th) := hs.right (fl_len x lo)
    have hy1 : SgY S.st ls (fy (lo + sz x) ls th) := hy.left
    have hza := Nat.le_trans (Sg.le hs1) hn
    have hta := eT_size hwa hza
    have hT : tY (.swh x th) false d = wWhile ++ 32 :: (eT x ++ 32 :: blk d (tY th false (d + 1))) := rfl
    rw [hT] at hz ⊢
    simp only [List.length_append, List.length_cons, show wWhile.length = 5 from rfl] at hz
    have hl : LI w (.slice la ln1 lc) (rys ls th) := hl
    subst hdI
    (repeat (first | refine Zr ?_ | refine c_t rfl ?_ | refine c_f rfl ?_))
    refine k_h (fun w' => Kp No w2 w') [(0, false), (1, false), (2, false), (6, false), (7, false), (8, false), (9, false), (3, true), (4, false), (5, false), (10, true), (11, false), (12, false)] 13 (by kernel_rfl) (by exact waits_none) (by kernel_rfl) (by kernel_rfl) rfl rfl (fun m1 k1 _ => ?_)
    (repeat (first | refine Zhq ?_ | refine Zhgn ?_ | refine Zhgu ?_ | refine Zhgv ?_))
    refine h_call (us := []) (zs := []) (by kernel_rfl) rfl rfl ((exprA x).1 lo _ _ _ m1 (tr2.kp k1) hs1 hxa hwa hza) ?_
    rintro _ m2 ⟨⟨s, rfl, hBs⟩, qs⟩
    have k3 := k1.no qs
    have hszs := szB hBs
    refine ⟨fun _ => k3, ?_⟩
    (repeat (first | refine Zhq ?_ | refine Zhgn ?_ | refine Zhgu ?_ | refine Zhgv ?_))
    refine h_call (us := []) (zs := []) (by kernel_rfl) rfl rfl (blockF (lo + sz x) ls (hE _ _) d d (k + 1) _ _ _ _ m2 (tr2.kp k3) hn hs2 hy1 hi1 hw1 ho3 rfl (by omega) ho2 (own_kp hl (k2.no k3) fun _ _ h => h) (by omega)) ?_
    rintro _ m3 ⟨⟨t, rfl, hBt⟩, qt⟩
    have k4 := k3.no qt
    have hszt := szB hBt
    refine ⟨fun _ => k4, ?_⟩
    (repeat (first | refine Zhq ?_ | refine Zhgn ?_ | refine Zhgu ?_ | refine Zhgv ?_))
    refine h_nil ?_
    (repeat refine Zr ?_)
    refine ret_1 rfl rfl ⟨⟨_, rfl, ?_⟩, k2.no k4⟩
    simp only [B_append, hBs, hBt]
    simp [B, wWhile]
  | brk =>
    (repeat (first | refine Zr ?_ | refine c_t rfl ?_ | refine c_f rfl ?_))
    exact ret_1 rfl rfl ⟨⟨_, rfl, rfl⟩, k2⟩
  | cnt =>
    (repeat (first | refine Zr ?_ | refine c_t rfl ?_ | refine c_f rfl ?_))
    exact ret_1 rfl rfl ⟨⟨_, rfl, rfl⟩, k2⟩
  | ret0 =>
    (repeat (first | refine Zr ?_ | refine c_t rfl ?_ | refine c_f rfl ?_))
    exact ret_1 rfl rfl ⟨⟨_, rfl, rfl⟩, k2⟩
  | ret x =>
    obtain ⟨hxa, hwa⟩ := hw
    have hs1 : Sg S.ex lo (fl lo x) := hs
    have hza := Nat.le_trans (Sg.le hs1) hn
    have hta := eT_size hwa hza
    have hsp := sz_pos hxa
    have hrt : 0 ≤ rt lo x := by unfold rt; omega
    (repeat (first | refine Zr ?_ | refine c_t rfl ?_ | refine c_f rfl ?_))
    refine c_f (congrArg Value.bool (decide_eq_false (by show ¬ rt lo x < 0; omega))) ?_
    (repeat refine Zr ?_)
    refine s_v (r_lwb rfl e2 rfl rfl) ?_
    (repeat refine Zr ?_)
    refine s_call (us := []) (zs := []) (by kernel_rfl) rfl rfl ((exprA x).1 lo _ _ _ w2 tr2 hs1 hxa hwa hza) ?_
    rintro _ m2 ⟨⟨s, rfl, hBs⟩, qs⟩
    have hszs := szB hBs
    (repeat refine Zrc ?_)
    refine ret_1 rfl rfl ⟨⟨_, rfl, ?_⟩, k2.no qs⟩
    simp only [B_append, hBs, tY]
    simp [B, wReturn]
  | prn x =>
    obtain ⟨hxa, hwa⟩ := hw
    have hs1 : Sg S.ex lo (fl lo x) := hs
    have hza := Nat.le_trans (Sg.le hs1) hn
    have hta := eT_size hwa hza
    (repeat (first | refine Zr ?_ | refine c_t rfl ?_ | refine c_f rfl ?_))
    refine s_v (r_lwb rfl e2 rfl rfl) ?_
    (repeat refine Zr ?_)
    refine s_call (us := []) (zs := []) (by kernel_rfl) rfl rfl ((exprA x).1 lo _ _ _ w2 tr2 hs1 hxa hwa hza) ?_
    rintro _ m2 ⟨⟨s, rfl, hBs⟩, qs⟩
    have hszs := szB hBs
    (repeat refine Zrc ?_)
    refine ret_1 rfl rfl ⟨⟨_, rfl, ?_⟩, k2.no qs⟩
    simp only [B_append, hBs, tY]
    simp [B, wPrint]
  | scl x =>
    obtain ⟨hxc, hwa⟩ := hw
    have hxa : isX x = true := by cases x <;> first | rfl | exact absurd hxc (by simp [isC])
    have hs1 : Sg S.ex lo (fl lo x) := hs
    have hza := Nat.le_trans (Sg.le hs1) hn
    have hta := eT_size hwa hza
    (repeat (first | refine Zr ?_ | refine c_t rfl ?_ | refine c_f rfl ?_))
    refine s_v (r_lwb rfl e2 rfl rfl) ?_
    (repeat refine Zr ?_)
    refine s_call (us := []) (zs := []) (by kernel_rfl) rfl rfl ((exprA x).1 lo _ _ _ w2 tr2 hs1 hxa hwa hza) ?_
    rintro _ m2 ⟨⟨s, rfl, hBs⟩, qs⟩
    have hszs := szB hBs
    (repeat refine Zrc ?_)
    refine ret_1 rfl rfl ⟨⟨_, rfl, ?_⟩, k2.no qs⟩
    simp only [B_append, hBs, tY]
    simp [B]
/-- Of any statement. -/
theorem stmtA {S : PS} : ∀ y : Y, SC S y ∧ RC S y := by
  intro y
  have no : ∀ {y : Y}, isY y = false → SC S y := fun h lo ls d dI k ux us uf w _ _ _ _ hy => by rw [h] at hy; cases hy
  induction y with
  | sif x th el ih1 ih2 => exact ⟨stmtF ⟨ih1.2, ih2.2⟩, fun lo ls p hp => by cases hp⟩
  | swh x th ih => exact ⟨stmtF ih.2, fun lo ls p hp => by cases hp⟩
  | nil => exact ⟨no rfl, fun lo ls p hp => by cases hp⟩
  | cons s l ihs ihl =>
    refine ⟨no rfl, fun lo ls p hp => ?_⟩
    rcases List.mem_cons.1 hp with rfl | hp
    · exact ihs.1
    · exact ihl.2 _ _ p hp
  | _ => exact ⟨stmtF trivial, fun lo ls p hp => by cases hp⟩
end Rp5
end Go.Proofs.YtfnbgbeinmekgaaGreatDoor
namespace Go.Proofs.YtfnbgbeinmekgaaGreatDoor
open Go Go.RowKit Fw Nu Sy Pt
set_option linter.unusedVariables false
set_option maxRecDepth 20000
namespace Rp5
theorem LS.at {w : World} {v : Value} {l : List (List Int)} (h : LS w v l) : ∃ a c, v = .slice a l.length c ∧ ∀ (j : Nat) x, l[j]? = some x → ∃ g, a = some ⟨g, 0, none⟩ ∧ w.cell? ⟨g, 0 + (j : Int).toNat * 1, none⟩ = some (.string (strOfNums x)) := by
  obtain ⟨a, c, e, hc1, h0, hc⟩ := own_read h
  subst e
  refine ⟨a, c, rfl, fun j x hj => ?_⟩
  have hjl := (List.getElem?_eq_some_iff.1 hj).1
  cases a with
  | none => have := h0 rfl; omega
  | some ad =>
    obtain ⟨g, rfl, _, _, hcell⟩ := hc _ rfl
    exact ⟨g, rfl, by rw [Nat.mul_one]; exact hcell _ _ (by rw [Int.toNat_natCast, List.getElem?_map, hj]; rfl)⟩
set_option maxHeartbeats 8000000 in
theorem PrintF {S : PS} {fs : List F} (hI : Is S fs) (ux us uf : Value) (w : World) (ht : Tr w ux us uf S) (hn : S.ex.length ≤ 20001) (hn2 : S.st.length ≤ 20001) :
    Ret Tryz.prog 15 [.agg #[ux, us, uf]] w fun v w1 => (∃ s, v = .string s ∧ B s = tP fs) ∧ Kp No w w1 := by
  obtain ⟨L, hL⟩ : ∃ L, elsF 0 0 fs = L := ⟨_, rfl⟩
  have hat := elsF_at fs 0 0 (ex := S.ex) (st := S.st) ⟨[], by rw [List.drop_zero, List.append_nil]; exact hI.ex⟩ ⟨[], by rw [List.drop_zero, List.append_nil]; exact hI.st⟩
  have hfs := elsF_fs fs 0 0
  have hfn := hI.fn
  rw [pF_els fs 0 0] at hfn
  rw [hL] at hat hfs hfn
  have hfl : S.fn.length = L.length := by have := congrArg List.length hfn; simpa using this
  have hL32 : L.length ≤ 32 := by have := hI.len; omega
  have hT : tP fs = L.flatMap fun p => tF p.2.2 := by rw [← hfs]; unfold tP; rw [List.flatMap_map]
  have hTl : (tP fs).length ≤ 100000000000 := by
    have := tP_len fs hI.wf
    have h1 := hI.px
    have h2 := hI.pz
    have h3 := hI.fl
    have h4 := hI.len
    rw [h1, h2] at this
    have h5 := Nat.mul_le_mul_right 400200000 (show fs.length ≤ 32 by omega)
    have h6 := Nat.mul_le_mul_right 20100 hn
    have h7 := Nat.mul_le_mul_right 21000 hn2
    omega
  obtain ⟨xa, sa, fa, xc, sc, fc, rfl, rfl, rfl⟩ := ht.val
  refine ret_enter Tryz.func15 rfl Tryz.ntmps15 rfl ?_
  (repeat refine Zr ?_)
  refine s_box (cs := [.slice xa S.ex.length xc, .slice sa S.st.length sc, .slice fa S.fn.length fc]) rfl rfl (fun b1 w1 n1 => ?_)
  have e1 : w1.heap[b1]? = some (.cells [.slice xa S.ex.length xc, .slice sa S.st.length sc, .slice fa S.fn.length fc].toArray 27 (0, 0)) := n1.blk
  have k1 := n1.kp
  (repeat refine Zr ?_)
  refine k_loop (σ := Nat × ByteArray) (fun t => [(1, .pointer (some ⟨b1, 0, none⟩)), (3, .string t.2), (9, .int .i64 (S.fn.length : Int)), (10, .int .i64 (t.1 : Int))])
    (fun t m => t.1 ≤ L.length ∧ Kp No w1 m ∧ B t.2 = (L.take t.1).flatMap fun p => tF p.2.2) (fun t => L.length - t.1) (0, ⟨#[]⟩) ⟨rfl, rfl, rfl, rfl, trivial⟩ ⟨Nat.zero_le _, Kp.refl _ _, empty_B⟩ ?_
  rintro ⟨j, s⟩ lr m ⟨hj, km, hB⟩
  simp only at hj hB
  (repeat refine Zr ?_)
  refine c_dec rfl (fun hlt => ?_) (fun hge => ?_)
  · obtain ⟨p, hp⟩ : ∃ p, L[j]? = some p := ⟨_, List.getElem?_eq_getElem (by omega)⟩
    have hpm := List.mem_of_getElem? hp
    obtain ⟨p1, p2, p3⟩ := hat p hpm
    have hwf := hI.wf _ p1
    obtain ⟨x, hx⟩ : ∃ x, S.fn[j]? = some x := ⟨_, List.getElem?_eq_getElem (by omega)⟩
    have hbx : bf x = { nm := p.2.2.nm, ps := p.2.2.ps, ty := p.2.2.ty, bd := rys p.2.1 p.2.2.bd } := by
      have := congrArg (fun l => l[j]?) hfn
      simpa [hx, hp] using this
    have hnm : x.nm = p.2.2.nm := (congrArg Fn.nm hbx : (bf x).nm = _)
    have hps : x.ps = p.2.2.ps := (congrArg Fn.ps hbx : (bf x).ps = _)
    have hty : x.ty = p.2.2.ty := (congrArg Fn.ty hbx : (bf x).ty = _)
    have hbd : x.bd = rys p.2.1 p.2.2.bd := (congrArg Fn.bd hbx : (bf x).bd = _)
    have kwm := k1.no km
    have trm := ht.kp kwm
    have e1 := km.get0 e1
    obtain ⟨g, lv, mv, rfl, hls, hli, hc⟩ := trm.fn hx
    rw [hps] at hls
    rw [hbd] at hli
    obtain ⟨la, lc, rfl, hlc⟩ := LS.at hls
    obtain ⟨ma, mc, rfl⟩ := Sy.LI.val hli
    have hfs2 := flat_take_succ (fun p : Nat × Nat × F => tF p.2.2) L j p hp
    have hfl2 := flat_take_le (fun p : Nat × Nat × F => tF p.2.2) L (j + 1)
    rw [hfs2, List.length_append, ← hT] at hfl2
    obtain ⟨A, hA⟩ : ∃ A, (L.take j).flatMap (fun p : Nat × Nat × F => tF p.2.2) = A := ⟨_, rfl⟩
    rw [hA] at hB hfl2 hfs2
    obtain ⟨Z, hZ⟩ : ∃ Z, (if p.2.2.ty = 1 then wInt ++ [32] else []) = Z := ⟨_, rfl⟩
    have hFl : (tF p.2.2).length = 4 + 1 + p.2.2.nm.length + 1 + (jnP p.2.2.ps).length + 2 + Z.length + (blk 0 (tY p.2.2.bd false 1)).length + 1 := by
      rw [← hZ]
      simp only [tF, List.length_append, List.length_cons, List.length_nil, show wFunc.length = 4 from rfl]; omega
    obtain ⟨hnB, hnz⟩ := nmB hwf.nm
    have hsz := szB hB
    have hjl := jnF_len hwf
    have hpl := hwf.pl
    (repeat refine Zr ?_)
    refine s_v (r_ia (size := 6) (i := j) rfl rfl rfl rfl (by omega) (by omega)) ?_
    refine s_v (r_lda (vs := fnC (x, .slice la p.2.2.ps.length lc, .slice ma (rys p.2.1 p.2.2.bd).length mc)) rfl rfl rfl rfl (cellsOf rfl hc)) ?_
    refine s_al rfl (fun b5 w5 n5 => ?_)
    have g5 := n5.ge
    refine s_st (vs := fnC (x, .slice la p.2.2.ps.length lc, .slice ma (rys p.2.1 p.2.2.bd).length mc)) rfl rfl rfl rfl rfl n5.blk (Nat.le_of_ble_eq_true rfl) (fun w6 s6 => ?_)
    have k6 : Kp No m w6 := n5.kp.trans s6.kp (fun _ _ e => by omega)
    have e6 : w6.heap[b5]? = some (.cells [.string (strOfNums p.2.2.nm), .int .i64 x.f, .int .i64 x.e, .slice la p.2.2.ps.length lc, .int .i64 p.2.2.ty, .slice ma (rys p.2.1 p.2.2.bd).length mc].toArray 62 (0, 0)) := by rw [← hnm, ← hty]; exact s6.blk
    have e1 := k6.get0 e1
    (repeat refine Zrc ?_)
    obtain ⟨s3, hs3, hB3⟩ : ∃ s3, ((s ++ ByteArray.mk #[102, 117, 110, 99, 32]) ++ strOfNums p.2.2.nm) ++ ByteArray.mk #[40] = s3 ∧ B s3 = A ++ (wFunc ++ 32 :: (p.2.2.nm ++ [40])) := ⟨_, rfl, by simp only [B_append, hB, hnB]; simp [B, wFunc]⟩
    rw [hs3]
    refine k_cutb (σ := ByteArray) (fun s' => [(1, .pointer (some ⟨b1, 0, none⟩)), (3, .string s'), (5, .pointer (some ⟨b5, 0, none⟩)), (9, .int .i64 (S.fn.length : Int)), (10, .int .i64 (j : Int))])
      (fun s' m' => Kp No w6 m' ∧ B s' = A ++ (wFunc ++ 32 :: (p.2.2.nm ++ 40 :: jnP p.2.2.ps))) ?_ ?_
    · refine k_loop (σ := Nat × ByteArray) (fun t => [(1, .pointer (some ⟨b1, 0, none⟩)), (3, .string t.2), (5, .pointer (some ⟨b5, 0, none⟩)), (9, .int .i64 (S.fn.length : Int)), (10, .int .i64 (j : Int)), (26, .int .i64 (p.2.2.ps.length : Int)), (27, .int .i64 (t.1 : Int))])
        (fun t m' => t.1 ≤ p.2.2.ps.length ∧ Kp No w6 m' ∧ B t.2 = A ++ (wFunc ++ 32 :: (p.2.2.nm ++ 40 :: jnP (p.2.2.ps.take t.1)))) (fun t => p.2.2.ps.length - t.1) (0, s3) ⟨rfl, rfl, rfl, rfl, rfl, rfl, rfl, trivial⟩ ⟨Nat.zero_le _, Kp.refl _ _, hB3⟩ ?_
      rintro ⟨q, t⟩ lr2 m' ⟨hq, km', hBt⟩
      simp only at hq hBt
      have hbl : (jnP (p.2.2.ps.take q)).length ≤ 400080000 := by
        have h1 := jnP_len (p.2.2.ps.take q) 20000 fun y hy => (hwf.ps y (List.mem_of_mem_take hy)).2
        have h2 : (p.2.2.ps.take q).length ≤ 20001 := by rw [List.length_take]; omega
        have h3 := Nat.mul_le_mul_right (20000 + 2) h2
        omega
      have htz := szB hBt
      simp only [List.length_append, List.length_cons, show wFunc.length = 4 from rfl] at htz
      (repeat refine Zr ?_)
      refine c_dec rfl (fun hlt2 => ?_) (fun hge2 => ?_)
      · obtain ⟨y, hy⟩ : ∃ y, p.2.2.ps[q]? = some y := ⟨_, List.getElem?_eq_getElem (by omega)⟩
        obtain ⟨hyB, hyz⟩ := nmB (hwf.ps y (List.mem_of_getElem? hy))
        obtain ⟨g7, rfl, hcy⟩ := hlc q y hy
        have hcy := km'.cell0 (k6.cell0 hcy)
        have e6' := km'.get0 e6
        (repeat refine Zr ?_)
        refine k_cutc (σ := ByteArray) (fun s' => [(1, .pointer (some ⟨b1, 0, none⟩)), (3, .string s'), (5, .pointer (some ⟨b5, 0, none⟩)), (6, .int .i64 (q : Int)), (9, .int .i64 (S.fn.length : Int)), (10, .int .i64 (j : Int)), (26, .int .i64 (p.2.2.ps.length : Int)), (27, .int .i64 (q : Int))])
          (fun s' m2 => Kp No m' m2 ∧ B s' = A ++ (wFunc ++ 32 :: (p.2.2.nm ++ 40 :: (if q = 0 then [] else jnP (p.2.2.ps.take q) ++ [44, 32])))) ?_ ?_
        · refine c_dec rfl (fun r => ?_) (fun r => ?_)
          · (repeat refine Zrc ?_)
            refine l_cut (t ++ ⟨#[44, 32]⟩) ⟨rfl, rfl, rfl, rfl, rfl, rfl, rfl, rfl, trivial⟩ ⟨Kp.refl _ _, ?_⟩
            rw [B_append, hBt, if_neg (by omega)]
            simp [B]
          · (repeat refine Zrc ?_)
            refine l_cut t ⟨rfl, rfl, rfl, rfl, rfl, rfl, rfl, rfl, trivial⟩ ⟨Kp.refl _ _, ?_⟩
            obtain rfl : q = 0 := by omega
            rw [hBt]; rfl
        rintro s' lr3 m2 ⟨km2, hBs'⟩
        have hsz' : s'.size ≤ 200000000000 := by
          rw [szB hBs']
          simp only [List.length_append, List.length_cons, show wFunc.length = 4 from rfl]
          have : (if q = 0 then ([] : List Int) else jnP (p.2.2.ps.take q) ++ [44, 32]).length ≤ 400080002 := by
            split
            · simp
            · rw [List.length_append]; simp only [List.length_cons, List.length_nil]; omega
          omega
        have e6' := km2.get0 e6'
        have hcy := km2.cell0 hcy
        (repeat refine Zrc ?_)
        refine s_v (r_ia (i := q) rfl rfl rfl rfl (by omega) (by omega)) ?_
        (repeat refine Zrc ?_)
        refine l_next (q + 1, s' ++ strOfNums y) ⟨rfl, rfl, rfl, rfl, rfl, rfl, rfl, trivial⟩ ⟨by simp only; omega, km'.no km2, ?_⟩ (by simp only; omega)
        simp only
        have e : p.2.2.ps.take (q + 1) = p.2.2.ps.take q ++ [y] := by rw [List.take_add_one, hy]; rfl
        have hlj : (p.2.2.ps.take q).length = q := by rw [List.length_take]; omega
        rw [B_append, hBs', hyB, e, jnP_snoc, hlj]
        simp
      · obtain rfl : q = p.2.2.ps.length := by omega
        rw [List.take_length] at hBt
        (repeat refine Zr ?_)
        exact l_cut t ⟨rfl, rfl, rfl, rfl, rfl, trivial⟩ ⟨km', hBt⟩
    rintro t lr2 m2 ⟨km2, hBt⟩
    have htz := szB hBt
    simp only [List.length_append, List.length_cons, show wFunc.length = 4 from rfl] at htz
    have e1 := km2.get0 e1
    have e6 := km2.get0 e6
    (repeat refine Zrc ?_)
    refine k_cutc (σ := ByteArray) (fun s' => [(1, .pointer (some ⟨b1, 0, none⟩)), (3, .string s'), (5, .pointer (some ⟨b5, 0, none⟩)), (9, .int .i64 (S.fn.length : Int)), (10, .int .i64 (j : Int))])
      (fun s' m3 => Kp No m2 m3 ∧ B s' = A ++ (wFunc ++ 32 :: (p.2.2.nm ++ 40 :: (jnP p.2.2.ps ++ 41 :: 32 :: Z)))) ?_ ?_
    · refine c_eq rfl (fun r => ?_) (fun r => ?_)
      · (repeat refine Zrc ?_)
        refine l_cut ((t ++ ⟨#[41, 32]⟩) ++ ⟨#[105, 110, 116, 32]⟩) ⟨rfl, rfl, rfl, rfl, rfl, trivial⟩ ⟨Kp.refl _ _, ?_⟩
        rw [← hZ, if_pos r, B_append, B_append, hBt]
        simp [B, wInt]
      · (repeat refine Zrc ?_)
        refine l_cut (t ++ ⟨#[41, 32]⟩) ⟨rfl, rfl, rfl, rfl, rfl, trivial⟩ ⟨Kp.refl _ _, ?_⟩
        rw [← hZ, if_neg r, B_append, hBt]
        simp [B]
    rintro s' lr3 m3 ⟨km3, hBs'⟩
    have hsz' := szB hBs'
    simp only [List.length_append, List.length_cons, show wFunc.length = 4 from rfl] at hsz'
    have e1 := km3.get0 e1
    have e6 := km3.get0 e6
    have kk := (k6.no km2).no km3
    (repeat refine Zr ?_)
    refine s_v (r_lwb rfl e1 rfl rfl) ?_
    (repeat refine Zr ?_)
    refine s_call (us := []) (zs := []) (by kernel_rfl) rfl rfl (blockF p.1 p.2.1 (fun r hr => (stmtA p.2.2.bd).2 _ _ r hr) 0 0 1 _ _ _ _ m3 (trm.kp kk) hn p2 p3 hwf.is hwf.wf hwf.ok rfl (by omega) (by omega) (own_kp hli kk fun _ _ h => h) (by have e0 : (blk 0 (tY p.2.2.bd false (0 + 1))).length = (blk 0 (tY p.2.2.bd false 1)).length := rfl; omega)) ?_
    rintro _ m4 ⟨⟨t4, rfl, hB4⟩, km4⟩
    have hB4 : B t4 = blk 0 (tY p.2.2.bd false 1) := hB4
    have hsz4 := szB hB4
    (repeat refine Zrc ?_)
    refine l_next (j + 1, (s' ++ t4) ++ ⟨#[10]⟩) ⟨rfl, rfl, rfl, rfl, trivial⟩ ⟨by simp only; omega, (km.no kk).no km4, ?_⟩ (by simp only; omega)
    simp only
    rw [hfs2, B_append, B_append, hBs', hB4]
    simp [tF, hZ, B]
  · obtain rfl : j = L.length := by omega
    rw [List.take_length, ← hT] at hB
    (repeat refine Zr ?_)
    exact ret_1 rfl rfl ⟨⟨_, rfl, hB⟩, k1.no km⟩
/-- An expression's text. -/
theorem ExprF {S : PS} {x : X} (lo : Nat) (ux us uf : Value) (w : World) (ht : Tr w ux us uf S) (hn : S.ex.length ≤ 20001) (hs : Sg S.ex lo (fl lo x)) (hx : isX x = true) (hw : wf x) :
    Ret Tryz.prog 14 [.agg #[ux, us, uf], .int .i64 (rt lo x)] w fun v w1 => (∃ s, v = .string s ∧ B s = eT x) ∧ Kp No w w1 :=
  (exprA x).1 lo _ _ _ w ht hs hx hw (Nat.le_trans (Sg.le hs) hn)
end Rp5
end Go.Proofs.YtfnbgbeinmekgaaGreatDoor
namespace Go.Proofs.YtfnbgbeinmekgaaGreatDoor
open Go Go.RowKit Fw
set_option linter.unusedVariables false
set_option maxRecDepth 20000
namespace Tk
theorem rletter (c : Int) (w : World) : Ret Tryz.prog 86 [.int .u8 c] w fun v w1 => v = .bool (lett c) ∧ w1 = w := by
  refine ret_enter Tryz.func86 rfl Tryz.ntmps86 rfl ?_
  (repeat refine Zr ?_)
  by_cases h1 : 97 ≤ c
  · refine s_set 5 true rfl (by simp [h1]) ?_
    (repeat (first | refine Zr ?_ | refine Zn ?_ | refine Zu ?_ | refine Zg ?_))
    by_cases h2 : c ≤ 122
    · refine s_set 9 true rfl (by simp [h2]) ?_
      (repeat (first | refine Zr ?_ | refine Zn ?_ | refine Zu ?_ | refine Zg ?_))
      refine ret_1 rfl rfl ⟨congrArg Value.bool ?_, rfl⟩
      simp [lett, h1, h2]
    · refine s_set 9 false rfl (by simp [h2]) ?_
      (repeat (first | refine Zr ?_ | refine Zn ?_ | refine Zu ?_ | refine Zg ?_))
      refine s_set 12 true rfl (by simp; omega) ?_
      (repeat (first | refine Zr ?_ | refine Zn ?_ | refine Zu ?_ | refine Zg ?_))
      refine s_set 17 false rfl (by simp; omega) ?_
      (repeat (first | refine Zr ?_ | refine Zn ?_ | refine Zu ?_ | refine Zg ?_))
      refine ret_1 rfl rfl ⟨congrArg Value.bool ?_, rfl⟩
      simp [lett, h2, show ¬ c ≤ 90 from by omega]
  · refine s_set 5 false rfl (by simp [h1]) ?_
    (repeat (first | refine Zr ?_ | refine Zn ?_ | refine Zu ?_ | refine Zg ?_))
    by_cases h3 : 65 ≤ c
    · refine s_set 12 true rfl (by simp [h3]) ?_
      (repeat (first | refine Zr ?_ | refine Zn ?_ | refine Zu ?_ | refine Zg ?_))
      by_cases h4 : c ≤ 90
      · refine s_set 17 true rfl (by simp [h4]) ?_
        (repeat (first | refine Zr ?_ | refine Zn ?_ | refine Zu ?_ | refine Zg ?_))
        refine ret_1 rfl rfl ⟨congrArg Value.bool ?_, rfl⟩
        simp [lett, h3, h4]
      · refine s_set 17 false rfl (by simp [h4]) ?_
        (repeat (first | refine Zr ?_ | refine Zn ?_ | refine Zu ?_ | refine Zg ?_))
        refine ret_1 rfl rfl ⟨congrArg Value.bool ?_, rfl⟩
        simp [lett, h1, h4]
    · refine s_set 12 false rfl (by simp [h3]) ?_
      (repeat (first | refine Zr ?_ | refine Zn ?_ | refine Zu ?_ | refine Zg ?_))
      refine ret_1 rfl rfl ⟨congrArg Value.bool ?_, rfl⟩
      simp [lett, h1, h3]
theorem rdigit (c : Int) (w : World) : Ret Tryz.prog 87 [.int .u8 c] w fun v w1 => v = .bool (digi c) ∧ w1 = w := by
  refine ret_enter Tryz.func87 rfl Tryz.ntmps87 rfl ?_
  (repeat refine Zr ?_)
  refine s_split 5 rfl (fun h5 => ?_) (fun h5 => ?_)
  · (repeat (first | refine Zr ?_ | refine Zn ?_ | refine Zu ?_ | refine Zg ?_))
    refine ret_1 rfl rfl ⟨congrArg Value.bool ?_, rfl⟩
    simp [digi, h5]
  · (repeat (first | refine Zr ?_ | refine Zn ?_ | refine Zu ?_ | refine Zg ?_))
    refine ret_1 rfl rfl ⟨congrArg Value.bool ?_, rfl⟩
    simp [digi, h5]
end Tk
end Go.Proofs.YtfnbgbeinmekgaaGreatDoor
namespace Go.Proofs.YtfnbgbeinmekgaaGreatDoor
open Go Go.RowKit Fw
set_option linter.unusedVariables false
set_option maxRecDepth 20000
namespace Tk
theorem rhas (ls : List ByteArray) (a : Option Addr) (c : Nat) (x : ByteArray) (w : World) (h : Rd w a ls) (hl : ls.length ≤ 1000) :
    Ret Tryz.prog 88 [.slice a ls.length c, .string x] w fun v w1 => v = .bool ((ls.map B).contains (B x)) ∧ w1 = w := by
  refine ret_enter Tryz.func88 rfl Tryz.ntmps88 rfl ?_
  (repeat refine Zr ?_)
  refine k_loop (σ := Nat) (fun t => [(0, .slice a ls.length c), (1, .string x), (7, .int .i64 ls.length), (8, .int .i64 t)]) (fun t w' => t ≤ ls.length ∧ (∀ j y, j < t → ls[j]? = some y → B y ≠ B x) ∧ w' = w) (fun t => ls.length - t) 0 ⟨rfl, rfl, rfl, rfl, trivial⟩ ⟨by omega, fun j y hj => by omega, rfl⟩ ?_
  rintro t l w ⟨ht, hne, rfl⟩
  (repeat refine Zr ?_)
  refine c_dec rfl (fun hlt => ?_) (fun hge => ?_)
  · obtain ⟨y, hy⟩ : ∃ y, ls[t]? = some y := ⟨_, List.getElem?_eq_getElem (by omega)⟩
    obtain ⟨b, o, rfl, hcy⟩ := h.at hy
    (repeat refine Zr ?_)
    refine s_v (r_ia rfl rfl rfl rfl (by omega) (by omega)) ?_
    (repeat refine Zr ?_)
    refine c_b rfl (fun he => ?_) (fun he => ?_)
    · rw [str_eq] at he
      (repeat refine Zr ?_)
      refine ret_1 rfl rfl ⟨congrArg Value.bool ?_, rfl⟩
      symm
      simp only [List.contains_iff_mem, List.mem_map]
      exact ⟨y, List.mem_of_getElem? hy, of_decide_eq_true he⟩
    · rw [str_eq] at he
      (repeat refine Zr ?_)
      refine l_next (t + 1) ⟨rfl, rfl, rfl, rfl, trivial⟩ ⟨by omega, fun j z hj hz => ?_, rfl⟩ (by omega)
      by_cases hjt : j = t
      · subst hjt; rw [hy] at hz; cases hz; exact of_decide_eq_false he
      · exact hne j z (by omega) hz
  · (repeat refine Zr ?_)
    refine ret_1 rfl rfl ⟨congrArg Value.bool ?_, rfl⟩
    symm
    rw [Bool.eq_false_iff]
    simp only [ne_eq, List.contains_iff_mem, List.mem_map, not_exists, not_and]
    intro y hy
    obtain ⟨j, hj⟩ := List.mem_iff_getElem?.1 hy
    exact hne j y (by have := (List.getElem?_eq_some_iff.1 hj).1; omega) hj
theorem rWords (w : World) : Ret Tryz.prog 89 [] w fun v w1 => ∃ b, v = .slice (some ⟨b, 0, none⟩) 13 13 ∧ Rd w1 (some ⟨b, 0, none⟩) wordsB ∧ Kp No w w1 ∧ w.heap.size ≤ b := by
  refine ret_enter Tryz.func89 rfl Tryz.ntmps89 rfl ?_
  (repeat refine Zr ?_)
  refine s_bs (cs := sc wordsB) (e := 9) (by kernel_rfl) (fun b w1 n1 => ?_)
  (repeat refine Zr ?_)
  refine ret_1 rfl rfl ⟨b, rfl, .inr ⟨b, 0, rfl, fun j s hj => blk_cells n1.blk j _ (sc_get hj)⟩, n1.kp, n1.ge⟩
set_option maxHeartbeats 1000000 in
theorem rSkip (s : ByteArray) (i : Nat) (w : World) (hs : s.size ≤ 1000000) (hi : i ≤ s.size) :
    Ret Tryz.prog 85 [.string s, .int .i64 i] w fun v w1 => v = .int .i64 ((i + sk false ((B s).drop i) : Nat) : Int) ∧ w1 = w := by
  refine ret_enter Tryz.func85 rfl Tryz.ntmps85 rfl ?_
  (repeat refine Zr ?_)
  refine k_loop (σ := Nat) (fun t => [(0, .string s), (1, .int .i64 t)]) (fun t w' => t ≤ s.size ∧ t + sk false ((B s).drop t) = i + sk false ((B s).drop i) ∧ w' = w) (fun t => s.size - t) i ⟨rfl, rfl, trivial⟩ ⟨hi, rfl, rfl⟩ ?_
  rintro t l w ⟨ht, he, rfl⟩
  (repeat refine Zr ?_)
  refine c_dec rfl (fun hlt => ?_) (fun hge => ?_)
  · have hlt' : t < s.size := by omega
    have hd := drop_at s t hlt'
    have hr := bt_range s t
    have hyes : blan (bt s t) = true → t + 1 + sk false ((B s).drop (t + 1)) = i + sk false ((B s).drop i) := fun h => by
      rw [hd, sk, if_pos h] at he; omega
    (repeat refine Zr ?_)
    refine s_v (r_ix rfl rfl rfl (by omega) (by omega)) ?_
    (repeat refine Zr ?_)
    refine s_split 13 rfl (fun h13 => ?_) (fun h13 => ?_)
    · (repeat (first | refine Zr ?_ | refine Zn ?_ | refine Zu ?_ | refine Zg ?_))
      refine c_t rfl ?_
      (repeat refine Zr ?_)
      exact l_next (t + 1) ⟨rfl, rfl, trivial⟩ ⟨by omega, hyes (by simp [blan, h13]), rfl⟩ (by omega)
    (repeat (first | refine Zr ?_ | refine Zn ?_ | refine Zu ?_ | refine Zg ?_))
    refine s_gv rfl (r_ix rfl rfl rfl (by omega) (by omega)) ?_
    (repeat (first | refine Zr ?_ | refine Zn ?_ | refine Zu ?_ | refine Zg ?_))
    refine s_split 19 rfl (fun h19 => ?_) (fun h19 => ?_)
    · (repeat (first | refine Zr ?_ | refine Zn ?_ | refine Zu ?_ | refine Zg ?_))
      refine c_t rfl ?_
      (repeat refine Zr ?_)
      exact l_next (t + 1) ⟨rfl, rfl, trivial⟩ ⟨by omega, hyes (by simp [blan, h19]), rfl⟩ (by omega)
    (repeat (first | refine Zr ?_ | refine Zn ?_ | refine Zu ?_ | refine Zg ?_))
    refine s_gv rfl (r_ix rfl rfl rfl (by omega) (by omega)) ?_
    (repeat (first | refine Zr ?_ | refine Zn ?_ | refine Zu ?_ | refine Zg ?_))
    refine s_split 25 rfl (fun h25 => ?_) (fun h25 => ?_)
    · (repeat (first | refine Zr ?_ | refine Zn ?_ | refine Zu ?_ | refine Zg ?_))
      refine c_t rfl ?_
      (repeat refine Zr ?_)
      exact l_next (t + 1) ⟨rfl, rfl, trivial⟩ ⟨by omega, hyes (by simp [blan, h25]), rfl⟩ (by omega)
    (repeat (first | refine Zr ?_ | refine Zn ?_ | refine Zu ?_ | refine Zg ?_))
    refine s_gv rfl (r_ix rfl rfl rfl (by omega) (by omega)) ?_
    (repeat (first | refine Zr ?_ | refine Zn ?_ | refine Zu ?_ | refine Zg ?_))
    refine c_eq rfl (fun h30 => ?_) (fun h30 => ?_)
    · (repeat refine Zr ?_)
      exact l_next (t + 1) ⟨rfl, rfl, trivial⟩ ⟨by omega, hyes (by simp [blan, h30]), rfl⟩ (by omega)
    have hno : ¬ blan (bt s t) = true := by simp [blan, h13, h19, h25, h30]
    rw [hd, sk, if_neg hno] at he
    (repeat refine Zr ?_)
    refine s_v (r_ix rfl rfl rfl (by omega) (by omega)) ?_
    (repeat refine Zr ?_)
    refine c_ne rfl (fun h35 => ?_) (fun h35 => ?_)
    · (repeat refine Zr ?_)
      rw [if_neg h35] at he
      exact ret_1 rfl rfl ⟨by rw [← he]; rfl, rfl⟩
    · rw [if_pos h35] at he
      have he' : t + sk true ((B s).drop t) = i + sk false ((B s).drop i) := by
        rw [hd, sk, if_neg (by omega)]; exact he
      (repeat refine Zr ?_)
      refine k_loop (σ := Nat) (fun t => [(0, .string s), (1, .int .i64 t)]) (fun u w' => t ≤ u ∧ u ≤ s.size ∧ u + sk true ((B s).drop u) = i + sk false ((B s).drop i) ∧ w' = w ∧ (u = t ∨ t < u)) (fun t => s.size - t) t ⟨rfl, rfl, trivial⟩ ⟨Nat.le_refl _, ht, he', rfl, .inl rfl⟩ ?_
      rintro u l w ⟨hu1, hu2, hu, rfl, hu3⟩
      (repeat refine Zr ?_)
      by_cases hult : u < s.size
      · refine s_set 42 true rfl (by simp; omega) ?_
        have hdu := drop_at s u hult
        (repeat (first | refine Zr ?_ | refine Zn ?_ | refine Zu ?_ | refine Zg ?_))
        refine s_gv rfl (r_ix rfl rfl rfl (by omega) (by omega)) ?_
        (repeat (first | refine Zr ?_ | refine Zn ?_ | refine Zu ?_ | refine Zg ?_))
        refine c_ne rfl (fun h10 => ?_) (fun h10 => ?_)
        · (repeat refine Zr ?_)
          rw [hdu, sk, if_neg h10] at hu
          exact l_next (u + 1) ⟨rfl, rfl, trivial⟩ ⟨by omega, by omega, by omega, rfl, by omega⟩ (by omega)
        · have hut : u ≠ t := fun e => by subst e; omega
          (repeat refine Zr ?_)
          refine l_next u ⟨rfl, rfl, trivial⟩ ⟨by omega, ?_, rfl⟩ (by omega)
          rw [hdu, sk, if_pos h10] at hu
          rw [hdu, sk, if_pos (by simp [blan, h10])]
          exact hu
      · refine s_set 42 false rfl (by simp; omega) ?_
        (repeat (first | refine Zr ?_ | refine Zn ?_ | refine Zu ?_ | refine Zg ?_))
        refine c_f rfl ?_
        (repeat refine Zr ?_)
        refine l_next u ⟨rfl, rfl, trivial⟩ ⟨by omega, ?_, rfl⟩ (by omega)
        rw [drop_end s u (by omega), sk] at hu ⊢
        exact hu
  · (repeat refine Zr ?_)
    rw [drop_end s t (by omega), sk] at he
    exact ret_1 rfl rfl ⟨by rw [← he]; rfl, rfl⟩
def onesB : List ByteArray := signsL.map fun c => strOf [c]
theorem B_ones : onesB.map B = signsL.map fun c => [c] := by kernel_rfl
theorem two_eq (L : List Int) (h : 2 ≤ L.length) : pairsL.contains (L.take 2) = pairsL.any (fun p => p.isPrefixOf L) := by
  rw [Bool.eq_iff_iff, List.any_eq_true, List.contains_iff_mem]
  have h2 : ∀ p ∈ pairsL, p.length = 2 := by decide
  constructor
  · intro hm
    exact ⟨_, hm, List.isPrefixOf_iff_prefix.2 (List.take_prefix _ _)⟩
  · rintro ⟨p, hp, hq⟩
    have := List.prefix_iff_eq_take.1 (List.isPrefixOf_iff_prefix.1 hq)
    rw [h2 p hp] at this
    rw [← this]; exact hp
theorem one_eq (c : Int) (r : List Int) : (signsL.map fun c => [c]).contains ((c :: r).take 1) = signsL.contains c := by
  rw [Bool.eq_iff_iff, List.contains_iff_mem, List.contains_iff_mem, List.mem_map]
  constructor
  · rintro ⟨x, hx, h⟩; simp at h; subst h; exact hx
  · intro h; exact ⟨c, h, by simp⟩
set_option maxHeartbeats 2000000 in
set_option maxRecDepth 100000 in
theorem rNext (s : ByteArray) (i : Nat) (w : World) (hs : s.size ≤ 1000000) (hi : i ≤ s.size) :
    Ret Tryz.prog 55 [.string s, .int .i64 i] w fun v w1 => v = nxV s i ∧ Kp No w w1 := by
  refine ret_enter Tryz.func55 rfl Tryz.ntmps55 rfl ?_
  (repeat refine Zr ?_)
  refine s_al rfl (fun b4 w1 n1 => ?_)
  (repeat refine Zr ?_)
  refine s_call (us := []) (zs := []) (by kernel_rfl) rfl rfl (rSkip s i w1 hs hi) ?_
  rintro _ w2 ⟨rfl, rfl⟩
  obtain ⟨j, hj⟩ : ∃ j, j = i + sk false ((B s).drop i) := ⟨_, rfl⟩
  have hjl : j ≤ s.size := by
    have := sk_le ((B s).drop i) false
    rw [List.length_drop, B_len] at this; omega
  rw [← hj]
  have y1 := n1.ge
  have x1 := n1.lt
  have z1 := n1.kp.size
  have b4' := n1.blk
  have ag : ∀ w', Kp No w2 w' → w'.heap[b4]? = some (.cells [.int .i64 0, .int .i64 0, .int .i64 0].toArray 64 (0, 0)) := fun w' k => k.get0 b4'
  have kw2 := n1.kp
  clear b4' n1
  (repeat refine Zr ?_)
  refine c_eq rfl (fun hend => ?_) (fun hne => ?_)
  · (repeat refine Zr ?_)
    refine s_st rfl rfl rfl rfl rfl (ag w2 (Kp.refl _ _)) (Nat.le_of_ble_eq_true rfl) (fun w5 s5 => ?_)
    (repeat refine Zr ?_)
    refine ret_c2 rfl (rv_ag (vs := [.int .i64 0, .int .i64 j, .int .i64 j]) rfl rfl rfl s5.blk rfl rfl) (rv_t rfl) ⟨nxV_of (ok := true) (m := 0) hj ?_ rfl rfl (by simp), kw2.trans s5.kp (fun _ _ e => by omega)⟩
    rw [drop_end s j (by omega)]; rfl
  have hlt : j < s.size := by omega
  have hd := drop_at s j hlt
  have hr := bt_range s j
  (repeat refine Zr ?_)
  refine s_v (r_ix rfl rfl rfl (by omega) (by omega)) ?_
  refine s_call (us := []) (zs := []) (by kernel_rfl) rfl rfl (rletter (bt s j) w2) ?_
  rintro _ w5 ⟨rfl, rfl⟩
  (repeat refine Zr ?_)
  refine c_b rfl (fun hl => ?_) (fun hl => ?_)
  · obtain ⟨m, hm⟩ : ∃ m, rn eith ((B s).drop j) = m := ⟨_, rfl⟩
    have hm0 : 0 < m := by rw [← hm, hd]; exact rn_pos (by simp [eith, hl])
    have hml : j + m ≤ s.size := by
      have := rn_le eith ((B s).drop j)
      rw [List.length_drop, B_len, hm] at this; omega
    have hx : B (s.extract j (j + m)) = ((B s).drop j).take m := by rw [B_extract, List.drop_take]; congr 1; omega
    (repeat refine Zr ?_)
    refine k_cutb (σ := Unit) (fun _ => [(0, .string s), (1, .int .i64 j), (4, .pointer (some ⟨b4, 0, none⟩)), (6, .int .i64 ((j + m : Nat) : Int))]) (fun _ w' => w' = w5) ?_ ?_
    · refine k_loop (σ := Nat) (fun t => [(0, .string s), (1, .int .i64 j), (4, .pointer (some ⟨b4, 0, none⟩)), (6, .int .i64 t)]) (fun t w' => t ≤ s.size ∧ t + rn eith ((B s).drop t) = j + m ∧ w' = w5) (fun t => s.size - t) j ⟨rfl, rfl, rfl, rfl, trivial⟩ ⟨hjl, by rw [hm], rfl⟩ ?_
      rintro t l w5 ⟨ht, he, rfl⟩
      (repeat refine Zr ?_)
      by_cases hlt2 : t < s.size
      · have hdt := drop_at s t hlt2
        have hrt := bt_range s t
        rw [hdt, rn] at he
        refine s_set 29 true rfl (by simp; omega) ?_
        (repeat (first | refine Zr ?_ | refine Zn ?_ | refine Zu ?_ | refine Zg ?_))
        refine s_gv rfl (r_ix rfl rfl rfl (by omega) (by omega)) ?_
        refine s_gcall (us := []) (zs := []) rfl (by kernel_rfl) rfl rfl (rletter (bt s t) w5) ?_
        rintro _ w6 ⟨rfl, rfl⟩
        (repeat (first | refine Zr ?_ | refine Zn ?_ | refine Zu ?_ | refine Zg ?_))
        refine s_split 34 rfl (fun h34 => ?_) (fun h34 => ?_)
        · rw [if_pos (by simp [eith, h34])] at he
          (repeat (first | refine Zr ?_ | refine Zn ?_ | refine Zu ?_ | refine Zg ?_))
          refine c_t rfl ?_
          (repeat refine Zr ?_)
          exact l_next (t + 1) ⟨rfl, rfl, rfl, rfl, trivial⟩ ⟨by omega, by omega, rfl⟩ (by omega)
        · (repeat (first | refine Zr ?_ | refine Zn ?_ | refine Zu ?_ | refine Zg ?_))
          refine s_gv rfl (r_ix rfl rfl rfl (by omega) (by omega)) ?_
          refine s_gcall (us := []) (zs := []) rfl (by kernel_rfl) rfl rfl (rdigit (bt s t) w6) ?_
          rintro _ w7 ⟨rfl, rfl⟩
          (repeat (first | refine Zr ?_ | refine Zn ?_ | refine Zu ?_ | refine Zg ?_))
          refine c_b rfl (fun hdg => ?_) (fun hdg => ?_)
          · rw [if_pos (by simp [eith, hdg])] at he
            (repeat refine Zr ?_)
            exact l_next (t + 1) ⟨rfl, rfl, rfl, rfl, trivial⟩ ⟨by omega, by omega, rfl⟩ (by omega)
          · rw [if_neg (by simp [eith, h34, hdg])] at he
            have htt : t = j + m := by omega
            subst htt
            (repeat refine Zr ?_)
            exact l_cut () ⟨rfl, rfl, rfl, rfl, trivial⟩ rfl
      · rw [drop_end s t (by omega), rn] at he
        have htt : t = j + m := by omega
        subst htt
        refine s_set 29 false rfl (by simp; omega) ?_
        (repeat (first | refine Zr ?_ | refine Zn ?_ | refine Zu ?_ | refine Zg ?_))
        refine c_f rfl ?_
        (repeat refine Zr ?_)
        exact l_cut () ⟨rfl, rfl, rfl, rfl, trivial⟩ rfl
    rintro _ l w6 rfl
    (repeat refine Zr ?_)
    refine k_h (fun w' => Kp No w6 w') [(1, false), (2, false), (3, false), (4, false), (0, true), (5, true)] 5 (by kernel_rfl) (by exact waits_of_last (by kernel_rfl)) (by kernel_rfl) (by kernel_rfl) rfl rfl ?_
    intro w7 k7 e7
    refine h_v k7 (fun w' hw => r_mv rfl) ?_
    refine h_v k7 (fun w' hw => r_mv rfl) ?_
    refine h_v k7 (fun w' hw => r_mv rfl) ?_
    refine h_v k7 (fun w' hw => r_ss rfl rfl rfl rfl (by omega) (by omega) (by omega)) ?_
    refine h_call (us := []) (zs := []) (by kernel_rfl) rfl rfl (rWords w7) ?_
    rintro _ w8 ⟨bw, rfl, hrd, k8, g8⟩
    refine ⟨fun _ => k7.no k8, ?_⟩
    refine h_call (us := []) (zs := []) (by kernel_rfl) rfl rfl (rhas wordsB (some ⟨bw, 0, none⟩) 13 (s.extract j (j + m)) w8 hrd (by decide +kernel)) ?_
    rintro _ w9 ⟨rfl, rfl⟩
    refine ⟨fun h => absurd rfl h, ?_⟩
    refine h_nil ?_
    rw [B_words, hx]
    have k9 : Kp No w6 w9 := k7.no k8
    have kw9 := kw2.no k9
    (repeat refine Zr ?_)
    refine c_b rfl (fun hw => ?_) (fun hw => ?_)
    · (repeat refine Zr ?_)
      refine s_st rfl rfl rfl rfl rfl (ag w9 k9) (Nat.le_of_ble_eq_true rfl) (fun w10 s10 => ?_)
      (repeat refine Zr ?_)
      refine ret_c2 rfl (rv_ag (vs := [.int .i64 3, .int .i64 j, .int .i64 ((j + m : Nat) : Int)]) rfl rfl rfl s10.blk rfl rfl) (rv_t rfl) ⟨nxV_of (ok := true) (m := m) hj ?_ rfl rfl rfl, kw9.trans s10.kp (fun _ _ e => by omega)⟩
      rw [← hm] at hw ⊢
      rw [hd] at hw ⊢
      rw [body, if_pos hl, if_pos hw]
    · (repeat refine Zr ?_)
      refine s_st rfl rfl rfl rfl rfl (ag w9 k9) (Nat.le_of_ble_eq_true rfl) (fun w10 s10 => ?_)
      (repeat refine Zr ?_)
      refine ret_c2 rfl (rv_ag (vs := [.int .i64 1, .int .i64 j, .int .i64 ((j + m : Nat) : Int)]) rfl rfl rfl s10.blk rfl rfl) (rv_t rfl) ⟨nxV_of (ok := true) (m := m) hj ?_ rfl rfl rfl, kw9.trans s10.kp (fun _ _ e => by omega)⟩
      rw [← hm] at hw ⊢
      rw [hd] at hw ⊢
      rw [body, if_pos hl, if_neg (by rw [hw]; exact Bool.false_ne_true)]
  have hl' : ¬ lett (bt s j) = true := by rw [hl]; exact Bool.false_ne_true
  (repeat refine Zr ?_)
  refine s_v (r_ix rfl rfl rfl (by omega) (by omega)) ?_
  refine s_call (us := []) (zs := []) (by kernel_rfl) rfl rfl (rdigit (bt s j) w5) ?_
  rintro _ w6 ⟨rfl, rfl⟩
  (repeat refine Zr ?_)
  refine c_b rfl (fun hg => ?_) (fun hg => ?_)
  · obtain ⟨m, hm⟩ : ∃ m, rn digi ((B s).drop j) = m := ⟨_, rfl⟩
    have hm0 : 0 < m := by rw [← hm, hd]; exact rn_pos hg
    have hml : j + m ≤ s.size := by
      have := rn_le digi ((B s).drop j)
      rw [List.length_drop, B_len, hm] at this; omega
    have hbody : body ((B s).drop j) = if m ≤ 18 ∧ (m = 1 ∨ bt s j ≠ 48) ∧ rn lett (((B s).drop j).drop m) = 0 then (true, 2, m) else (false, 0, 0) := by
      rw [← hm, hd, body, if_neg hl', if_pos hg]
    rw [List.drop_drop] at hbody
    (repeat refine Zr ?_)
    refine k_cutb (σ := Unit) (fun _ => [(0, .string s), (1, .int .i64 j), (4, .pointer (some ⟨b4, 0, none⟩)), (6, .int .i64 ((j + m : Nat) : Int))]) (fun _ w' => w' = w6) ?_ ?_
    · refine k_loop (σ := Nat) (fun t => [(0, .string s), (1, .int .i64 j), (4, .pointer (some ⟨b4, 0, none⟩)), (6, .int .i64 t)]) (fun t w' => t ≤ s.size ∧ t + rn digi ((B s).drop t) = j + m ∧ w' = w6) (fun t => s.size - t) j ⟨rfl, rfl, rfl, rfl, trivial⟩ ⟨hjl, by rw [hm], rfl⟩ ?_
      rintro t l w6 ⟨ht, he, rfl⟩
      (repeat refine Zr ?_)
      by_cases hlt2 : t < s.size
      · have hdt := drop_at s t hlt2
        rw [hdt, rn] at he
        refine s_set 65 true rfl (by simp; omega) ?_
        (repeat (first | refine Zr ?_ | refine Zn ?_ | refine Zu ?_ | refine Zg ?_))
        refine s_gv rfl (r_ix rfl rfl rfl (by omega) (by omega)) ?_
        refine s_gcall (us := []) (zs := []) rfl (by kernel_rfl) rfl rfl (rdigit (bt s t) w6) ?_
        rintro _ w7 ⟨rfl, rfl⟩
        (repeat (first | refine Zr ?_ | refine Zn ?_ | refine Zu ?_ | refine Zg ?_))
        refine c_b rfl (fun hdg => ?_) (fun hdg => ?_)
        · rw [if_pos hdg] at he
          (repeat refine Zr ?_)
          exact l_next (t + 1) ⟨rfl, rfl, rfl, rfl, trivial⟩ ⟨by omega, by omega, rfl⟩ (by omega)
        · rw [if_neg (by rw [hdg]; exact Bool.false_ne_true)] at he
          have htt : t = j + m := by omega
          subst htt
          (repeat refine Zr ?_)
          exact l_cut () ⟨rfl, rfl, rfl, rfl, trivial⟩ rfl
      · rw [drop_end s t (by omega), rn] at he
        have htt : t = j + m := by omega
        subst htt
        refine s_set 65 false rfl (by simp; omega) ?_
        (repeat (first | refine Zr ?_ | refine Zn ?_ | refine Zu ?_ | refine Zg ?_))
        refine c_f rfl ?_
        (repeat refine Zr ?_)
        exact l_cut () ⟨rfl, rfl, rfl, rfl, trivial⟩ rfl
    rintro _ l w5 rfl
    have k5 : Kp No w5 w5 := Kp.refl _ _
    have kw5 := kw2
    (repeat refine Zr ?_)
    by_cases h18 : m ≤ 18
    · refine s_set 77 false rfl (by simp; omega) ?_
      (repeat (first | refine Zr ?_ | refine Zn ?_ | refine Zu ?_ | refine Zg ?_))
      by_cases h1m : m = 1
      · refine s_set 82 false rfl (by simp; omega) ?_
        (repeat (first | refine Zr ?_ | refine Zn ?_ | refine Zu ?_ | refine Zg ?_))
        by_cases hlt2 : j + m < s.size
        · refine s_set 94 true rfl (by simp; omega) ?_
          have hd2 := drop_at s (j + m) hlt2
          (repeat (first | refine Zr ?_ | refine Zn ?_ | refine Zu ?_ | refine Zg ?_))
          refine s_gv rfl (r_ix rfl rfl rfl (by omega) (by omega)) ?_
          refine s_gcall (us := []) (zs := []) rfl (by kernel_rfl) rfl rfl (rletter (bt s ((j + m : Nat) : Int)) w5) ?_
          rintro _ w6 ⟨rfl, rfl⟩
          (repeat (first | refine Zr ?_ | refine Zn ?_ | refine Zu ?_ | refine Zg ?_))
          refine c_b rfl (fun hlt3 => ?_) (fun hlt3 => ?_)
          · (repeat refine Zr ?_)
            refine s_st rfl rfl rfl rfl rfl (ag w6 k5) (Nat.le_of_ble_eq_true rfl) (fun w11 s11 => ?_)
            (repeat refine Zr ?_)
            refine ret_c2 rfl (rv_ag (vs := [.int .i64 0, .int .i64 j, .int .i64 j]) rfl rfl rfl s11.blk rfl rfl) (rv_t rfl) ⟨nxV_of (ok := false) (m := 0) hj ?_ rfl rfl (by simp), (kw5).trans s11.kp (fun _ _ e => by omega)⟩
            rw [hbody, if_neg (by rintro ⟨h1, h2, h3⟩; rw [hd2, rn, if_pos hlt3] at h3; omega)]
          · (repeat refine Zr ?_)
            refine s_st rfl rfl rfl rfl rfl (ag w6 k5) (Nat.le_of_ble_eq_true rfl) (fun w11 s11 => ?_)
            (repeat refine Zr ?_)
            refine ret_c2 rfl (rv_ag (vs := [.int .i64 2, .int .i64 j, .int .i64 ((j + m : Nat) : Int)]) rfl rfl rfl s11.blk rfl rfl) (rv_t rfl) ⟨nxV_of (ok := true) (m := m) hj ?_ rfl rfl rfl, (kw5).trans s11.kp (fun _ _ e => by omega)⟩
            rw [hbody, if_pos ⟨h18, .inl h1m, by rw [hd2, rn, if_neg (by rw [hlt3]; exact Bool.false_ne_true)]⟩]
        · refine s_set 94 false rfl (by simp; omega) ?_
          have hd2 := drop_end s (j + m) (by omega)
          (repeat (first | refine Zr ?_ | refine Zn ?_ | refine Zu ?_ | refine Zg ?_))
          refine c_f rfl ?_
          (repeat refine Zr ?_)
          refine s_st rfl rfl rfl rfl rfl (ag w5 k5) (Nat.le_of_ble_eq_true rfl) (fun w11 s11 => ?_)
          (repeat refine Zr ?_)
          refine ret_c2 rfl (rv_ag (vs := [.int .i64 2, .int .i64 j, .int .i64 ((j + m : Nat) : Int)]) rfl rfl rfl s11.blk rfl rfl) (rv_t rfl) ⟨nxV_of (ok := true) (m := m) hj ?_ rfl rfl rfl, (kw5).trans s11.kp (fun _ _ e => by omega)⟩
          rw [hbody, if_pos ⟨h18, .inl h1m, by rw [hd2]; rfl⟩]
      · refine s_set 82 true rfl (by simp; omega) ?_
        (repeat (first | refine Zr ?_ | refine Zn ?_ | refine Zu ?_ | refine Zg ?_))
        refine s_gv rfl (r_ix rfl rfl rfl (by omega) (by omega)) ?_
        (repeat (first | refine Zr ?_ | refine Zn ?_ | refine Zu ?_ | refine Zg ?_))
        by_cases h48 : bt s j = 48
        · refine s_set 89 true rfl (by simp [h48]) ?_
          (repeat (first | refine Zr ?_ | refine Zn ?_ | refine Zu ?_ | refine Zg ?_))
          refine c_t rfl ?_
          (repeat refine Zr ?_)
          refine s_st rfl rfl rfl rfl rfl (ag w5 k5) (Nat.le_of_ble_eq_true rfl) (fun w11 s11 => ?_)
          (repeat refine Zr ?_)
          refine ret_c2 rfl (rv_ag (vs := [.int .i64 0, .int .i64 j, .int .i64 j]) rfl rfl rfl s11.blk rfl rfl) (rv_t rfl) ⟨nxV_of (ok := false) (m := 0) hj ?_ rfl rfl (by simp), (kw5).trans s11.kp (fun _ _ e => by omega)⟩
          rw [hbody, if_neg (by rintro ⟨h1, h2, h3⟩; rcases h2 with h2 | h2 <;> omega)]
        · refine s_set 89 false rfl (by simp [h48]) ?_
          (repeat (first | refine Zr ?_ | refine Zn ?_ | refine Zu ?_ | refine Zg ?_))
          by_cases hlt2 : j + m < s.size
          · refine s_set 94 true rfl (by simp; omega) ?_
            have hd2 := drop_at s (j + m) hlt2
            (repeat (first | refine Zr ?_ | refine Zn ?_ | refine Zu ?_ | refine Zg ?_))
            refine s_gv rfl (r_ix rfl rfl rfl (by omega) (by omega)) ?_
            refine s_gcall (us := []) (zs := []) rfl (by kernel_rfl) rfl rfl (rletter (bt s ((j + m : Nat) : Int)) w5) ?_
            rintro _ w6 ⟨rfl, rfl⟩
            (repeat (first | refine Zr ?_ | refine Zn ?_ | refine Zu ?_ | refine Zg ?_))
            refine c_b rfl (fun hlt3 => ?_) (fun hlt3 => ?_)
            · (repeat refine Zr ?_)
              refine s_st rfl rfl rfl rfl rfl (ag w6 k5) (Nat.le_of_ble_eq_true rfl) (fun w11 s11 => ?_)
              (repeat refine Zr ?_)
              refine ret_c2 rfl (rv_ag (vs := [.int .i64 0, .int .i64 j, .int .i64 j]) rfl rfl rfl s11.blk rfl rfl) (rv_t rfl) ⟨nxV_of (ok := false) (m := 0) hj ?_ rfl rfl (by simp), (kw5).trans s11.kp (fun _ _ e => by omega)⟩
              rw [hbody, if_neg (by rintro ⟨h1, h2, h3⟩; rw [hd2, rn, if_pos hlt3] at h3; omega)]
            · (repeat refine Zr ?_)
              refine s_st rfl rfl rfl rfl rfl (ag w6 k5) (Nat.le_of_ble_eq_true rfl) (fun w11 s11 => ?_)
              (repeat refine Zr ?_)
              refine ret_c2 rfl (rv_ag (vs := [.int .i64 2, .int .i64 j, .int .i64 ((j + m : Nat) : Int)]) rfl rfl rfl s11.blk rfl rfl) (rv_t rfl) ⟨nxV_of (ok := true) (m := m) hj ?_ rfl rfl rfl, (kw5).trans s11.kp (fun _ _ e => by omega)⟩
              rw [hbody, if_pos ⟨h18, .inr h48, by rw [hd2, rn, if_neg (by rw [hlt3]; exact Bool.false_ne_true)]⟩]
          · refine s_set 94 false rfl (by simp; omega) ?_
            have hd2 := drop_end s (j + m) (by omega)
            (repeat (first | refine Zr ?_ | refine Zn ?_ | refine Zu ?_ | refine Zg ?_))
            refine c_f rfl ?_
            (repeat refine Zr ?_)
            refine s_st rfl rfl rfl rfl rfl (ag w5 k5) (Nat.le_of_ble_eq_true rfl) (fun w11 s11 => ?_)
            (repeat refine Zr ?_)
            refine ret_c2 rfl (rv_ag (vs := [.int .i64 2, .int .i64 j, .int .i64 ((j + m : Nat) : Int)]) rfl rfl rfl s11.blk rfl rfl) (rv_t rfl) ⟨nxV_of (ok := true) (m := m) hj ?_ rfl rfl rfl, (kw5).trans s11.kp (fun _ _ e => by omega)⟩
            rw [hbody, if_pos ⟨h18, .inr h48, by rw [hd2]; rfl⟩]
    · refine s_set 77 true rfl (by simp; omega) ?_
      (repeat (first | refine Zr ?_ | refine Zn ?_ | refine Zu ?_ | refine Zg ?_))
      refine c_t rfl ?_
      (repeat refine Zr ?_)
      refine s_st rfl rfl rfl rfl rfl (ag w5 k5) (Nat.le_of_ble_eq_true rfl) (fun w11 s11 => ?_)
      (repeat refine Zr ?_)
      refine ret_c2 rfl (rv_ag (vs := [.int .i64 0, .int .i64 j, .int .i64 j]) rfl rfl rfl s11.blk rfl rfl) (rv_t rfl) ⟨nxV_of (ok := false) (m := 0) hj ?_ rfl rfl (by simp), (kw5).trans s11.kp (fun _ _ e => by omega)⟩
      rw [hbody, if_neg (by rintro ⟨h1, h2, h3⟩; omega)]
  · have hg' : ¬ digi (bt s j) = true := by rw [hg]; exact Bool.false_ne_true
    obtain ⟨m, hm⟩ : ∃ m, sg ((B s).drop j) = m := ⟨_, rfl⟩
    have hbody : body ((B s).drop j) = if m = 0 then (false, 0, 0) else (true, 4, m) := by
      rw [← hm, hd, body, if_neg hl', if_neg hg']
    have hx2 : B (s.extract j (j + 2)) = ((B s).drop j).take 2 := by rw [B_extract, List.drop_take]; congr 1; omega
    have hx1 : B (s.extract j (j + 1)) = ((B s).drop j).take 1 := by rw [B_extract, List.drop_take]; congr 1; omega
    (repeat refine Zr ?_)
    refine s_bs (cs := sc pairsB) (e := 9) (by kernel_rfl) (fun b7 w7 n7 => ?_)
    (repeat refine Zr ?_)
    refine s_bs (cs := sc onesB) (e := 9) (by kernel_rfl) (fun b8 w8 n8 => ?_)
    have hp8 : Rd w8 (some ⟨b7, 0, none⟩) pairsB := .inr ⟨b7, 0, rfl, fun j s hj => n8.kp.cell0 (blk_cells n7.blk j _ (sc_get hj))⟩
    have ho8 : Rd w8 (some ⟨b8, 0, none⟩) onesB := .inr ⟨b8, 0, rfl, fun j s hj => blk_cells n8.blk j _ (sc_get hj)⟩
    have k8 : Kp No w6 w8 := n7.kp.no n8.kp
    have kw8 := kw2.no k8
    refine s_v (r_as rfl) ?_
    refine k_nil ?_
    refine k_n ?_
    refine k_cut (σ := Unit) (fun _ => [(0, .string s), (1, .int .i64 j), (4, .pointer (some ⟨b4, 0, none⟩)), (6, .int .i64 ((j + m : Nat) : Int))]) (fun _ w' => w' = w8) ?_ ?_
    · (repeat refine Zr ?_)
      by_cases h2 : j + 2 ≤ s.size
      · refine s_set 116 true rfl (by simp; omega) ?_
        (repeat (first | refine Zr ?_ | refine Zn ?_ | refine Zu ?_ | refine Zg ?_))
        refine s_gv rfl (r_ss rfl rfl rfl rfl (by omega) (by omega) (by omega)) ?_
        refine s_gcall (us := []) (zs := []) rfl (by kernel_rfl) rfl rfl (rhas pairsB (some ⟨b7, 0, none⟩) 6 (s.extract j (j + 2)) w8 hp8 (by decide +kernel)) ?_
        rintro _ w9 ⟨rfl, rfl⟩
        rw [B_pairs, hx2, two_eq _ (by rw [List.length_drop, B_len]; omega)]
        (repeat (first | refine Zr ?_ | refine Zn ?_ | refine Zu ?_ | refine Zg ?_))
        refine c_b rfl (fun hy => ?_) (fun hn => ?_)
        · have hm2 : m = 2 := by rw [← hm, sg_2 hy]
          (repeat refine Zr ?_)
          refine l_cut () ⟨rfl, rfl, rfl, ?_, trivial⟩ rfl
          rw [hm2]; rfl
        · (repeat refine Zr ?_)
          refine s_v (r_ss rfl rfl rfl rfl (by omega) (by omega) (by omega)) ?_
          refine s_call (us := []) (zs := []) (by kernel_rfl) rfl rfl (rhas onesB (some ⟨b8, 0, none⟩) 17 (s.extract j (j + 1)) w9 ho8 (by decide +kernel)) ?_
          rintro _ w10 ⟨rfl, rfl⟩
          rw [B_ones, hx1, hd, one_eq]
          rw [hd] at hn
          (repeat refine Zr ?_)
          refine c_b rfl (fun h1 => ?_) (fun h1 => ?_)
          · have hm2 : m = 1 := by rw [← hm, hd, sg_1 hn h1]
            (repeat refine Zr ?_)
            refine l_cut () ⟨rfl, rfl, rfl, ?_, trivial⟩ rfl
            rw [hm2]; rfl
          · have hm2 : m = 0 := by rw [← hm, hd, sg_0 hn h1]
            (repeat refine Zr ?_)
            refine l_cut () ⟨rfl, rfl, rfl, ?_, trivial⟩ rfl
            rw [hm2]; rfl
      · have hn := two_no ((B s).drop j) (by rw [List.length_drop, B_len]; omega)
        refine s_set 116 false rfl (by simp; omega) ?_
        (repeat (first | refine Zr ?_ | refine Zn ?_ | refine Zu ?_ | refine Zg ?_))
        refine c_f rfl ?_
        (repeat refine Zr ?_)
        refine s_v (r_ss rfl rfl rfl rfl (by omega) (by omega) (by omega)) ?_
        refine s_call (us := []) (zs := []) (by kernel_rfl) rfl rfl (rhas onesB (some ⟨b8, 0, none⟩) 17 (s.extract j (j + 1)) w8 ho8 (by decide +kernel)) ?_
        rintro _ w10 ⟨rfl, rfl⟩
        rw [B_ones, hx1, hd, one_eq]
        rw [hd] at hn
        (repeat refine Zr ?_)
        refine c_b rfl (fun h1 => ?_) (fun h1 => ?_)
        · have hm2 : m = 1 := by rw [← hm, hd, sg_1 hn h1]
          (repeat refine Zr ?_)
          refine l_cut () ⟨rfl, rfl, rfl, ?_, trivial⟩ rfl
          rw [hm2]; rfl
        · have hm2 : m = 0 := by rw [← hm, hd, sg_0 hn h1]
          (repeat refine Zr ?_)
          refine l_cut () ⟨rfl, rfl, rfl, ?_, trivial⟩ rfl
          rw [hm2]; rfl
    rintro _ l w9 rfl
    (repeat refine Zr ?_)
    refine c_eq rfl (fun h0 => ?_) (fun h0 => ?_)
    · (repeat refine Zr ?_)
      refine s_st rfl rfl rfl rfl rfl (ag w9 k8) (Nat.le_of_ble_eq_true rfl) (fun w11 s11 => ?_)
      (repeat refine Zr ?_)
      refine ret_c2 rfl (rv_ag (vs := [.int .i64 0, .int .i64 j, .int .i64 j]) rfl rfl rfl s11.blk rfl rfl) (rv_t rfl) ⟨nxV_of (ok := false) (m := 0) hj ?_ rfl rfl (by simp), kw8.trans s11.kp (fun _ _ e => by omega)⟩
      rw [hbody, if_pos (by omega)]
    · (repeat refine Zr ?_)
      refine s_st rfl rfl rfl rfl rfl (ag w9 k8) (Nat.le_of_ble_eq_true rfl) (fun w11 s11 => ?_)
      (repeat refine Zr ?_)
      refine ret_c2 rfl (rv_ag (vs := [.int .i64 4, .int .i64 j, .int .i64 ((j + m : Nat) : Int)]) rfl rfl rfl s11.blk rfl rfl) (rv_t rfl) ⟨nxV_of (ok := true) (m := m) hj ?_ rfl rfl rfl, kw8.trans s11.kp (fun _ _ e => by omega)⟩
      rw [hbody, if_neg (by omega)]
end Tk
end Go.Proofs.YtfnbgbeinmekgaaGreatDoor
namespace Go.Proofs.YtfnbgbeinmekgaaGreatDoor
open Go Go.RowKit Fw
set_option linter.unusedVariables false
set_option maxRecDepth 20000
namespace Tk
set_option maxHeartbeats 1000000 in
theorem rAll (s : ByteArray) (w : World) (hs : s.size ≤ 1000000) :
    Ret Tryz.prog 30 [.string s] w fun v w1 => ∃ u, v = .tuple #[u, .int .i64 (allT (B s)).2.1, .int .i64 (allT (B s)).2.2] ∧ w1.ownsRow w.heap.size 64 3 u (allT (B s)).1.length (tc (allT (B s)).1) ∧ Kp No w w1 := by
  have hlen := B_len s
  refine ret_enter Tryz.func30 rfl Tryz.ntmps30 rfl ?_
  (repeat refine Zr ?_)
  refine c_dec rfl (fun hbig => ?_) (fun hsm => ?_)
  · have hall : allT (B s) = ([], 0, 1) := by rw [allT, if_pos (by omega)]
    (repeat refine Zr ?_)
    refine ret_3 rfl rfl rfl rfl ⟨.slice none 0 0, by rw [hall], ?_, Kp.refl _ _⟩
    rw [hall]
    exact ⟨by simp [tc], .inl ⟨rfl, rfl⟩⟩
  · obtain ⟨R, hR⟩ : ∃ R, als (s.size + 1) 0 (B s) = R := ⟨_, rfl⟩
    (repeat refine Zr ?_)
    refine k_loop (σ := Nat × Value × List T3 × Nat) (fun t => [(0, .string s), (5, t.2.1), (6, .int .i64 t.1)])
      (fun t w' => t.1 ≤ s.size ∧ t.2.2.2 = s.size - t.1 + 1 ∧ w'.ownsRow w.heap.size 64 3 t.2.1 t.2.2.1.length (tc t.2.2.1) ∧ t.2.2.1.length ≤ t.1 ∧ Kp No w w' ∧
        (∃ f', s.size - t.1 + 1 ≤ f' ∧ R = (t.2.2.1 ++ (als f' t.1 ((B s).drop t.1)).1, (als f' t.1 ((B s).drop t.1)).2))) (fun t => s.size - t.1 + 1) (0, .slice none 0 0, [], s.size + 1) ⟨rfl, rfl, rfl, trivial⟩
      ⟨Nat.zero_le _, by simp, ⟨by simp [tc], .inl ⟨rfl, rfl⟩⟩, by simp, Kp.refl _ _, s.size + 1, by simp, by simp [hR]⟩ ?_
    rintro ⟨a, v, ts, fu⟩ l w1 ⟨ha, hfu, hown, htl, k1, f', hf', hals⟩
    simp only at ha hfu hown htl k1 hf' hals
    dsimp only
    have hnl := nx_le ((B s).drop a)
    rw [List.length_drop, B_len] at hnl
    obtain ⟨g, rfl⟩ : ∃ g, f' = g + 1 := ⟨f' - 1, by omega⟩
    obtain ⟨ok, k, n, m, hnx⟩ : ∃ ok k n m, nx ((B s).drop a) = ⟨ok, k, n, m⟩ := ⟨_, _, _, _, rfl⟩
    have hpos : ok = true → k ≠ 0 → 0 < m := fun h hk => by have := nx_pos (L := (B s).drop a) (by rw [hnx]; exact h) (by rw [hnx]; exact hk); rw [hnx] at this; exact this
    rw [hnx] at hnl
    simp only at hnl
    rw [als, hnx] at hals
    simp only at hals
    obtain ⟨av, cv, rfl, _, _, _⟩ := own_read hown
    (repeat refine Zr ?_)
    refine s_call (us := []) (zs := []) (by kernel_rfl) rfl rfl (rNext s a w1 hs ha) ?_
    rintro _ w2 ⟨rfl, k2⟩
    rw [nxV, tokV, hnx]
    (repeat refine Zr ?_)
    refine s_al rfl (fun b7 w3 n3 => ?_)
    refine s_st rfl rfl rfl rfl rfl n3.blk (Nat.le_of_ble_eq_true rfl) (fun w4 s4 => ?_)
    have y3 := n3.ge
    have z2 := k2.size
    have z3 := n3.kp.size
    have z4 := s4.sz
    have z1 := k1.size
    have hb7 := s4.blk
    have k4 : Kp No w1 w4 := (k2.no n3.kp).trans s4.kp (fun _ _ e => by omega)
    have kw4 := k1.no k4
    have own4 := own_kp hown k4 (fun _ _ => id)
    (repeat refine Zr ?_)
    cases ok with
    | false =>
      refine k_re 19 (v' := .bool true) rfl rfl ?_
      refine c_t rfl ?_
      have hall : allT (B s) = ([], ((a + n : Nat) : Int), 2) := by
        rw [allT, if_neg (by omega), hlen, hR, hals]; rfl
      (repeat refine Zr ?_)
      refine k_q (by kernel_rfl) (by kernel_rfl) ?_
      refine q_v (fun w' hw => r_fa rfl rfl) ?_
      refine q_v (fun w' hw => r_fa rfl rfl) ?_
      refine q_v (fun w' hw => r_ld rfl rfl (cell_of_blk (hw.get0 hb7) (by rfl))) ?_
      refine q_v (fun w' hw => r_mv rfl) ?_
      refine q_v (fun w' hw => r_as rfl) ?_
      refine q_v (fun w' hw => r_as rfl) ?_
      refine q_v (fun w' hw => r_as rfl) ?_
      refine q_nil (fun w5 k5 => ?_)
      (repeat refine Zr ?_)
      refine ret_3 rfl rfl rfl rfl ⟨.slice none 0 0, by rw [hall]; rfl, ?_, kw4.no k5⟩
      rw [hall]
      exact ⟨by simp [tc], .inl ⟨rfl, rfl⟩⟩
    | true =>
      refine k_re 19 (v' := .bool false) rfl rfl ?_
      refine c_f rfl ?_
      (repeat refine Zr ?_)
      refine s_v (r_ldb (vs := [.int .i64 k, .int .i64 ((a + n : Nat) : Int), .int .i64 ((a + n + m : Nat) : Int)]) rfl rfl rfl hb7 rfl rfl) ?_
      refine s_bs (cs := [.int .i64 k, .int .i64 ((a + n : Nat) : Int), .int .i64 ((a + n + m : Nat) : Int)]) rfl (fun b8 w5 n5 => ?_)
      have own5 := own_kp own4 n5.kp (fun _ _ => id)
      have z5 := n5.kp.size
      refine s_app (size := 3) (bytes := 24) (base := w.heap.size) (news := [.int .i64 k, .int .i64 ((a + n : Nat) : Int), .int .i64 ((a + n + m : Nat) : Int)]) rfl rfl rfl rfl rfl rfl rfl rfl own5 rfl (blk_cells n5.blk) rfl rfl (by omega) (by omega) (by omega) ?_
      intro v6 w6 a6
      have hbs : ∀ g, (Value.slice av ts.length cv).ownBlock = some g → w.heap.size ≤ g ∧ g < w1.heap.size := fun g e => own_lt hown e
      have hb7' := a6.kp.get (n5.kp.get0 hb7) (fun e => by have := hbs b7 e.symm; omega)
      have k6 : Kp No w w6 := (kw4.no n5.kp).trans a6.kp (fun i hi e => by have := hbs i e.symm; omega)
      have own6 : w6.ownsRow w.heap.size 64 3 v6 (ts ++ [(k, ((a + n : Nat) : Int), ((a + n + m : Nat) : Int))]).length (tc (ts ++ [(k, ((a + n : Nat) : Int), ((a + n + m : Nat) : Int))])) := by
        have := a6.own
        have e1 : tc (ts ++ [(k, ((a + n : Nat) : Int), ((a + n + m : Nat) : Int))]) = tc ts ++ [.int .i64 k, .int .i64 ((a + n : Nat) : Int), .int .i64 ((a + n + m : Nat) : Int)] := by simp [tc]
        rw [e1, List.length_append, List.length_singleton]
        exact this
      obtain ⟨a6', c6, rfl, _, _, _⟩ := own_read a6.own
      (repeat refine Zr ?_)
      refine c_eq rfl (fun hk => ?_) (fun hk => ?_)
      · subst hk
        have hall : allT (B s) = (ts ++ [(0, ((a + n : Nat) : Int), ((a + n + m : Nat) : Int))], 0, 0) := by
          rw [allT, if_neg (by omega), hlen, hR, hals]; rfl
        (repeat refine Zr ?_)
        refine ret_3 rfl rfl rfl rfl ⟨.slice a6' (ts.length + 1) c6, by rw [hall], ?_, k6⟩
        rw [hall]
        exact own6
      · have hm := hpos rfl hk
        (repeat refine Zr ?_)
        refine l_next (a + n + m, .slice a6' (ts.length + 1) c6, ts ++ [(k, ((a + n : Nat) : Int), ((a + n + m : Nat) : Int))], s.size - (a + n + m) + 1) ⟨rfl, rfl, rfl, trivial⟩
          ⟨by show a + n + m ≤ s.size; omega, rfl, own6, by simp only [List.length_append, List.length_singleton]; omega, k6, g, by show s.size - (a + n + m) + 1 ≤ g; omega, ?_⟩ (by show s.size - (a + n + m) + 1 < s.size - a + 1; omega)
        show R = (ts ++ [(k, ((a + n : Nat) : Int), ((a + n + m : Nat) : Int))] ++ (als g (a + n + m) ((B s).drop (a + n + m))).1, (als g (a + n + m) ((B s).drop (a + n + m))).2)
        rw [hals]
        simp only [if_true, if_neg hk, List.drop_drop]
        rw [show a + (n + m) = a + n + m from by omega]
        simp
end Tk
end Go.Proofs.YtfnbgbeinmekgaaGreatDoor
namespace Go.Proofs.YtfnbgbeinmekgaaGreatDoor.Fw
open Go Go.RowKit
section
variable {P : Program} {ρ : Operand → Value} {w : World} {dst : Option Nat} {ty : TypeId} {pos : String} {af : Array Edge} {g : Option (Nat × Bool)} {v : Value}
/-- A whole box is read. -/
theorem r_ldw {t : TypeId} {x : Operand} {b : Nat} {cs : List Value} {T : TypeId} {fz : Nat × Nat} (hx : ρ x = .pointer (some ⟨b, 0, none⟩)) (hb : w.heap[b]? = some (.cells cs.toArray T fz)) (ht : aggT P t = some true) (hn : szT P t = some cs.length) :
    Rn P ρ ⟨dst, .load t x, ty, pos, af, g⟩ w (.ok (.value (.agg cs.toArray)) w) := r_ldb (vs := cs) hx ht hn hb (by rw [List.drop_zero, List.take_length]) rfl
end
section
variable {P : Program} {w : World} {ops : Array Oper} {os rest : List Oper} {q : Pst P} {n : Nat} {l : Slots} {ds : List Deferred} {d : Nat} {ty : TypeId} {pos : String} {af : Array Edge}
theorem Zl {t : TypeId} {x : Operand} {b : Nat} {cs : List Value} {T : TypeId} {fz : Nat × Nat} (h : Wl P ops q rest n ((d, .agg cs.toArray) :: l) ds w) (hx : ev n l x = .pointer (some ⟨b, 0, none⟩) := by rfl) (hb : w.heap[b]? = some (.cells cs.toArray T fz) := by assumption) (ht : aggT P t = some true := by rfl) (hn : szT P t = some cs.length := by rfl) :
    Wl P ops q (⟨some d, .load t x, ty, pos, af, none⟩ :: rest) n l ds w := s_v (r_ldw hx hb ht hn) h
theorem Zgl {t : TypeId} {x : Operand} {b j : Nat} {bo : Bool} {cs : List Value} {T : TypeId} {fz : Nat × Nat} (h : Wl P os.toArray q rest n ((d, .agg cs.toArray) :: l) ds w) (hy : ylk os n l j = some (.bool bo) := by rfl) (hx : ev n l x = .pointer (some ⟨b, 0, none⟩) := by rfl) (hb : w.heap[b]? = some (.cells cs.toArray T fz) := by assumption) (ht : aggT P t = some true := by rfl) (hn : szT P t = some cs.length := by rfl) :
    Wl P os.toArray q (⟨some d, .load t x, ty, pos, af, some (j, bo)⟩ :: rest) n l ds w := s_gv hy (r_ldw hx hb ht hn) h
theorem setAt_all {cs vs : List Value} (h : cs.length = vs.length) : setAt cs 0 vs = vs := by
  rw [setAt_eq _ _ _ (by omega)]; simp [h]
/-- A whole box is stored into. -/
theorem s_stw {t : TypeId} {x y : Operand} {b : Nat} {cs vs : List Value} {T : TypeId} (hx : ev n l x = .pointer (some ⟨b, 0, none⟩)) (hy : mvv (ev n l y) = some (.agg vs.toArray)) (hv : cellsL (.agg vs.toArray) = vs) (hs : szT P t = some vs.length) (h1 : vs.all Value.oneCell' = true)
    (hb : w.heap[b]? = some (.cells cs.toArray T (0, 0))) (hl : cs.length = vs.length) (h : ∀ w1, Sb w b vs T w1 → Wl P ops q rest n l ds w1) :
    Wl P ops q (⟨none, .store t x y, ty, pos, af, none⟩ :: rest) n l ds w :=
  s_st hx hy hv hs h1 hb (by omega) fun w1 s => h w1 (by rw [setAt_all hl] at s; exact s)
/-- As Zr, and loads of boxes. -/
theorem Zlr {p q : Prop} (x : p) (h : p → q := by first | exact k_nil | exact k_n | exact k_r | exact k_x | exact b_n | exact b_r | exact b_y rfl | exact b_z rfl | exact l_r | exact l_x | exact k_seq | exact k_blk | exact k_reg | exact k_ret | exact k_exit | exact k_skip | exact fun h => Zs h | exact fun h => Zl h) : q := h x
end
end Go.Proofs.YtfnbgbeinmekgaaGreatDoor.Fw
namespace Go.Proofs.YtfnbgbeinmekgaaGreatDoor.Rf
open Go Go.RowKit Fw Sy
set_option linter.unusedVariables false
set_option maxRecDepth 20000
/-- A slice's parts. -/
structure Sl where
  a : Option Addr
  n : Nat
  c : Nat
abbrev Sl.v (x : Sl) : Value := .slice x.a x.n x.c
/-- A text, and where its tokens lie. -/
structure Cr where
  t : ByteArray
  g : Nat
  c : Nat
abbrev Cr.T (X : Cr) : List Tk.T3 := (Tk.allT (B X.t)).1
abbrev Cr.E (X : Cr) : Env := envOf (B X.t)
/-- A parser's state: what was taken and put, where that lies, the error, its place. -/
structure Q where
  s : PS
  x : Sl
  y : Sl
  z : Sl
  c : Int
  p : Int
  o : Nat → Prop
abbrev Q.V (q : Q) : VS := ⟨q.x.v, q.y.v, q.z.v, q.o⟩
def qc (X : Cr) (q : Q) : List Value := [.string X.t, .slice (some ⟨X.g, 0, none⟩) X.T.length X.c, .int .i64 (q.s.i : Int), .slice q.x.a q.x.n q.x.c, .slice q.y.a q.y.n q.y.c, .slice q.z.a q.z.n q.z.c, .int .i64 q.c, .int .i64 q.p]
abbrev qv (X : Cr) (q : Q) : Value := .agg (qc X q).toArray
/-- What may change. -/
def Sx (q : Q) (b : Nat) : Prop := q.c = 0 ∧ (q.x.v.ownBlock = some b ∨ q.y.v.ownBlock = some b ∨ q.z.v.ownBlock = some b)
/-- Where nothing is wrong, what was put is there. -/
structure Gd (w : World) (q : Q) : Prop where
  xs : RX w q.V q.s.ex
  ss : RS w q.V q.s.st
  fs : RF w q.V q.s.fn
  xl : q.s.ex.length ≤ q.s.i
  sl : q.s.st.length ≤ 1000
  fl : q.s.fn.length ≤ 32
  ob : ∀ b, q.o b → b < w.heap.size
structure Aq (X : Cr) (w : World) (q : Q) : Prop where
  h0 : (Tk.allT (B X.t)).2.2 = 0
  tk : w.ownsRow 0 64 3 (.slice (some ⟨X.g, 0, none⟩) X.T.length X.c) X.T.length (Tk.tc X.T)
  lt : q.s.i < X.T.length
  gd : q.c = 0 → Gd w q
structure Gs (w : World) (q : Q) (w' : World) (q' : Q) : Prop where
  kp : Kp (Sx q) w w'
  fr : ∀ b, b < w.heap.size → Sx q' b → Sx q b
  fo : ∀ b, b < w.heap.size → q'.c = 0 → q'.o b → q.c = 0 ∧ q.o b
theorem Gs.refl (w : World) (q : Q) : Gs w q w q := ⟨Kp.refl _ _, fun _ _ h => h, fun _ _ h h' => ⟨h, h'⟩⟩
theorem Gs.trans {w w1 w2 : World} {q q1 q2 : Q} (h : Gs w q w1 q1) (k : Gs w1 q1 w2 q2) : Gs w q w2 q2 :=
  ⟨h.kp.trans k.kp fun i hi hs => h.fr i hi hs, fun b hb hs => h.fr b hb (k.fr b (Nat.lt_of_lt_of_le hb h.kp.size) hs), fun b hb hc hs => by
    obtain ⟨h1, h2⟩ := k.fo b (Nat.lt_of_lt_of_le hb h.kp.size) hc hs
    exact h.fo b hb h1 h2⟩
theorem Gs.no {w w1 w2 : World} {q q1 : Q} (h : Gs w q w1 q1) (k : Kp No w1 w2) : Gs w q w2 q1 := ⟨h.kp.no k, h.fr, h.fo⟩
theorem Gs.own {w w1 w2 : World} {q q1 : Q} {b : Nat} (h : Gs w q w1 q1) (k : Kp (fun i => i = b) w1 w2) (hb : w.heap.size ≤ b) : Gs w q w2 q1 :=
  ⟨h.kp.trans k fun i hi e => (by omega), h.fr, h.fo⟩
/-- Types that the parser's own memory hasn't. -/
def okT (e : TypeId) : Bool := !(Nat.beq e 67 || Nat.beq e 42 || Nat.beq e 62)
theorem Aq.nsx {X : Cr} {w : World} {q : Q} (h : Aq X w q) {g : Nat} {cur : Array Value} {e : TypeId} {fz : Nat × Nat} (hg : w.heap[g]? = some (.cells cur e fz)) (he : okT e = true) : ¬ Sx q g := by
  simp only [okT, Bool.not_eq_true', Bool.or_eq_false_iff] at he
  obtain ⟨⟨h2, h3⟩, h4⟩ := he
  rintro ⟨hc, hs⟩
  have G := h.gd hc
  rcases hs with hs | hs | hs
  · obtain ⟨rx, _, ho, _⟩ := G.xs
    obtain ⟨c, hc⟩ := own_ty ho hs
    exact ty_ne hg hc h2 rfl
  · obtain ⟨rx, _, ho, _⟩ := G.ss
    obtain ⟨c, hc⟩ := own_ty ho hs
    exact ty_ne hg hc h3 rfl
  · obtain ⟨rx, _, ho, _⟩ := G.fs
    obtain ⟨c, hc⟩ := own_ty ho hs
    exact ty_ne hg hc h4 rfl
theorem own_gs {X : Cr} {w w' : World} {q : Q} (hA : Aq X w q) (k : Kp (Sx q) w w') {base : Nat} {e : TypeId} {size : Nat} {v : Value} {n : Nat} {cs : List Value} (h : w.ownsRow base e size v n cs) (he : okT e = true) : w'.ownsRow base e size v n cs :=
  own_kp h k fun g hg => by
    obtain ⟨c, hc⟩ := own_ty h hg
    exact hA.nsx hc he
/-- What was put is kept where nothing of it changes. -/
theorem Gd.kp {w w' : World} {q : Q} {S : Nat → Prop} (h : Gd w q) (k : Kp S w w') (h1 : ∀ b, (q.x.v.ownBlock = some b ∨ q.y.v.ownBlock = some b ∨ q.z.v.ownBlock = some b) → ¬ S b)
    (h2 : ∀ (g : Nat) (cur : Array Value) (e : TypeId) (fz : Nat × Nat), q.o g → w.heap[g]? = some (.cells cur e fz) → (e = 3 ∨ e = 9) → ¬ S g) : Gd w' q := by
  have hi : ∀ {v l}, LI w v l → Ow q.V v → LI w' v l := fun hv ho => own_kp hv k fun g hg => by
    obtain ⟨c, hc⟩ := own_ty hv hg
    exact h2 g c _ _ (ho g hg) hc (.inl rfl)
  have ht : ∀ {v l}, LS w v l → Ow q.V v → LS w' v l := fun hv ho => own_kp hv k fun g hg => by
    obtain ⟨c, hc⟩ := own_ty hv hg
    exact h2 g c _ _ (ho g hg) hc (.inr rfl)
  obtain ⟨rx, e1, o1, l1⟩ := h.xs
  obtain ⟨ry, e2, o2, l2⟩ := h.ss
  obtain ⟨rz, e3, o3, l3⟩ := h.fs
  exact ⟨⟨rx, e1, own_kp o1 k fun g hg => h1 g (.inl hg), fun r hr => ⟨hi (l1 r hr).1 (l1 r hr).2, (l1 r hr).2⟩⟩,
    ⟨ry, e2, own_kp o2 k fun g hg => h1 g (.inr (.inl hg)), fun r hr => ⟨⟨hi (l2 r hr).1.1 (l2 r hr).1.2, (l2 r hr).1.2⟩, hi (l2 r hr).2.1 (l2 r hr).2.2, (l2 r hr).2.2⟩⟩,
    ⟨rz, e3, own_kp o3 k fun g hg => h1 g (.inr (.inr hg)), fun r hr => ⟨⟨ht (l3 r hr).1.1 (l3 r hr).1.2, (l3 r hr).1.2⟩, hi (l3 r hr).2.1 (l3 r hr).2.2, (l3 r hr).2.2⟩⟩, h.xl, h.sl, h.fl, fun b hb => Nat.lt_of_lt_of_le (h.ob b hb) k.size⟩
theorem Aq.no {X : Cr} {w w' : World} {q : Q} (h : Aq X w q) (k : Kp No w w') : Aq X w' q := ⟨h.h0, own_kp h.tk k fun _ _ h => h, h.lt, fun hc => (h.gd hc).kp k (fun _ _ h => h) fun _ _ _ _ _ _ _ h => h⟩
/-- A store into a box of another kind. -/
theorem Aq.box {X : Cr} {w w' : World} {q : Q} {b : Nat} {cs : Array Value} {T : TypeId} (h : Aq X w q) (k : Kp (fun i => i = b) w w') (hb : w.heap[b]? = some (.cells cs T (0, 0))) (hs : ¬ Sx q b)
    (hT : (Nat.beq 3 T || Nat.beq 9 T || Nat.beq 64 T) = false) : Aq X w' q := by
  simp only [Bool.or_eq_false_iff] at hT
  obtain ⟨⟨h1, h2⟩, h3⟩ := hT
  refine ⟨h.h0, own_kp h.tk k fun g hg e => ?_, h.lt, fun hc => (h.gd hc).kp k (fun g hg e => hs ⟨hc, e ▸ hg⟩) fun g cur e fz _ hg he e' => ?_⟩
  · obtain ⟨c, hc⟩ := own_ty h.tk hg
    subst e
    exact ty_ne hc hb h3 rfl
  · subst e'
    rcases he with rfl | rfl
    · exact ty_ne hg hb h1 rfl
    · exact ty_ne hg hb h2 rfl
/-- The state, and what changed since the call began. -/
structure Sg (X : Cr) (w0 : World) (q0 : Q) (w : World) (q : Q) : Prop where
  at_ : Aq X w q
  gs : Gs w0 q0 w q
theorem Sg.start {X : Cr} {w : World} {q : Q} (h : Aq X w q) : Sg X w q w q := ⟨h, Gs.refl _ _⟩
theorem Sg.no {X : Cr} {w0 w w' : World} {q0 q : Q} (h : Sg X w0 q0 w q) (k : Kp No w w') : Sg X w0 q0 w' q := ⟨h.at_.no k, h.gs.no k⟩
theorem Sg.call {X : Cr} {w0 w w' : World} {q0 q q' : Q} (h : Sg X w0 q0 w q) (k : Sg X w q w' q') : Sg X w0 q0 w' q' := ⟨k.at_, h.gs.trans k.gs⟩
/-- The state, and boxes of our own. -/
structure Wb (X : Cr) (w0 : World) (q0 : Q) (w : World) (q : Q) (l : List (Nat × List Value × TypeId)) : Prop where
  sg : Sg X w0 q0 w q
  bx : ∀ (i b : Nat) (cs : List Value) (T : TypeId), l[i]? = some (b, cs, T) → w0.heap.size ≤ b ∧ w.heap[b]? = some (.cells cs.toArray T (0, 0)) ∧ ¬ Sx q b
  nd : ∀ (i j b : Nat) (cs cs' : List Value) (T T' : TypeId), l[i]? = some (b, cs, T) → l[j]? = some (b, cs', T') → i = j
section
variable {X : Cr} {w0 w w' : World} {q0 q q' : Q} {l : List (Nat × List Value × TypeId)}
theorem Wb.start (h : Aq X w q) : Wb X w q w q [] := ⟨Sg.start h, fun i b cs T h => by simp at h, fun i j b cs cs' T T' h => by simp at h⟩
theorem Wb.at_ (h : Wb X w0 q0 w q l) : Aq X w q := h.sg.at_
theorem Wb.blk (h : Wb X w0 q0 w q l) (i : Nat) {b : Nat} {cs : List Value} {T : TypeId} (hi : l[i]? = some (b, cs, T)) : w.heap[b]? = some (.cells cs.toArray T (0, 0)) := (h.bx i b cs T hi).2.1
theorem Wb.no (h : Wb X w0 q0 w q l) (k : Kp No w w') : Wb X w0 q0 w' q l := ⟨h.sg.no k, fun i b cs T hi => ⟨(h.bx i b cs T hi).1, k.get0 (h.bx i b cs T hi).2.1, (h.bx i b cs T hi).2.2⟩, h.nd⟩
theorem Sx.lt (h : Aq X w q) {b : Nat} (hs : Sx q b) : b < w.heap.size := by
  obtain ⟨hc, hs⟩ := hs
  have G := h.gd hc
  rcases hs with hs | hs | hs
  · obtain ⟨rx, _, ho, _⟩ := G.xs
    obtain ⟨c, hc⟩ := own_ty ho hs
    exact lt_of_get hc
  · obtain ⟨rx, _, ho, _⟩ := G.ss
    obtain ⟨c, hc⟩ := own_ty ho hs
    exact lt_of_get hc
  · obtain ⟨rx, _, ho, _⟩ := G.fs
    obtain ⟨c, hc⟩ := own_ty ho hs
    exact lt_of_get hc
theorem Wb.new (h : Wb X w0 q0 w q l) {b : Nat} {cs : List Value} {T : TypeId} (n : Nb w b cs T w') : Wb X w0 q0 w' q ((b, cs, T) :: l) := by
  have h' := h.no n.kp
  have hz := h.sg.gs.kp.size
  have old : ∀ {i b' : Nat} {cs' : List Value} {T' : TypeId}, l[i]? = some (b', cs', T') → b' ≠ b := fun hi e => by
    have := lt_of_get (h.bx _ _ _ _ hi).2.1
    have := n.ge
    omega
  refine ⟨h'.sg, fun i b' cs' T' hi => ?_, fun i j b' cs1 cs2 T1 T2 hi hj => ?_⟩
  · cases i with
    | zero =>
      simp at hi
      obtain ⟨rfl, rfl, rfl⟩ := hi
      exact ⟨Nat.le_trans hz n.ge, n.blk, fun hs => by have := Sx.lt h.at_ hs; have := n.ge; omega⟩
    | succ i => exact h'.bx i b' cs' T' (by simpa using hi)
  · cases i with
    | zero =>
      cases j with
      | zero => rfl
      | succ j =>
        simp at hi hj
        exact (old hj hi.1.symm).elim
    | succ i =>
      cases j with
      | zero => simp at hi hj; exact (old hi hj.1.symm).elim
      | succ j => rw [h.nd i j b' cs1 cs2 T1 T2 (by simpa using hi) (by simpa using hj)]
/-- A call that goes on with the state. -/
theorem Wb.call (h : Wb X w0 q0 w q l) (k : Sg X w q w' q') : Wb X w0 q0 w' q' l :=
  ⟨h.sg.call k, fun i b cs T hi => ⟨(h.bx i b cs T hi).1, k.gs.kp.get (h.bx i b cs T hi).2.1 (h.bx i b cs T hi).2.2, fun hs => (h.bx i b cs T hi).2.2 (k.gs.fr b (lt_of_get (h.bx i b cs T hi).2.1) hs)⟩, h.nd⟩
/-- A store into a box. -/
theorem Wb.put (h : Wb X w0 q0 w q l) (i : Nat) {b : Nat} {cs cs' : List Value} {T : TypeId} (hi : l[i]? = some (b, cs, T)) (k : Sb w b cs' T w') (hT : (Nat.beq 3 T || Nat.beq 9 T || Nat.beq 64 T) = false) : Wb X w0 q0 w' q (l.set i (b, cs', T)) := by
  obtain ⟨h1, h2, h3⟩ := h.bx i b cs T hi
  have hl : i < l.length := by
    rcases Nat.lt_or_ge i l.length with h | h
    · exact h
    · rw [List.getElem?_eq_none h] at hi; cases hi
  have at' : ∀ {j b' cs1 T1}, (l.set i (b, cs', T))[j]? = some (b', cs1, T1) → ∃ cs2, l[j]? = some (b', cs2, T1) := fun {j b' cs1 T1} hj => by
    rw [List.getElem?_set] at hj
    split at hj
    · rename_i e
      subst e
      cases hj
      exact ⟨cs, hi⟩
    · exact ⟨cs1, hj⟩
  refine ⟨⟨h.at_.box k.kp h2 h3 hT, h.sg.gs.own k.kp h1⟩, fun j b' cs1 T1 hj => ?_, fun j1 j2 b' cs1 cs2 T1 T2 hj1 hj2 => ?_⟩
  · rw [List.getElem?_set] at hj
    split at hj
    · cases hj
      exact ⟨h1, k.blk, h3⟩
    · rename_i hne
      obtain ⟨k1, k2, k3⟩ := h.bx j b' cs1 T1 hj
      exact ⟨k1, k.kp.get k2 fun e => hne (by subst e; exact h.nd _ _ _ _ _ _ _ hi hj), k3⟩
  · obtain ⟨_, e1⟩ := at' hj1
    obtain ⟨_, e2⟩ := at' hj2
    exact h.nd _ _ _ _ _ _ _ e1 e2
end
def stt (q : Q) : Rs Unit := if q.c = 0 then .ok () q.s else .er q.c q.p
def failQ (X : Cr) (k : Int) (q : Q) : Q := if q.c = 0 then { q with c := k, p := hr X.E q.s } else q
def isQ (X : Cr) (y : List Int) (q : Q) : Bool := decide (q.c = 0 ∧ wd X.E q.s = y)
def wantQ (X : Cr) (y : List Int) (q : Q) : Q := if q.c = 0 ∧ wd X.E q.s = y then { q with s := adv q.s } else failQ X 3 q
def kindQ (X : Cr) (k : Int) (q : Q) : Q := if q.c = 0 ∧ kd X.E q.s = k then { q with s := adv q.s } else failQ X 3 q
def kindW (X : Cr) (k : Int) (q : Q) : List Int := if q.c = 0 ∧ kd X.E q.s = k then wd X.E q.s else []
def deepQ (X : Cr) (d : Int) (q : Q) : Q := if 64 < d then failQ X 4 q else q
/-- What a state tells: it goes on, or something is wrong. -/
def Res {α : Type} (r : Rs α) (q : Q) (a : α) : Prop :=
  match r with
  | .ok x s => q.c = 0 ∧ q.s = s ∧ x = a
  | .er _ _ => q.c ≠ 0
  | .out => False
section
variable {X : Cr} {w0 w w' : World} {q0 q q' : Q} {l : List (Nat × List Value × TypeId)}
theorem failQ_c {k : Int} (hk : k ≠ 0) : (failQ X k q).c ≠ 0 := by
  unfold failQ; split
  · exact hk
  · assumption
theorem failQ_s {k : Int} : (failQ X k q).s = q.s := by unfold failQ; split <;> rfl
theorem failQ_er {k : Int} (h : q.c ≠ 0) : failQ X k q = q := if_neg h
/-- A state that fails, or goes on, changes no memory. -/
theorem Aq.to (h : Aq X w q) (hs : q'.s.i < X.T.length) (hg : q'.c = 0 → Gd w q') : Aq X w q' := ⟨h.h0, h.tk, hs, hg⟩
theorem Sg.fail (h : Aq X w q) {k : Int} (hk : k ≠ 0) : Sg X w q w (failQ X k q) :=
  ⟨h.to (by rw [failQ_s]; exact h.lt) fun hc => (failQ_c hk hc).elim, Kp.refl _ _, fun b _ hs => (failQ_c hk hs.1).elim, fun b _ hc _ => (failQ_c hk hc).elim⟩
theorem tok_lt (h : Aq X w q) (hne : wd X.E q.s ≠ [] ∨ kd X.E q.s ≠ 0) : q.s.i + 1 < X.T.length := by
  have hl := h.lt
  rcases Nat.lt_or_ge (q.s.i + 1) X.T.length with h1 | h1
  · exact h1
  · have h2 : q.s.i + 1 = X.T.length := by omega
    have ht : X.T[q.s.i]? = some X.T[q.s.i] := List.getElem?_eq_getElem hl
    have ok := tok_of h.h0
    rcases hne with hne | hne
    · refine (hne ?_).elim
      have := ok.lastw _ _ ht h2
      unfold tkw at this
      simp only [wd, envOf, List.getElem?_map, ht]
      exact this
    · refine (hne ?_).elim
      have := ok.last _ _ ht h2
      simp only [kd, envOf, ht]
      exact this
theorem Sg.adv (h : Aq X w q) (hne : wd X.E q.s ≠ [] ∨ kd X.E q.s ≠ 0) : Sg X w q w { q with s := Sy.adv q.s } :=
  ⟨h.to (tok_lt h hne) fun hc => by
    obtain ⟨h1, h2, h3, h4, h5, h6, h7⟩ := h.gd hc
    exact ⟨h1, h2, h3, Nat.le_succ_of_le h4, h5, h6, h7⟩, Kp.refl _ _, fun b _ hs => hs, fun b _ hc hs => ⟨hc, hs⟩⟩
theorem Sg.want (h : Aq X w q) {y : List Int} (hy : y ≠ []) : Sg X w q w (wantQ X y q) := by
  unfold wantQ
  split
  · rename_i e; exact Sg.adv h (.inl (by rw [e.2]; exact hy))
  · exact Sg.fail h (by decide)
theorem Sg.kind (h : Aq X w q) {k : Int} (hk : k ≠ 0) : Sg X w q w (kindQ X k q) := by
  unfold kindQ
  split
  · rename_i e; exact Sg.adv h (.inr (by rw [e.2]; exact hk))
  · exact Sg.fail h (by decide)
theorem Sg.deep (h : Aq X w q) {d : Int} : Sg X w q w (deepQ X d q) := by
  unfold deepQ
  split
  · exact Sg.fail h (by decide)
  · exact Sg.start h
theorem stt_c (h : q.c = 0) : stt q = .ok () q.s := if_pos h
theorem stt_e (h : q.c ≠ 0) : stt q = .er q.c q.p := if_neg h
theorem stt_want {y : List Int} : stt (wantQ X y q) = (stt q).bind fun _ s => Sy.want X.E y s := by
  by_cases hc : q.c = 0
  · rw [stt_c hc, bind_ok]
    unfold wantQ Sy.want
    by_cases e : wd X.E q.s = y
    · rw [if_pos ⟨hc, e⟩, if_pos e]; exact stt_c (q := { q with s := Sy.adv q.s }) hc
    · rw [if_neg (fun h => e h.2), if_neg e, failQ, if_pos hc]; rfl
  · rw [stt_e hc, bind_er, wantQ, if_neg (fun h => hc h.1), failQ_er hc, stt_e hc]
theorem stt_deep {d : Int} : stt (deepQ X d q) = (stt q).bind fun _ s => Sy.deep X.E d s := by
  by_cases hc : q.c = 0
  · rw [stt_c hc, bind_ok]
    unfold deepQ Sy.deep
    split
    · rw [failQ, if_pos hc]; rfl
    · rw [stt_c hc]
  · rw [stt_e hc, bind_er, deepQ]
    split
    · rw [failQ_er hc, stt_e hc]
    · rw [stt_e hc]
theorem Res.kind {k : Int} (hk : True) : Res ((stt q).bind fun _ s => knd X.E k s) (kindQ X k q) (kindW X k q) := by
  by_cases hc : q.c = 0
  · rw [stt_c hc, bind_ok]
    by_cases e : kd X.E q.s = k
    · have e1 : kindQ X k q = { q with s := Sy.adv q.s } := if_pos ⟨hc, e⟩
      have e2 : kindW X k q = wd X.E q.s := if_pos ⟨hc, e⟩
      have e3 : knd X.E k q.s = .ok (wd X.E q.s) (Sy.adv q.s) := if_pos e
      rw [e1, e2, e3]; exact ⟨hc, rfl, rfl⟩
    · have e1 : kindQ X k q = failQ X 3 q := if_neg fun h => e h.2
      have e3 : knd X.E k q.s = Sy.er X.E 3 q.s := if_neg e
      rw [e1, e3, failQ, if_pos hc]; show (3 : Int) ≠ 0; decide
  · rw [stt_e hc, bind_er, kindQ, if_neg (fun h => hc h.1), failQ_er hc]; exact hc
theorem Res.stt : Res (stt q) q () := by
  by_cases hc : q.c = 0
  · rw [stt_c hc]; exact ⟨hc, rfl, rfl⟩
  · rw [stt_e hc]; exact hc
theorem Res.bind {α β : Type} {r : Rs α} {g : α → PS → Rs β} {a : α} {b : β} {q1 q2 : Q} (h : Res r q1 a) (h1 : q1.c = 0 → Res (g a q1.s) q2 b) (h2 : q1.c ≠ 0 → q2.c ≠ 0) : Res (r.bind g) q2 b := by
  cases r with
  | ok x s => obtain ⟨e1, rfl, rfl⟩ := h; exact h1 e1
  | er c p => exact h2 h
  | out => exact h.elim
theorem Res.ok {α : Type} {r : Rs α} {a : α} (h : Res r q a) (hc : q.c = 0) : r = .ok a q.s := by
  cases r with
  | ok x s => obtain ⟨_, rfl, rfl⟩ := h; rfl
  | er c p => exact (h hc).elim
  | out => exact h.elim
/-- From a state on. -/
theorem Res.from {α : Type} {g : PS → Rs α} {a : α} (h1 : q.c = 0 → Res (g q.s) q' a) (h2 : q.c ≠ 0 → q'.c ≠ 0) : Res ((Rf.stt q).bind fun _ s => g s) q' a := Res.stt.bind h1 h2
end
end Go.Proofs.YtfnbgbeinmekgaaGreatDoor.Rf
namespace Go.Proofs.YtfnbgbeinmekgaaGreatDoor.Rf
open Go Go.RowKit Fw Sy
set_option linter.unusedVariables false
set_option maxRecDepth 20000
abbrev Tp : TypeId := 89
section
variable {X : Cr} {w : World} {q : Q}
theorem _root_.Go.Proofs.YtfnbgbeinmekgaaGreatDoor.Fw.Kp.from0' {S : Nat → Prop} {a b c : World} (h : Kp No a b) (k : Kp S b c) (hs : ∀ i, i < a.heap.size → ¬ S i) : Kp No a c := h.trans k fun i hi e => hs i hi e
/-- Where the tokens lie. -/
theorem Aq.tokens (h : Aq X w q) : ∀ (i : Nat) (t : Tk.T3), X.T[i]? = some t →
    w.cell? ⟨X.g, 0 + (i : Int).toNat * 3, none⟩ = some (.int .i64 t.1) ∧ w.cell? ⟨X.g, 0 + (i : Int).toNat * 3 + 1, none⟩ = some (.int .i64 t.2.1) ∧ w.cell? ⟨X.g, 0 + (i : Int).toNat * 3 + 2, none⟩ = some (.int .i64 t.2.2) := by
  obtain ⟨a, c, e, hnc, h0, hr⟩ := own_read h.tk
  cases e
  obtain ⟨g, e, _, _, hc⟩ := hr _ rfl
  cases e
  intro i t ht
  obtain ⟨h1, h2, h3⟩ := Tk.tc_get ht
  exact ⟨hc _ _ h1, hc _ _ h2, hc _ _ h3⟩
theorem Aq.tok (h : Aq X w q) : ∃ t, X.T[q.s.i]? = some t ∧ kd X.E q.s = t.1 ∧ hr X.E q.s = t.2.1 ∧ wd X.E q.s = tkw (B X.t) t := by
  have h1 := h.lt
  have ht : X.T[q.s.i]? = some X.T[q.s.i] := List.getElem?_eq_getElem h1
  refine ⟨X.T[q.s.i], ht, ?_, ?_, ?_⟩
  · simp only [kd, envOf, ht]
  · simp only [hr, envOf, ht]
  · simp only [wd, envOf, List.getElem?_map, ht]; rfl
theorem Aq.wd_rng (h : Aq X w q) : ∀ c ∈ wd X.E q.s, 0 ≤ c ∧ c < 256 := by
  obtain ⟨t, ht, e1, e2, e3⟩ := h.tok
  rw [e3]
  exact fun c hc => B_range (List.mem_of_mem_take (List.mem_of_mem_drop hc))
theorem Aq.small (h : Aq X w q) : (q.s.i : Int) + 1 ≤ 20001 := by
  have h1 : q.s.i < (Tk.allT (B X.t)).1.length := h.lt
  have hlen := (tok_of h.h0).len
  have hsz := (tok_of h.h0).size
  omega
theorem hereF (h : Aq X w q) : Ret Tryz.prog 56 [qv X q] w fun v w1 => v = .int .i64 (hr X.E q.s) ∧ Kp No w w1 := by
  obtain ⟨t, ht, e1, e2, e3⟩ := h.tok
  have hl := h.lt
  refine ret_enter Tryz.func56 rfl Tryz.ntmps56 rfl ?_
  (repeat refine Zlr ?_)
  refine s_box (cs := qc X q) rfl rfl (fun b w1 n => ?_)
  have G := (Wb.start h).new n
  have h0 := G.blk 0 rfl
  obtain ⟨c1, c2, c3⟩ := G.at_.tokens _ _ ht
  (repeat refine Zlr ?_)
  refine s_v (r_ia rfl rfl rfl rfl (by omega) (by omega)) ?_
  (repeat refine Zlr ?_)
  exact ret_1 rfl rfl ⟨by rw [e2], n.kp⟩
theorem wordF (h : Aq X w q) : Ret Tryz.prog 90 [qv X q] w fun v w1 => v = sv (wd X.E q.s) ∧ Kp No w w1 := by
  obtain ⟨t, ht, e1, e2, e3⟩ := h.tok
  have hl := h.lt
  obtain ⟨_, r1, r2, r3⟩ := (tok_of h.h0).rng _ _ ht
  have hB : (B X.t).length = X.t.size := B_len X.t
  refine ret_enter Tryz.func90 rfl Tryz.ntmps90 rfl ?_
  (repeat refine Zlr ?_)
  refine s_box (cs := qc X q) rfl rfl (fun b w1 n => ?_)
  have G := (Wb.start h).new n
  have h0 := G.blk 0 rfl
  obtain ⟨c1, c2, c3⟩ := G.at_.tokens _ _ ht
  (repeat refine Zlr ?_)
  refine s_v (r_ia rfl rfl rfl rfl (by omega) (by omega)) ?_
  (repeat refine Zlr ?_)
  refine s_v (r_lda (vs := [.int .i64 t.2.1, .int .i64 t.2.2]) rfl rfl rfl rfl (fun j hj => by
    match j, hj with
    | 0, _ => exact c2
    | 1, _ => exact c3
    | (j + 2), hj => exact absurd hj (by simp)) ) ?_
  (repeat refine Zlr ?_)
  refine s_al rfl (fun b2 w2 n2 => ?_)
  have G := G.new n2
  have h0 := G.blk 0 rfl
  have h1 := G.blk 1 rfl
  (repeat refine Zlr ?_)
  refine s_stw (vs := [.int .i64 t.2.1, .int .i64 t.2.2]) rfl rfl rfl rfl rfl h0 rfl (fun w3 s3 => ?_)
  have G := G.put 0 rfl s3 rfl
  have h0 := G.blk 0 rfl
  have h1 := G.blk 1 rfl
  (repeat refine Zlr ?_)
  refine s_v (r_ss rfl rfl rfl rfl r1 r2 (by omega)) ?_
  (repeat refine Zlr ?_)
  refine ret_1 rfl rfl ⟨?_, (n.kp.no n2.kp).from0' s3.kp fun i hi e => ?_⟩
  · rw [e3, tkw, ← B_extract, sv_B]
  · have := n2.ge; have := n.kp.size; omega
theorem rv_agw {P : Program} {w : World} {n : Nat} {l : Slots} {t : TypeId} {a : Tmp} {b : Nat} {cs : List Value} {T : TypeId} {fz : Nat × Nat} (hx : lk n l a = .pointer (some ⟨b, 0, none⟩)) (hb : w.heap[b]? = some (.cells cs.toArray T fz)) (ht : aggT P t = some true) (hn : szT P t = some cs.length) : Rv P w n l (.cell a t) (.agg cs.toArray) :=
  rv_ag hx ht hn hb (by rw [List.drop_zero, List.take_length]) rfl
theorem failF (k : Int) (h : Aq X w q) : Ret Tryz.prog 58 [qv X q, .int .i64 k] w fun v w1 => v = qv X (failQ X k q) ∧ Kp No w w1 := by
  refine ret_enter Tryz.func58 rfl Tryz.ntmps58 rfl ?_
  (repeat refine Zlr ?_)
  refine s_box (cs := qc X q) rfl rfl (fun b w1 n => ?_)
  have G := (Wb.start h).new n
  (repeat refine Zlr ?_)
  refine s_al rfl (fun b2 w2 n2 => ?_)
  have G := G.new n2
  have h0 := G.blk 0 rfl; try have h1 := G.blk 1 rfl; try have h2 := G.blk 2 rfl; try have h3 := G.blk 3 rfl; try have h4 := G.blk 4 rfl; try have h5 := G.blk 5 rfl
  have k2 := n.kp.no n2.kp
  (repeat refine Zlr ?_)
  refine c_eq rfl (fun hc => ?_) (fun hc => ?_)
  · (repeat refine Zlr ?_)
    refine s_st (vs := [.int .i64 k]) rfl rfl rfl rfl rfl h1 (Nat.le_of_ble_eq_true rfl) (fun w3 s3 => ?_)
    have s3 : Sb w2 b (qc X { q with c := k }) Tp w3 := s3
    have G := G.put 1 rfl s3 rfl
    have h0 := G.blk 0 rfl; try have h1 := G.blk 1 rfl; try have h2 := G.blk 2 rfl; try have h3 := G.blk 3 rfl; try have h4 := G.blk 4 rfl; try have h5 := G.blk 5 rfl
    have k3 := k2.from0' s3.kp fun i hi e => by have := n.ge; omega
    (repeat refine Zlr ?_)
    by_cases hk : k = 0
    · subst hk
      have e0 : ({ q with c := 0 } : Q) = q := by rw [← hc]
      refine s_call (us := []) (zs := []) (by kernel_rfl) rfl rfl (hereF (q := { q with c := 0 }) (by rw [e0]; exact G.at_)) ?_
      rintro _ w4 ⟨rfl, k4⟩
      have G := G.no k4
      have h0 := G.blk 0 rfl; try have h1 := G.blk 1 rfl; try have h2 := G.blk 2 rfl; try have h3 := G.blk 3 rfl; try have h4 := G.blk 4 rfl; try have h5 := G.blk 5 rfl
      (repeat refine Zlr ?_)
      refine s_st (vs := [.int .i64 (hr X.E q.s)]) rfl rfl rfl rfl rfl h1 (Nat.le_of_ble_eq_true rfl) (fun w5 s5 => ?_)
      have s5 : Sb w4 b (qc X (failQ X 0 q)) Tp w5 := by
        rw [failQ, if_pos hc]; exact s5
      have G := G.put 1 rfl s5 rfl
      have h0 := G.blk 0 rfl; try have h1 := G.blk 1 rfl; try have h2 := G.blk 2 rfl; try have h3 := G.blk 3 rfl; try have h4 := G.blk 4 rfl; try have h5 := G.blk 5 rfl
      have k5 := (k3.no k4).from0' s5.kp fun i hi e => by have := n.ge; omega
      (repeat refine Zlr ?_)
      refine s_stw (vs := qc X (failQ X 0 q)) rfl rfl rfl rfl rfl h0 rfl (fun w6 s6 => ?_)
      have G := G.put 0 rfl s6 rfl
      have h0 := G.blk 0 rfl; try have h1 := G.blk 1 rfl; try have h2 := G.blk 2 rfl; try have h3 := G.blk 3 rfl; try have h4 := G.blk 4 rfl; try have h5 := G.blk 5 rfl
      (repeat refine Zlr ?_)
      exact ret_c1 rfl (rv_agw rfl h0 rfl rfl) ⟨rfl, k5.from0' s6.kp fun i hi e => by have := n2.ge; have := n.kp.size; omega⟩
    · have A3 : Aq X w3 { q with c := k } := ⟨G.at_.h0, G.at_.tk, G.at_.lt, fun h => (hk h).elim⟩
      refine s_call (us := []) (zs := []) (by kernel_rfl) rfl rfl (hereF A3) ?_
      rintro _ w4 ⟨rfl, k4⟩
      have G := G.no k4
      have h0 := G.blk 0 rfl; try have h1 := G.blk 1 rfl; try have h2 := G.blk 2 rfl; try have h3 := G.blk 3 rfl; try have h4 := G.blk 4 rfl; try have h5 := G.blk 5 rfl
      (repeat refine Zlr ?_)
      refine s_st (vs := [.int .i64 (hr X.E q.s)]) rfl rfl rfl rfl rfl h1 (Nat.le_of_ble_eq_true rfl) (fun w5 s5 => ?_)
      have s5 : Sb w4 b (qc X (failQ X k q)) Tp w5 := by
        rw [failQ, if_pos hc]; exact s5
      have G := G.put 1 rfl s5 rfl
      have h0 := G.blk 0 rfl; try have h1 := G.blk 1 rfl; try have h2 := G.blk 2 rfl; try have h3 := G.blk 3 rfl; try have h4 := G.blk 4 rfl; try have h5 := G.blk 5 rfl
      have k5 := (k3.no k4).from0' s5.kp fun i hi e => by have := n.ge; omega
      (repeat refine Zlr ?_)
      refine s_stw (vs := qc X (failQ X k q)) rfl rfl rfl rfl rfl h0 rfl (fun w6 s6 => ?_)
      have G := G.put 0 rfl s6 rfl
      have h0 := G.blk 0 rfl; try have h1 := G.blk 1 rfl; try have h2 := G.blk 2 rfl; try have h3 := G.blk 3 rfl; try have h4 := G.blk 4 rfl; try have h5 := G.blk 5 rfl
      (repeat refine Zlr ?_)
      exact ret_c1 rfl (rv_agw rfl h0 rfl rfl) ⟨rfl, k5.from0' s6.kp fun i hi e => by have := n2.ge; have := n.kp.size; omega⟩
  · (repeat refine Zlr ?_)
    refine s_stw (vs := qc X q) rfl rfl rfl rfl rfl h0 rfl (fun w6 s6 => ?_)
    have G := G.put 0 rfl s6 rfl
    have h0 := G.blk 0 rfl; try have h1 := G.blk 1 rfl; try have h2 := G.blk 2 rfl; try have h3 := G.blk 3 rfl; try have h4 := G.blk 4 rfl; try have h5 := G.blk 5 rfl
    (repeat refine Zlr ?_)
    exact ret_c1 rfl (rv_agw rfl h0 rfl rfl) ⟨by rw [failQ, if_neg hc], k2.from0' s6.kp fun i hi e => by have := n2.ge; have := n.kp.size; omega⟩
theorem isF (h : Aq X w q) (y : ByteArray) (hy : B y ≠ []) : Ret Tryz.prog 57 [qv X q, .string y] w fun v w1 => v = .bool (isQ X (B y) q) ∧ Kp No w w1 := by
  obtain ⟨t, ht, e1, e2, e3⟩ := h.tok
  have hl := h.lt
  refine ret_enter Tryz.func57 rfl Tryz.ntmps57 rfl ?_
  (repeat refine Zlr ?_)
  refine s_box (cs := qc X q) rfl rfl (fun b w1 n => ?_)
  have G := (Wb.start h).new n
  have h0 := G.blk 0 rfl; try have h1 := G.blk 1 rfl; try have h2 := G.blk 2 rfl; try have h3 := G.blk 3 rfl; try have h4 := G.blk 4 rfl; try have h5 := G.blk 5 rfl
  obtain ⟨c1, c2, c3⟩ := G.at_.tokens _ _ ht
  (repeat refine Zlr ?_)
  by_cases hc : q.c = 0
  · refine s_set 8 true rfl (beq_iff_eq.2 hc) ?_
    (repeat (first | refine Zlr ?_ | refine Zn ?_ | refine Zu ?_ | refine Zg ?_ | refine Zgl ?_))
    refine s_gv rfl (r_ia rfl rfl rfl rfl (by omega) (by omega)) ?_
    (repeat (first | refine Zlr ?_ | refine Zn ?_ | refine Zu ?_ | refine Zg ?_ | refine Zgl ?_))
    by_cases hk : t.1 = 0
    · refine s_set 18 false rfl (by rw [hk]; rfl) ?_
      (repeat (first | refine Zlr ?_ | refine Zn ?_ | refine Zu ?_ | refine Zg ?_ | refine Zgl ?_))
      refine ret_1 rfl rfl ⟨?_, n.kp⟩
      rw [isQ, decide_eq_false]
      rintro ⟨_, e⟩
      have hlast : wd X.E q.s = [] := by
        have ok := tok_of h.h0
        rw [e3]; exact ok.lastw _ _ ht (ok.k0 _ _ ht hk)
      exact hy (by rw [← e, hlast])
    · refine s_set 18 true rfl (bne_iff_ne.2 hk) ?_
      (repeat (first | refine Zlr ?_ | refine Zn ?_ | refine Zu ?_ | refine Zg ?_ | refine Zgl ?_))
      refine s_gcall (us := []) (zs := []) rfl (by kernel_rfl) rfl rfl (wordF G.at_) ?_
      rintro _ w2 ⟨rfl, k2⟩
      (repeat (first | refine Zlr ?_ | refine Zn ?_ | refine Zu ?_ | refine Zg ?_ | refine Zgl ?_))
      refine ret_1 rfl rfl ⟨?_, n.kp.no k2⟩
      rw [str_eq, B_nums h.wd_rng, isQ]
      simp only [hc, true_and]
  · refine s_set 8 false rfl (beq_eq_false_iff_ne.2 hc) ?_
    (repeat (first | refine Zlr ?_ | refine Zn ?_ | refine Zu ?_ | refine Zg ?_ | refine Zgl ?_))
    refine ret_1 rfl rfl ⟨?_, n.kp⟩
    rw [isQ, decide_eq_false (fun h => hc h.1)]
theorem wantF (h : Aq X w q) (y : ByteArray) (hy : B y ≠ []) : Ret Tryz.prog 60 [qv X q, .string y] w fun v w1 => v = qv X (wantQ X (B y) q) ∧ Kp No w w1 := by
  have hl := h.lt
  have hsm := h.small
  refine ret_enter Tryz.func60 rfl Tryz.ntmps60 rfl ?_
  (repeat refine Zlr ?_)
  refine s_box (cs := qc X q) rfl rfl (fun b w1 n => ?_)
  have G := (Wb.start h).new n
  (repeat refine Zlr ?_)
  refine s_al rfl (fun b2 w2 n2 => ?_)
  have G := G.new n2
  have h0 := G.blk 0 rfl; try have h1 := G.blk 1 rfl; try have h2 := G.blk 2 rfl; try have h3 := G.blk 3 rfl; try have h4 := G.blk 4 rfl; try have h5 := G.blk 5 rfl
  have k2 := n.kp.no n2.kp
  (repeat refine Zlr ?_)
  refine s_call (us := []) (zs := []) (by kernel_rfl) rfl rfl (isF G.at_ y hy) ?_
  rintro _ w3 ⟨rfl, k3⟩
  have G := G.no k3
  have h0 := G.blk 0 rfl; try have h1 := G.blk 1 rfl; try have h2 := G.blk 2 rfl; try have h3 := G.blk 3 rfl; try have h4 := G.blk 4 rfl; try have h5 := G.blk 5 rfl
  have k3 := k2.no k3
  (repeat refine Zlr ?_)
  by_cases hq : q.c = 0 ∧ wd X.E q.s = B y
  · have e : isQ X (B y) q = true := decide_eq_true hq
    refine c_f (by show Value.bool (!isQ X (B y) q) = _; rw [e]; rfl) ?_
    (repeat refine Zlr ?_)
    refine s_st (vs := [.int .i64 ((q.s.i : Int) + 1)]) rfl rfl rfl rfl rfl h1 (Nat.le_of_ble_eq_true rfl) (fun w5 s5 => ?_)
    have s5 : Sb w3 b (qc X (wantQ X (B y) q)) Tp w5 := by
      rw [wantQ, if_pos hq]; exact s5
    have G := G.put 1 rfl s5 rfl
    have h0 := G.blk 0 rfl; try have h1 := G.blk 1 rfl; try have h2 := G.blk 2 rfl; try have h3 := G.blk 3 rfl; try have h4 := G.blk 4 rfl; try have h5 := G.blk 5 rfl
    have k5 := k3.from0' s5.kp fun i hi e => by have := n.ge; omega
    (repeat refine Zlr ?_)
    refine s_stw (vs := qc X (wantQ X (B y) q)) rfl rfl rfl rfl rfl h0 rfl (fun w6 s6 => ?_)
    have G := G.put 0 rfl s6 rfl
    have h0 := G.blk 0 rfl; try have h1 := G.blk 1 rfl; try have h2 := G.blk 2 rfl; try have h3 := G.blk 3 rfl; try have h4 := G.blk 4 rfl; try have h5 := G.blk 5 rfl
    (repeat refine Zlr ?_)
    exact ret_c1 rfl (rv_agw rfl h0 rfl rfl) ⟨rfl, k5.from0' s6.kp fun i hi e => by have := n2.ge; have := n.kp.size; omega⟩
  · have e : isQ X (B y) q = false := decide_eq_false hq
    refine c_t (by show Value.bool (!isQ X (B y) q) = _; rw [e]; rfl) ?_
    (repeat refine Zlr ?_)
    refine s_call (us := []) (zs := []) (by kernel_rfl) rfl rfl (failF 3 G.at_) ?_
    rintro _ w4 ⟨rfl, k4⟩
    have G := G.no k4
    have h0 := G.blk 0 rfl; try have h1 := G.blk 1 rfl; try have h2 := G.blk 2 rfl; try have h3 := G.blk 3 rfl; try have h4 := G.blk 4 rfl; try have h5 := G.blk 5 rfl
    have k4 := k3.no k4
    (repeat refine Zlr ?_)
    refine s_stw (vs := qc X (failQ X 3 q)) rfl rfl rfl rfl rfl h0 rfl (fun w6 s6 => ?_)
    have G := G.put 0 rfl s6 rfl
    have h0 := G.blk 0 rfl; try have h1 := G.blk 1 rfl; try have h2 := G.blk 2 rfl; try have h3 := G.blk 3 rfl; try have h4 := G.blk 4 rfl; try have h5 := G.blk 5 rfl
    (repeat refine Zlr ?_)
    exact ret_c1 rfl (rv_agw rfl h0 rfl rfl) ⟨by rw [wantQ, if_neg hq], k4.from0' s6.kp fun i hi e => by have := n2.ge; have := n.kp.size; omega⟩
theorem deepF (h : Aq X w q) (d : Int) : Ret Tryz.prog 91 [qv X q, .int .i64 d] w fun v w1 => v = qv X (deepQ X d q) ∧ Kp No w w1 := by
  refine ret_enter Tryz.func91 rfl Tryz.ntmps91 rfl ?_
  (repeat refine Zlr ?_)
  refine s_box (cs := qc X q) rfl rfl (fun b w1 n => ?_)
  have G := (Wb.start h).new n
  (repeat refine Zlr ?_)
  refine s_al rfl (fun b2 w2 n2 => ?_)
  have G := G.new n2
  have h0 := G.blk 0 rfl; try have h1 := G.blk 1 rfl; try have h2 := G.blk 2 rfl; try have h3 := G.blk 3 rfl; try have h4 := G.blk 4 rfl; try have h5 := G.blk 5 rfl
  have k2 := n.kp.no n2.kp
  (repeat refine Zlr ?_)
  refine c_dec rfl (fun hd => ?_) (fun hd => ?_)
  · (repeat refine Zlr ?_)
    refine s_call (us := []) (zs := []) (by kernel_rfl) rfl rfl (failF 4 G.at_) ?_
    rintro _ w4 ⟨rfl, k4⟩
    have G := G.no k4
    have h0 := G.blk 0 rfl; try have h1 := G.blk 1 rfl; try have h2 := G.blk 2 rfl; try have h3 := G.blk 3 rfl; try have h4 := G.blk 4 rfl; try have h5 := G.blk 5 rfl
    have k4 := k2.no k4
    (repeat refine Zlr ?_)
    refine s_stw (vs := qc X (failQ X 4 q)) rfl rfl rfl rfl rfl h0 rfl (fun w6 s6 => ?_)
    have G := G.put 0 rfl s6 rfl
    have h0 := G.blk 0 rfl; try have h1 := G.blk 1 rfl; try have h2 := G.blk 2 rfl; try have h3 := G.blk 3 rfl; try have h4 := G.blk 4 rfl; try have h5 := G.blk 5 rfl
    (repeat refine Zlr ?_)
    exact ret_c1 rfl (rv_agw rfl h0 rfl rfl) ⟨by rw [deepQ, if_pos (by omega)], k4.from0' s6.kp fun i hi e => by have := n2.ge; have := n.kp.size; omega⟩
  · (repeat refine Zlr ?_)
    refine s_stw (vs := qc X q) rfl rfl rfl rfl rfl h0 rfl (fun w6 s6 => ?_)
    have G := G.put 0 rfl s6 rfl
    have h0 := G.blk 0 rfl; try have h1 := G.blk 1 rfl; try have h2 := G.blk 2 rfl; try have h3 := G.blk 3 rfl; try have h4 := G.blk 4 rfl; try have h5 := G.blk 5 rfl
    (repeat refine Zlr ?_)
    exact ret_c1 rfl (rv_agw rfl h0 rfl rfl) ⟨by rw [deepQ, if_neg (by omega)], k2.from0' s6.kp fun i hi e => by have := n2.ge; have := n.kp.size; omega⟩
theorem kindF (h : Aq X w q) (k : Int) (hk : k ≠ 0) : Ret Tryz.prog 59 [qv X q, .int .i64 k] w fun v w1 => v = .tuple #[qv X (kindQ X k q), sv (kindW X k q)] ∧ Kp No w w1 := by
  obtain ⟨t, ht, e1, e2, e3⟩ := h.tok
  have hl := h.lt
  have hsm := h.small
  refine ret_enter Tryz.func59 rfl Tryz.ntmps59 rfl ?_
  (repeat refine Zlr ?_)
  refine s_box (cs := qc X q) rfl rfl (fun b w1 n => ?_)
  have G := (Wb.start h).new n
  (repeat refine Zlr ?_)
  refine s_al rfl (fun b2 w2 n2 => ?_)
  have G := G.new n2
  have h0 := G.blk 0 rfl; try have h1 := G.blk 1 rfl; try have h2 := G.blk 2 rfl; try have h3 := G.blk 3 rfl; try have h4 := G.blk 4 rfl; try have h5 := G.blk 5 rfl
  have k2 := n.kp.no n2.kp
  obtain ⟨c1, c2, c3⟩ := G.at_.tokens _ _ ht
  (repeat refine Zlr ?_)
  have bad : ¬ (q.c = 0 ∧ kd X.E q.s = k) → kindQ X k q = failQ X 3 q ∧ kindW X k q = [] := fun h => ⟨if_neg h, if_neg h⟩
  have good : (q.c = 0 ∧ kd X.E q.s = k) → kindQ X k q = { q with s := adv q.s } ∧ kindW X k q = wd X.E q.s := fun h => ⟨if_pos h, if_pos h⟩
  by_cases hc : q.c = 0
  · refine s_set 10 false rfl (bne_eq_false_iff_eq.2 hc) ?_
    (repeat (first | refine Zlr ?_ | refine Zn ?_ | refine Zu ?_ | refine Zg ?_ | refine Zgl ?_))
    refine s_gv rfl (r_ia rfl rfl rfl rfl (by omega) (by omega)) ?_
    (repeat (first | refine Zlr ?_ | refine Zn ?_ | refine Zu ?_ | refine Zg ?_ | refine Zgl ?_))
    refine c_ne rfl (fun hk => ?_) (fun hk => ?_)
    · obtain ⟨b1, b2'⟩ := bad (fun h => hk (by rw [← e1]; exact h.2))
      rw [b1, b2']
      (repeat refine Zlr ?_)
      refine s_call (us := []) (zs := []) (by kernel_rfl) rfl rfl (failF 3 G.at_) ?_
      rintro _ w4 ⟨rfl, k4⟩
      have G := G.no k4
      have h0 := G.blk 0 rfl; try have h1 := G.blk 1 rfl; try have h2 := G.blk 2 rfl; try have h3 := G.blk 3 rfl; try have h4 := G.blk 4 rfl; try have h5 := G.blk 5 rfl
      have k4 := k2.no k4
      (repeat refine Zlr ?_)
      refine s_stw (vs := qc X (failQ X 3 q)) rfl rfl rfl rfl rfl h0 rfl (fun w6 s6 => ?_)
      have G := G.put 0 rfl s6 rfl
      have h0 := G.blk 0 rfl; try have h1 := G.blk 1 rfl; try have h2 := G.blk 2 rfl; try have h3 := G.blk 3 rfl; try have h4 := G.blk 4 rfl; try have h5 := G.blk 5 rfl
      (repeat refine Zlr ?_)
      exact ret_c2 rfl (rv_agw rfl h0 rfl rfl) (rv_t rfl) ⟨rfl, k4.from0' s6.kp fun i hi e => by have := n2.ge; have := n.kp.size; omega⟩
    · obtain ⟨b1, b2'⟩ := good ⟨hc, by rw [e1]; exact hk⟩
      rw [b1, b2']
      (repeat refine Zlr ?_)
      refine s_call (us := []) (zs := []) (by kernel_rfl) rfl rfl (wordF G.at_) ?_
      rintro _ w4 ⟨rfl, k4⟩
      have G := G.no k4
      have h0 := G.blk 0 rfl; try have h1 := G.blk 1 rfl; try have h2 := G.blk 2 rfl; try have h3 := G.blk 3 rfl; try have h4 := G.blk 4 rfl; try have h5 := G.blk 5 rfl
      have k4 := k2.no k4
      (repeat refine Zlr ?_)
      refine s_st (vs := [.int .i64 ((q.s.i : Int) + 1)]) rfl rfl rfl rfl rfl h1 (Nat.le_of_ble_eq_true rfl) (fun w5 s5 => ?_)
      have s5 : Sb w4 b (qc X { q with s := adv q.s }) Tp w5 := s5
      have G := G.put 1 rfl s5 rfl
      have h0 := G.blk 0 rfl; try have h1 := G.blk 1 rfl; try have h2 := G.blk 2 rfl; try have h3 := G.blk 3 rfl; try have h4 := G.blk 4 rfl; try have h5 := G.blk 5 rfl
      have k5 := k4.from0' s5.kp fun i hi e => by have := n.ge; omega
      (repeat refine Zlr ?_)
      refine s_stw (vs := qc X { q with s := adv q.s }) rfl rfl rfl rfl rfl h0 rfl (fun w6 s6 => ?_)
      have G := G.put 0 rfl s6 rfl
      have h0 := G.blk 0 rfl; try have h1 := G.blk 1 rfl; try have h2 := G.blk 2 rfl; try have h3 := G.blk 3 rfl; try have h4 := G.blk 4 rfl; try have h5 := G.blk 5 rfl
      (repeat refine Zlr ?_)
      exact ret_c2 rfl (rv_agw rfl h0 rfl rfl) (rv_t rfl) ⟨rfl, k5.from0' s6.kp fun i hi e => by have := n2.ge; have := n.kp.size; omega⟩
  · obtain ⟨b1, b2'⟩ := bad (fun h => hc h.1)
    rw [b1, b2']
    refine s_set 10 true rfl (bne_iff_ne.2 hc) ?_
    (repeat (first | refine Zlr ?_ | refine Zn ?_ | refine Zu ?_ | refine Zg ?_ | refine Zgl ?_))
    refine c_t rfl ?_
    (repeat refine Zlr ?_)
    refine s_call (us := []) (zs := []) (by kernel_rfl) rfl rfl (failF 3 G.at_) ?_
    rintro _ w4 ⟨rfl, k4⟩
    have G := G.no k4
    have h0 := G.blk 0 rfl; try have h1 := G.blk 1 rfl; try have h2 := G.blk 2 rfl; try have h3 := G.blk 3 rfl; try have h4 := G.blk 4 rfl; try have h5 := G.blk 5 rfl
    have k4 := k2.no k4
    (repeat refine Zlr ?_)
    refine s_stw (vs := qc X (failQ X 3 q)) rfl rfl rfl rfl rfl h0 rfl (fun w6 s6 => ?_)
    have G := G.put 0 rfl s6 rfl
    have h0 := G.blk 0 rfl; try have h1 := G.blk 1 rfl; try have h2 := G.blk 2 rfl; try have h3 := G.blk 3 rfl; try have h4 := G.blk 4 rfl; try have h5 := G.blk 5 rfl
    (repeat refine Zlr ?_)
    exact ret_c2 rfl (rv_agw rfl h0 rfl rfl) (rv_t rfl) ⟨rfl, k4.from0' s6.kp fun i hi e => by have := n2.ge; have := n.kp.size; omega⟩
theorem numberF (x : ByteArray) (w : World) (hs : x.size ≤ 18) (hd : ∀ c ∈ B x, 48 ≤ c ∧ c ≤ 57) : Ret Tryz.prog 112 [.string x] w fun v w1 => v = .int .i64 (num (B x)) ∧ w1 = w := by
  have hlen := B_len x
  refine ret_enter Tryz.func112 rfl Tryz.ntmps112 rfl ?_
  (repeat refine Zr ?_)
  refine k_loop (σ := Nat) (fun i => [(0, .string x), (3, .int .i64 (num ((B x).take i))), (4, .int .i64 (i : Int))]) (fun i w1 => w1 = w ∧ i ≤ x.size) (fun i => x.size - i) 0 ⟨rfl, rfl, rfl, trivial⟩ ⟨rfl, Nat.zero_le _⟩ ?_
  rintro i l w1 ⟨rfl, hi⟩
  (repeat refine Zr ?_)
  refine c_dec rfl (fun q => ?_) (fun q => ?_)
  · have q : i < x.size := by omega
    obtain ⟨c, hc⟩ : ∃ c, (B x)[i]? = some c := ⟨_, List.getElem?_eq_getElem (by omega)⟩
    have hb := B_get hc
    have h2 := hd c (List.mem_of_getElem? hc)
    obtain ⟨h3, h4⟩ := num_tk (B x) hd i (by omega)
    have h5 : (10 : Int) ^ i ≤ 10 ^ 17 := (show ∀ j : Fin 18, (10 : Int) ^ (j : Nat) ≤ 10 ^ 17 by decide) ⟨i, by omega⟩
    have h6 : num ((B x).take i) < 100000000000000000 := by
      have : (10 : Int) ^ 17 = 100000000000000000 := by decide
      omega
    have hst := num_step (B x) i c hc
    (repeat refine Zr ?_)
    refine s_v (r_ix rfl rfl rfl (by omega) (by omega)) ?_
    rw [hb]
    (repeat refine Zr ?_)
    refine l_next (i + 1) ⟨rfl, by
      show Value.int .i64 (IntKind.i64.wrap (num ((B x).take i) * 10 + IntKind.i64.wrap (IntKind.u8.wrap (c - 48)))) = _
      rw [wrap_u8 (n := c - 48) (by omega), show IntKind.i64.wrap (c - 48) = c - 48 from wrap_in (by omega), show IntKind.i64.wrap (num ((B x).take i) * 10 + (c - 48)) = num ((B x).take i) * 10 + (c - 48) from wrap_in (by omega), hst], rfl, trivial⟩ ⟨rfl, by omega⟩ (by omega)
  · (repeat refine Zr ?_)
    have : i = x.size := by omega
    refine ret_1 rfl rfl ⟨?_, rfl⟩
    rw [this, ← hlen, List.take_length]
end
end Go.Proofs.YtfnbgbeinmekgaaGreatDoor.Rf
namespace Go.Proofs.YtfnbgbeinmekgaaGreatDoor.Rf
open Go Go.RowKit Fw Sy
set_option linter.unusedVariables false
set_option maxRecDepth 20000
/-- What a part answers: the state that goes on, and a number. -/
def RecS (X : Cr) (w : World) (q : Q) (r : Rs Int) (v : Value) (w' : World) : Prop := ∃ q' a, v = .tuple #[qv X q', .int .i64 a] ∧ Sg X w q w' q' ∧ Res r q' a
section
variable {X : Cr} {w : World} {q : Q}
theorem own_x {w w' : World} {base0 : Nat} {e0 : TypeId} {size0 : Nat} {v0 : Value} {n0 : Nat} {cs0 : List Value} {k0 : Nat} {xs : List Value} {v : Value} (o0 : w.ownsRow base0 e0 size0 v0 n0 cs0) (ap : Ap w 0 e0 size0 v0 k0 xs v w') {base : Nat} {e : TypeId} {size : Nat} {u : Value} {n : Nat} {cs : List Value} (h : w.ownsRow base e size u n cs) (he : Nat.beq e e0 = false) : w'.ownsRow base e size u n cs :=
  own_kp h ap.kp fun g hg e' => by
    obtain ⟨c, hc⟩ := own_ty h hg
    obtain ⟨c0, hc0⟩ := own_ty o0 e'.symm
    exact ty_ne hc hc0 he rfl
theorem Sg.putx (h : Aq X w q) (hc : q.c = 0) {x : Ex} {a la : Option Addr} {n c ln lc : Nat} {w' : World} {rx : List (Ex × Value)} (e1 : rx.map Prod.fst = q.s.ex) (o1 : w.ownsRow 0 67 9 q.x.v q.s.ex.length (rx.flatMap exC)) (l1 : ∀ r ∈ rx, LI w r.2 r.1.l ∧ Ow q.V r.2)
    (hl : LI w (.slice la ln lc) x.l) (how : Ow q.V (.slice la ln lc)) (hx : q.s.ex.length + 1 ≤ q.s.i) (ap : Ap w 0 67 9 q.x.v (q.s.ex.length + 1) (rx.flatMap exC ++ exC (x, .slice la ln lc)) (.slice a n c) w') :
    Sg X w q w' { q with s := { q.s with ex := q.s.ex ++ [x] }, x := ⟨a, n, c⟩ } := by
  obtain ⟨g1, g2, g3, g4, g5, g6, g7⟩ := h.gd hc
  have P : ∀ {base : Nat} {e : TypeId} {size : Nat} {v : Value} {n : Nat} {cs : List Value}, w.ownsRow base e size v n cs → Nat.beq e 67 = false → w'.ownsRow base e size v n cs := fun ho he => own_x o1 ap ho he
  obtain ⟨ry, a2, o2, l2⟩ := g2
  obtain ⟨rz, a3, o3, l3⟩ := g3
  refine ⟨⟨h.h0, P h.tk rfl, h.lt, fun _ => ⟨⟨rx ++ [(x, .slice la ln lc)], by simp [e1], ?_, ?_⟩, ⟨ry, a2, P o2 rfl, fun r hr => ⟨⟨P (l2 r hr).1.1 rfl, (l2 r hr).1.2⟩, P (l2 r hr).2.1 rfl, (l2 r hr).2.2⟩⟩,
    ⟨rz, a3, P o3 rfl, fun r hr => ⟨⟨P (l3 r hr).1.1 rfl, (l3 r hr).1.2⟩, P (l3 r hr).2.1 rfl, (l3 r hr).2.2⟩⟩, ?_, g5, g6, fun b hb => Nat.lt_of_lt_of_le (g7 b hb) ap.kp.size⟩⟩, ap.kp.mono fun i _ e => ⟨hc, .inl e.symm⟩, fun b hb hs => ?_, fun b _ _ ho => ⟨hc, ho⟩⟩
  · rw [List.flatMap_append]
    simpa using ap.own
  · intro r hr
    rcases List.mem_append.1 hr with hr | hr
    · exact ⟨P (l1 r hr).1 rfl, (l1 r hr).2⟩
    · rw [List.mem_singleton] at hr; subst hr; exact ⟨P hl rfl, how⟩
  · show (q.s.ex ++ [x]).length ≤ q.s.i
    rw [List.length_append, List.length_singleton]; exact hx
  · rcases hs.2 with hs | hs | hs
    · rcases ap.row b hs with h1 | h1
      · exact ⟨hc, .inl h1⟩
      · omega
    · exact ⟨hc, .inr (.inl hs)⟩
    · exact ⟨hc, .inr (.inr hs)⟩
theorem Sg.puty (h : Aq X w q) (hc : q.c = 0) {x : St} {a la ma : Option Addr} {n c ln lc mn mc : Nat} {w' : World} {ry : List (St × Value × Value)} (e1 : ry.map Prod.fst = q.s.st) (o1 : w.ownsRow 0 42 9 q.y.v q.s.st.length (ry.flatMap stC)) (l1 : ∀ r ∈ ry, (LI w r.2.1 r.1.th ∧ Ow q.V r.2.1) ∧ LI w r.2.2 r.1.el ∧ Ow q.V r.2.2)
    (hl : LI w (.slice la ln lc) x.th) (how : Ow q.V (.slice la ln lc)) (hm : LI w (.slice ma mn mc) x.el) (hom : Ow q.V (.slice ma mn mc)) (hx : q.s.st.length + 1 ≤ 1000) (ap : Ap w 0 42 9 q.y.v (q.s.st.length + 1) (ry.flatMap stC ++ stC (x, .slice la ln lc, .slice ma mn mc)) (.slice a n c) w') :
    Sg X w q w' { q with s := { q.s with st := q.s.st ++ [x] }, y := ⟨a, n, c⟩ } := by
  obtain ⟨g1, g2, g3, g4, g5, g6, g7⟩ := h.gd hc
  have P : ∀ {base : Nat} {e : TypeId} {size : Nat} {v : Value} {n : Nat} {cs : List Value}, w.ownsRow base e size v n cs → Nat.beq e 42 = false → w'.ownsRow base e size v n cs := fun ho he => own_x o1 ap ho he
  obtain ⟨rx, a2, o2, l2⟩ := g1
  obtain ⟨rz, a3, o3, l3⟩ := g3
  refine ⟨⟨h.h0, P h.tk rfl, h.lt, fun _ => ⟨⟨rx, a2, P o2 rfl, fun r hr => ⟨P (l2 r hr).1 rfl, (l2 r hr).2⟩⟩, ⟨ry ++ [(x, .slice la ln lc, .slice ma mn mc)], by simp [e1], ?_, ?_⟩,
    ⟨rz, a3, P o3 rfl, fun r hr => ⟨⟨P (l3 r hr).1.1 rfl, (l3 r hr).1.2⟩, P (l3 r hr).2.1 rfl, (l3 r hr).2.2⟩⟩, g4, ?_, g6, fun b hb => Nat.lt_of_lt_of_le (g7 b hb) ap.kp.size⟩⟩, ap.kp.mono fun i _ e => ⟨hc, .inr (.inl e.symm)⟩, fun b hb hs => ?_, fun b _ _ ho => ⟨hc, ho⟩⟩
  · rw [List.flatMap_append]
    simpa using ap.own
  · intro r hr
    rcases List.mem_append.1 hr with hr | hr
    · exact ⟨⟨P (l1 r hr).1.1 rfl, (l1 r hr).1.2⟩, P (l1 r hr).2.1 rfl, (l1 r hr).2.2⟩
    · rw [List.mem_singleton] at hr; subst hr; exact ⟨⟨P hl rfl, how⟩, P hm rfl, hom⟩
  · show (q.s.st ++ [x]).length ≤ 1000
    rw [List.length_append, List.length_singleton]; exact hx
  · rcases hs.2 with hs | hs | hs
    · exact ⟨hc, .inl hs⟩
    · rcases ap.row b hs with h1 | h1
      · exact ⟨hc, .inr (.inl h1)⟩
      · omega
    · exact ⟨hc, .inr (.inr hs)⟩
theorem Sg.putz (h : Aq X w q) (hc : q.c = 0) {x : Sy.Fn} {a la ma : Option Addr} {n c ln lc mn mc : Nat} {w' : World} {rz : List (Sy.Fn × Value × Value)} (e1 : rz.map Prod.fst = q.s.fn) (o1 : w.ownsRow 0 62 6 q.z.v q.s.fn.length (rz.flatMap fnC)) (l1 : ∀ r ∈ rz, (LS w r.2.1 r.1.ps ∧ Ow q.V r.2.1) ∧ LI w r.2.2 r.1.bd ∧ Ow q.V r.2.2)
    (hl : LS w (.slice la ln lc) x.ps) (how : Ow q.V (.slice la ln lc)) (hm : LI w (.slice ma mn mc) x.bd) (hom : Ow q.V (.slice ma mn mc)) (hx : q.s.fn.length + 1 ≤ 32) (ap : Ap w 0 62 6 q.z.v (q.s.fn.length + 1) (rz.flatMap fnC ++ fnC (x, .slice la ln lc, .slice ma mn mc)) (.slice a n c) w') :
    Sg X w q w' { q with s := { q.s with fn := q.s.fn ++ [x] }, z := ⟨a, n, c⟩ } := by
  obtain ⟨g1, g2, g3, g4, g5, g6, g7⟩ := h.gd hc
  have P : ∀ {base : Nat} {e : TypeId} {size : Nat} {v : Value} {n : Nat} {cs : List Value}, w.ownsRow base e size v n cs → Nat.beq e 62 = false → w'.ownsRow base e size v n cs := fun ho he => own_x o1 ap ho he
  obtain ⟨rx, a2, o2, l2⟩ := g1
  obtain ⟨ry, a3, o3, l3⟩ := g2
  refine ⟨⟨h.h0, P h.tk rfl, h.lt, fun _ => ⟨⟨rx, a2, P o2 rfl, fun r hr => ⟨P (l2 r hr).1 rfl, (l2 r hr).2⟩⟩,
    ⟨ry, a3, P o3 rfl, fun r hr => ⟨⟨P (l3 r hr).1.1 rfl, (l3 r hr).1.2⟩, P (l3 r hr).2.1 rfl, (l3 r hr).2.2⟩⟩, ⟨rz ++ [(x, .slice la ln lc, .slice ma mn mc)], by simp [e1], ?_, ?_⟩, g4, g5, ?_, fun b hb => Nat.lt_of_lt_of_le (g7 b hb) ap.kp.size⟩⟩, ap.kp.mono fun i _ e => ⟨hc, .inr (.inr e.symm)⟩, fun b hb hs => ?_, fun b _ _ ho => ⟨hc, ho⟩⟩
  · rw [List.flatMap_append]
    simpa using ap.own
  · intro r hr
    rcases List.mem_append.1 hr with hr | hr
    · exact ⟨⟨P (l1 r hr).1.1 rfl, (l1 r hr).1.2⟩, P (l1 r hr).2.1 rfl, (l1 r hr).2.2⟩
    · rw [List.mem_singleton] at hr; subst hr; exact ⟨⟨P hl rfl, how⟩, P hm rfl, hom⟩
  · show (q.s.fn ++ [x]).length ≤ 32
    rw [List.length_append, List.length_singleton]; exact hx
  · rcases hs.2 with hs | hs | hs
    · exact ⟨hc, .inl hs⟩
    · exact ⟨hc, .inr (.inl hs)⟩
    · rcases ap.row b hs with h1 | h1
      · exact ⟨hc, .inr (.inr h1)⟩
      · omega
theorem Gd.ny {w : World} {q : Q} (h : Gd w q) : q.x.n = q.s.ex.length ∧ q.y.n = q.s.st.length ∧ q.z.n = q.s.fn.length := by
  obtain ⟨_, _, o1, _⟩ := h.xs
  obtain ⟨_, _, o2, _⟩ := h.ss
  obtain ⟨_, _, o3, _⟩ := h.fs
  obtain ⟨_, _, e1, _⟩ := own_read o1
  obtain ⟨_, _, e2, _⟩ := own_read o2
  obtain ⟨_, _, e3, _⟩ := own_read o3
  simp only [Value.slice.injEq] at e1 e2 e3
  exact ⟨e1.2.1, e2.2.1, e3.2.1⟩
theorem Aq.prev (h : Aq X w q) (h1 : 1 ≤ q.s.i) : ∃ t, X.T[q.s.i - 1]? = some t ∧ pe X.E q.s = t.2.2 := by
  have hl := h.lt
  have ht : X.T[q.s.i - 1]? = some X.T[q.s.i - 1] := List.getElem?_eq_getElem (by omega)
  exact ⟨_, ht, by simp only [pe, envOf, ht]⟩
set_option maxHeartbeats 1000000 in
theorem putF (h : Aq X w q) (fr : Int) (x : Ex) (la : Option Addr) (ln lc : Nat) (hl : q.c = 0 → LI w (.slice la ln lc) x.l ∧ Ow q.V (.slice la ln lc) ∧ q.s.ex.length + 1 ≤ q.s.i) :
    Ret Tryz.prog 126 [qv X q, .int .i64 fr, .agg (exC (x, .slice la ln lc)).toArray] w (RecS X w q ((stt q).bind fun _ s => Sy.put X.E fr x s)) := by
  have hsm := h.small
  have hlt := h.lt
  refine ret_enter Tryz.func126 rfl Tryz.ntmps126 rfl ?_
  (repeat refine Zlr ?_)
  refine s_box (cs := qc X q) rfl rfl (fun b w n => ?_)
  have G := (Wb.start h).new n
  (repeat refine Zlr ?_)
  refine s_box (cs := exC (x, .slice la ln lc)) rfl rfl (fun b2 w n2 => ?_)
  have G := G.new n2
  (repeat refine Zlr ?_)
  refine s_al rfl (fun b3 w n3 => ?_)
  have G := G.new n3
  have k3 := (n.kp.no n2.kp).no n3.kp
  have h0 := G.blk 0 rfl; try have h1 := G.blk 1 rfl; try have h2 := G.blk 2 rfl; try have h3 := G.blk 3 rfl; try have h4 := G.blk 4 rfl; try have h5 := G.blk 5 rfl
  (repeat refine Zlr ?_)
  by_cases hc : q.c = 0
  · obtain ⟨hl1, hl2, hl3⟩ := hl hc
    have hl3' := hl3
    refine c_f (by show Value.bool (q.c != 0) = _; rw [bne_eq_false_iff_eq.2 hc]) ?_
    obtain ⟨t, ht, e1⟩ := h.prev (by omega)
    obtain ⟨c1, c2, c3⟩ := G.at_.tokens _ _ ht
    rw [show ((q.s.i - 1 : Nat) : Int) = (q.s.i : Int) - 1 by omega] at c1 c2 c3
    (repeat refine Zlr ?_)
    refine s_v (r_ia rfl rfl rfl rfl (by omega) (by omega)) ?_
    (repeat refine Zlr ?_)
    rw [← e1]
    refine s_st (vs := [.int .i64 fr, .int .i64 (pe X.E q.s)]) rfl rfl rfl rfl rfl h1 (Nat.le_of_ble_eq_true rfl) (fun w s => ?_)
    have s : Sb _ b2 (exC ({ x with f := fr, e := pe X.E q.s }, .slice la ln lc)) _ w := s
    have G := G.put 1 rfl s rfl
    have h0 := G.blk 0 rfl; try have h1 := G.blk 1 rfl; try have h2 := G.blk 2 rfl; try have h3 := G.blk 3 rfl; try have h4 := G.blk 4 rfl; try have h5 := G.blk 5 rfl
    (repeat refine Zlr ?_)
    refine s_bs (cs := exC ({ x with f := fr, e := pe X.E q.s }, .slice la ln lc)) (e := 67) rfl (fun b4 w n4 => ?_)
    have G := G.new n4
    have h0 := G.blk 0 rfl; try have h1 := G.blk 1 rfl; try have h2 := G.blk 2 rfl; try have h3 := G.blk 3 rfl; try have h4 := G.blk 4 rfl; try have h5 := G.blk 5 rfl
    obtain ⟨rx, a1, o1, l1⟩ := (G.at_.gd hc).xs
    have hlw := own_gs h G.sg.gs.kp hl1 rfl
    have hxl : q.s.ex.length ≤ 20001 := by omega
    (repeat refine Zlr ?_)
    refine s_app (v0 := q.x.v) (k := q.s.ex.length) (m := 1) (size := 9) (bytes := 104) (base := 0) (xs := rx.flatMap exC) (news := exC ({ x with f := fr, e := pe X.E q.s }, .slice la ln lc)) rfl rfl rfl rfl rfl rfl rfl rfl o1 rfl (blk_cells h0) rfl rfl (by omega) (by omega) (Nat.zero_le _) ?_
    intro v w ap
    obtain ⟨a9, c9, e9, _⟩ := own_read ap.own
    subst e9
    have G := G.call (Sg.putx (x := { x with f := fr, e := pe X.E q.s }) G.at_ hc a1 o1 l1 hlw hl2 hl3' ap)
    have h0 := G.blk 0 rfl; try have h1 := G.blk 1 rfl; try have h2 := G.blk 2 rfl; try have h3 := G.blk 3 rfl; try have h4 := G.blk 4 rfl; try have h5 := G.blk 5 rfl
    (repeat refine Zlr ?_)
    refine s_st (vs := [.slice a9 (q.s.ex.length + 1) c9]) rfl rfl rfl rfl rfl h3 (Nat.le_of_ble_eq_true rfl) (fun w s => ?_)
    have s : Sb _ b (qc X { q with s := { q.s with ex := q.s.ex ++ [{ x with f := fr, e := pe X.E q.s }] }, x := ⟨a9, q.s.ex.length + 1, c9⟩ }) _ w := s
    have G := G.put 3 rfl s rfl
    have h0 := G.blk 0 rfl; try have h1 := G.blk 1 rfl; try have h2 := G.blk 2 rfl; try have h3 := G.blk 3 rfl; try have h4 := G.blk 4 rfl; try have h5 := G.blk 5 rfl
    generalize hq' : ({ q with s := { q.s with ex := q.s.ex ++ [{ x with f := fr, e := pe X.E q.s }] }, x := ⟨a9, q.s.ex.length + 1, c9⟩ } : Q) = q' at G h0 h1 h2 h3
    have hx' : q'.x.n = q.s.ex.length + 1 ∧ q'.s = { q.s with ex := q.s.ex ++ [{ x with f := fr, e := pe X.E q.s }] } ∧ q'.c = 0 := by rw [← hq']; exact ⟨rfl, rfl, hc⟩
    have hb3 : b ≠ b3 := fun e => by
      have := G.nd 3 1 b _ _ _ _ rfl (by rw [e]; rfl)
      omega
    (repeat refine Zlr ?_)
    refine k_h (fun w' => Kp (fun i => i = b3) w w') [(0, false), (1, false), (2, false), (3, false), (4, false), (5, false), (6, true), (7, false)] 8 (by kernel_rfl) (waits_none) (by kernel_rfl) (by kernel_rfl) (by kernel_rfl) rfl (fun w4 k4 q4 => ?_)
    have k4' : Kp (fun i => i = b3) w w4 := k4.mono fun _ _ h => h.elim
    have G0 := G
    have G := G.no k4
    have h0 := G.blk 0 rfl; try have h1 := G.blk 1 rfl; try have h2 := G.blk 2 rfl; try have h3 := G.blk 3 rfl; try have h4 := G.blk 4 rfl; try have h5 := G.blk 5 rfl
    have hxn := hx'.1
    have hd := fun (w' : World) (hw : Kp (fun i => i = b3) _ w') => hw.get (G0.blk 3 rfl) (fun e => hb3 e)
    refine h_v k4' (fun w' hw => r_ldw rfl (hd w' hw) rfl rfl) ?_
    refine h_v k4' (fun w' hw => r_fa rfl rfl) ?_
    refine h_v k4' (fun w' hw => r_fa rfl rfl) ?_
    refine h_v k4' (fun w' hw => r_ld rfl rfl (cell_of_blk (hd w' hw) rfl)) ?_
    refine h_v k4' (fun w' hw => r_len rfl) ?_
    refine h_v k4' (fun w' hw => r_sub rfl rfl (by omega)) ?_
    refine h_st (vs := qc X q') rfl rfl rfl rfl rfl h1 (Nat.le_of_ble_eq_true rfl) (fun w5 s5 => ⟨fun _ => k4'.trans s5.kp fun _ _ h => h, ?_⟩)
    have s5 : Sb _ b3 (qc X q') _ w5 := s5
    have G := G.put 1 rfl s5 rfl
    have h0 := G.blk 0 rfl; try have h1 := G.blk 1 rfl; try have h2 := G.blk 2 rfl; try have h3 := G.blk 3 rfl; try have h4 := G.blk 4 rfl; try have h5 := G.blk 5 rfl
    have k5' : Kp (fun i => i = b3) _ w5 := k4'.trans s5.kp fun _ _ h => h
    refine h_v k5' (fun w' hw => r_as rfl) ?_
    refine h_nil ?_
    (repeat refine Zlr ?_)
    refine ret_c2 rfl (rv_agw rfl h1 rfl rfl) (rv_t rfl) ⟨q', _, rfl, G.sg, ?_⟩
    rw [stt_c hc, bind_ok]
    exact ⟨hx'.2.2, hx'.2.1, by rw [hxn]; show (q.s.ex.length : Int) = _; omega⟩
  · refine c_t (by show Value.bool (q.c != 0) = _; rw [bne_iff_ne.2 hc]) ?_
    (repeat refine Zlr ?_)
    refine s_stw (vs := qc X q) rfl rfl rfl rfl rfl h0 rfl (fun w6 s6 => ?_)
    have G := G.put 0 rfl s6 rfl
    have h0 := G.blk 0 rfl; try have h1 := G.blk 1 rfl; try have h2 := G.blk 2 rfl; try have h3 := G.blk 3 rfl; try have h4 := G.blk 4 rfl; try have h5 := G.blk 5 rfl
    (repeat refine Zlr ?_)
    exact ret_c2 rfl (rv_agw rfl h0 rfl rfl) (rv_t rfl) ⟨q, 0, rfl, G.sg, by rw [stt_e hc]; exact hc⟩
set_option maxHeartbeats 1000000 in
theorem addF (h : Aq X w q) (fr : Int) (x : St) (la ma : Option Addr) (ln lc mn mc : Nat) (hl : q.c = 0 → (LI w (.slice la ln lc) x.th ∧ Ow q.V (.slice la ln lc)) ∧ (LI w (.slice ma mn mc) x.el ∧ Ow q.V (.slice ma mn mc)) ∧ 1 ≤ q.s.i) :
    Ret Tryz.prog 111 [qv X q, .int .i64 fr, .agg (stC (x, .slice la ln lc, .slice ma mn mc)).toArray] w (RecS X w q ((stt q).bind fun _ s => Sy.add X.E fr x s)) := by
  have hsm := h.small
  have hlt := h.lt
  refine ret_enter Tryz.func111 rfl Tryz.ntmps111 rfl ?_
  (repeat refine Zlr ?_)
  refine s_box (cs := qc X q) rfl rfl (fun b w n => ?_)
  have G := (Wb.start h).new n
  (repeat refine Zlr ?_)
  refine s_box (cs := stC (x, .slice la ln lc, .slice ma mn mc)) rfl rfl (fun b2 w n2 => ?_)
  have G := G.new n2
  (repeat refine Zlr ?_)
  refine s_al rfl (fun b3 w n3 => ?_)
  have G := G.new n3
  have k3 := (n.kp.no n2.kp).no n3.kp
  have h0 := G.blk 0 rfl; try have h1 := G.blk 1 rfl; try have h2 := G.blk 2 rfl; try have h3 := G.blk 3 rfl; try have h4 := G.blk 4 rfl; try have h5 := G.blk 5 rfl
  (repeat refine Zlr ?_)
  by_cases hc : q.c = 0
  · obtain ⟨⟨hl1, hl2⟩, ⟨hm1, hm2⟩, hl3⟩ := hl hc
    obtain ⟨_, hny, _⟩ := (G.at_.gd hc).ny
    refine s_set 11 true rfl (beq_iff_eq.2 hc) ?_
    (repeat (first | refine Zlr ?_ | refine Zn ?_ | refine Zu ?_ | refine Zg ?_ | refine Zgl ?_))
    refine c_dec rfl (fun hge => ?_) (fun hlt' => ?_)
    · have hge : 1000 ≤ q.s.st.length := by omega
      (repeat refine Zlr ?_)
      refine s_call (us := []) (zs := []) (by kernel_rfl) rfl rfl (failF 5 G.at_) ?_
      rintro _ w ⟨rfl, k4⟩
      have G := G.no k4
      have h0 := G.blk 0 rfl; try have h1 := G.blk 1 rfl; try have h2 := G.blk 2 rfl; try have h3 := G.blk 3 rfl; try have h4 := G.blk 4 rfl; try have h5 := G.blk 5 rfl
      (repeat refine Zlr ?_)
      refine s_stw (vs := qc X (failQ X 5 q)) rfl rfl rfl rfl rfl h2 rfl (fun w6 s6 => ?_)
      have G := G.put 2 rfl s6 rfl
      have h0 := G.blk 0 rfl; try have h1 := G.blk 1 rfl; try have h2 := G.blk 2 rfl; try have h3 := G.blk 3 rfl; try have h4 := G.blk 4 rfl; try have h5 := G.blk 5 rfl
      (repeat refine Zlr ?_)
      have hc' : (failQ X 5 q).c ≠ 0 := failQ_c (by decide)
      refine c_t (by show Value.bool ((failQ X 5 q).c != 0) = _; rw [bne_iff_ne.2 hc']) ?_
      (repeat refine Zlr ?_)
      refine s_stw (vs := qc X (failQ X 5 q)) rfl rfl rfl rfl rfl h0 rfl (fun w6 s6 => ?_)
      have G := G.put 0 rfl s6 rfl
      have h0 := G.blk 0 rfl; try have h1 := G.blk 1 rfl; try have h2 := G.blk 2 rfl; try have h3 := G.blk 3 rfl; try have h4 := G.blk 4 rfl; try have h5 := G.blk 5 rfl
      (repeat refine Zlr ?_)
      refine ret_c2 rfl (rv_agw rfl h0 rfl rfl) (rv_t rfl) ⟨failQ X 5 q, 0, rfl, G.sg.call (Sg.fail G.at_ (by decide)), ?_⟩
      rw [stt_c hc, bind_ok, Sy.add, if_pos hge]; exact hc'
    · have hst : q.s.st.length + 1 ≤ 1000 := by omega
      (repeat refine Zlr ?_)
      refine c_f (by show Value.bool (q.c != 0) = _; rw [bne_eq_false_iff_eq.2 hc]) ?_
      obtain ⟨t, ht, e1⟩ := h.prev (by omega)
      obtain ⟨c1, c2, c3⟩ := G.at_.tokens _ _ ht
      rw [show ((q.s.i - 1 : Nat) : Int) = (q.s.i : Int) - 1 by omega] at c1 c2 c3
      (repeat refine Zlr ?_)
      refine s_v (r_ia rfl rfl rfl rfl (by omega) (by omega)) ?_
      (repeat refine Zlr ?_)
      rw [← e1]
      refine s_st (vs := [.int .i64 fr, .int .i64 (pe X.E q.s)]) rfl rfl rfl rfl rfl h1 (Nat.le_of_ble_eq_true rfl) (fun w s => ?_)
      have s : Sb _ b2 (stC ({ x with f := fr, e := pe X.E q.s }, .slice la ln lc, .slice ma mn mc)) _ w := s
      have G := G.put 1 rfl s rfl
      have h0 := G.blk 0 rfl; try have h1 := G.blk 1 rfl; try have h2 := G.blk 2 rfl; try have h3 := G.blk 3 rfl; try have h4 := G.blk 4 rfl; try have h5 := G.blk 5 rfl
      (repeat refine Zlr ?_)
      refine s_bs (cs := stC ({ x with f := fr, e := pe X.E q.s }, .slice la ln lc, .slice ma mn mc)) (e := 42) rfl (fun b4 w n4 => ?_)
      have G := G.new n4
      have h0 := G.blk 0 rfl; try have h1 := G.blk 1 rfl; try have h2 := G.blk 2 rfl; try have h3 := G.blk 3 rfl; try have h4 := G.blk 4 rfl; try have h5 := G.blk 5 rfl
      obtain ⟨rx, a1, o1, l1⟩ := (G.at_.gd hc).ss
      have hlw := own_gs h G.sg.gs.kp hl1 rfl
      have hmw := own_gs h G.sg.gs.kp hm1 rfl
      (repeat refine Zlr ?_)
      refine s_app (v0 := q.y.v) (k := q.s.st.length) (m := 1) (size := 9) (bytes := 112) (base := 0) (xs := rx.flatMap stC) (news := stC ({ x with f := fr, e := pe X.E q.s }, .slice la ln lc, .slice ma mn mc)) rfl rfl rfl rfl rfl rfl rfl rfl o1 rfl (blk_cells h0) rfl rfl (by omega) (by omega) (Nat.zero_le _) ?_
      intro v w ap
      obtain ⟨a9, c9, e9, _⟩ := own_read ap.own
      subst e9
      have G := G.call (Sg.puty (x := { x with f := fr, e := pe X.E q.s }) G.at_ hc a1 o1 l1 hlw hl2 hmw hm2 hst ap)
      have h0 := G.blk 0 rfl; try have h1 := G.blk 1 rfl; try have h2 := G.blk 2 rfl; try have h3 := G.blk 3 rfl; try have h4 := G.blk 4 rfl; try have h5 := G.blk 5 rfl
      (repeat refine Zlr ?_)
      refine s_st (vs := [.slice a9 (q.s.st.length + 1) c9]) rfl rfl rfl rfl rfl h3 (Nat.le_of_ble_eq_true rfl) (fun w s => ?_)
      have s : Sb _ b (qc X { q with s := { q.s with st := q.s.st ++ [{ x with f := fr, e := pe X.E q.s }] }, y := ⟨a9, q.s.st.length + 1, c9⟩ }) _ w := s
      have G := G.put 3 rfl s rfl
      have h0 := G.blk 0 rfl; try have h1 := G.blk 1 rfl; try have h2 := G.blk 2 rfl; try have h3 := G.blk 3 rfl; try have h4 := G.blk 4 rfl; try have h5 := G.blk 5 rfl
      generalize hq' : ({ q with s := { q.s with st := q.s.st ++ [{ x with f := fr, e := pe X.E q.s }] }, y := ⟨a9, q.s.st.length + 1, c9⟩ } : Q) = q' at G h0 h1 h2 h3
      have hx' : q'.y.n = q.s.st.length + 1 ∧ q'.s = { q.s with st := q.s.st ++ [{ x with f := fr, e := pe X.E q.s }] } ∧ q'.c = 0 := by rw [← hq']; exact ⟨rfl, rfl, hc⟩
      have hb3 : b ≠ b3 := fun e => by
        have := G.nd 3 1 b _ _ _ _ rfl (by rw [e]; rfl)
        omega
      (repeat refine Zlr ?_)
      refine k_h (fun w' => Kp (fun i => i = b3) w w') [(0, false), (1, false), (2, false), (3, false), (4, false), (5, false), (6, true), (7, false)] 8 (by kernel_rfl) (waits_none) (by kernel_rfl) (by kernel_rfl) (by kernel_rfl) rfl (fun w4 k4 q4 => ?_)
      have k4' : Kp (fun i => i = b3) w w4 := k4.mono fun _ _ h => h.elim
      have G0 := G
      have G := G.no k4
      have h0 := G.blk 0 rfl; try have h1 := G.blk 1 rfl; try have h2 := G.blk 2 rfl; try have h3 := G.blk 3 rfl; try have h4 := G.blk 4 rfl; try have h5 := G.blk 5 rfl
      have hxn := hx'.1
      have hd := fun (w' : World) (hw : Kp (fun i => i = b3) _ w') => hw.get (G0.blk 3 rfl) (fun e => hb3 e)
      refine h_v k4' (fun w' hw => r_ldw rfl (hd w' hw) rfl rfl) ?_
      refine h_v k4' (fun w' hw => r_fa rfl rfl) ?_
      refine h_v k4' (fun w' hw => r_fa rfl rfl) ?_
      refine h_v k4' (fun w' hw => r_ld rfl rfl (cell_of_blk (hd w' hw) rfl)) ?_
      refine h_v k4' (fun w' hw => r_len rfl) ?_
      refine h_v k4' (fun w' hw => r_sub rfl rfl (by omega)) ?_
      refine h_st (vs := qc X q') rfl rfl rfl rfl rfl h1 (Nat.le_of_ble_eq_true rfl) (fun w5 s5 => ⟨fun _ => k4'.trans s5.kp fun _ _ h => h, ?_⟩)
      have s5 : Sb _ b3 (qc X q') _ w5 := s5
      have G := G.put 1 rfl s5 rfl
      have h0 := G.blk 0 rfl; try have h1 := G.blk 1 rfl; try have h2 := G.blk 2 rfl; try have h3 := G.blk 3 rfl; try have h4 := G.blk 4 rfl; try have h5 := G.blk 5 rfl
      have k5' : Kp (fun i => i = b3) _ w5 := k4'.trans s5.kp fun _ _ h => h
      refine h_v k5' (fun w' hw => r_as rfl) ?_
      refine h_nil ?_
      (repeat refine Zlr ?_)
      refine ret_c2 rfl (rv_agw rfl h1 rfl rfl) (rv_t rfl) ⟨q', _, rfl, G.sg, ?_⟩
      rw [stt_c hc, bind_ok, Sy.add, if_neg (by omega)]
      exact ⟨hx'.2.2, hx'.2.1, by rw [hxn]; show (q.s.st.length : Int) = _; omega⟩
  · refine s_set 11 false rfl (beq_eq_false_iff_ne.2 hc) ?_
    (repeat (first | refine Zlr ?_ | refine Zn ?_ | refine Zu ?_ | refine Zg ?_ | refine Zgl ?_))
    refine c_f rfl ?_
    (repeat refine Zlr ?_)
    refine c_t (by show Value.bool (q.c != 0) = _; rw [bne_iff_ne.2 hc]) ?_
    (repeat refine Zlr ?_)
    refine s_stw (vs := qc X q) rfl rfl rfl rfl rfl h0 rfl (fun w6 s6 => ?_)
    have G := G.put 0 rfl s6 rfl
    have h0 := G.blk 0 rfl; try have h1 := G.blk 1 rfl; try have h2 := G.blk 2 rfl; try have h3 := G.blk 3 rfl; try have h4 := G.blk 4 rfl; try have h5 := G.blk 5 rfl
    (repeat refine Zlr ?_)
    exact ret_c2 rfl (rv_agw rfl h0 rfl rfl) (rv_t rfl) ⟨q, 0, rfl, G.sg, by rw [stt_e hc]; exact hc⟩
end
end Go.Proofs.YtfnbgbeinmekgaaGreatDoor.Rf
namespace Go.Proofs.YtfnbgbeinmekgaaGreatDoor.Rf
open Go Go.RowKit Fw Sy
set_option linter.unusedVariables false
set_option maxRecDepth 20000
/-- A part, from a state on. -/
def On {α : Type} (q : Q) (g : PS → Rs α) : Rs α := (stt q).bind fun _ s => g s
section
variable {α β : Type} {q q1 q2 q' : Q} {g : PS → Rs α} {a : α} {b : β}
theorem On_c (h : q.c = 0) : On q g = g q.s := by rw [On, stt_c h, bind_ok]
theorem On_e (h : q.c ≠ 0) : On q g = .er q.c q.p := by rw [On, stt_e h, bind_er]
theorem On_ne (h : q.c = 0 → g q.s ≠ .out) : On q g ≠ .out := by
  by_cases hc : q.c = 0
  · rw [On_c hc]; exact h hc
  · rw [On_e hc]; exact fun e => by cases e
theorem Res.on (h : Res (On q g) q' a) (hc : q.c = 0) : Res (g q.s) q' a := by rw [On_c hc] at h; exact h
theorem Res.on_er (h : Res (On q g) q' a) (hc : q.c ≠ 0) : q'.c ≠ 0 := by rw [On_e hc] at h; exact h
theorem Res.up (h : Res (On q g) q' a) (hc : q'.c = 0) : q.c = 0 ∧ g q.s = .ok a q'.s := by
  by_cases h1 : q.c = 0
  · exact ⟨h1, (h.on h1).ok hc⟩
  · exact (h.on_er h1 hc).elim
theorem Res.next {r : Rs α} {f : α → PS → Rs β} (h : Res r q1 a) (hr : r.bind f ≠ .out) (hc : q1.c = 0) : f a q1.s ≠ .out := by
  rw [h.ok hc, bind_ok] at hr; exact hr
theorem Res.of_c (hc : q.c = 0) (h : Res (g q.s) q' a) : Res (On q g) q' a := by rw [On_c hc]; exact h
theorem Res.of_er (hc : q.c ≠ 0) (h : q'.c ≠ 0) : Res (On q g) q' a := by rw [On_e hc]; exact h
end
section
variable {X : Cr} {w : World} {q : Q}
theorem want_res (y : List Int) (hc : q.c = 0) : Res (Sy.want X.E y q.s) (wantQ X y q) () := by
  have h : Res (Rf.stt (wantQ X y q)) (wantQ X y q) () := Res.stt
  rw [stt_want, stt_c hc, bind_ok] at h
  exact h
theorem want_er {y : List Int} (h : q.c ≠ 0) : wantQ X y q = q := by rw [wantQ, if_neg (fun e => h e.1), failQ_er h]
theorem want_yes {y : List Int} (hc : q.c = 0) (h : wd X.E q.s = y) : wantQ X y q = { q with s := adv q.s } := if_pos ⟨hc, h⟩
theorem want_c {y : List Int} (h : (wantQ X y q).c = 0) : q.c = 0 ∧ wd X.E q.s = y ∧ wantQ X y q = { q with s := adv q.s } := by
  by_cases e : q.c = 0 ∧ wd X.E q.s = y
  · exact ⟨e.1, e.2, if_pos e⟩
  · rw [wantQ, if_neg e] at h; exact (failQ_c (by decide) h).elim
theorem kind_res (k : Int) (hc : q.c = 0) : Res (knd X.E k q.s) (kindQ X k q) (kindW X k q) := by
  have h := Res.kind (X := X) (q := q) (k := k) trivial
  rw [stt_c hc, bind_ok] at h
  exact h
theorem kind_er {k : Int} (h : q.c ≠ 0) : kindQ X k q = q ∧ kindW X k q = [] := ⟨by rw [kindQ, if_neg (fun e => h e.1), failQ_er h], if_neg fun e => h e.1⟩
theorem kind_c {k : Int} (h : (kindQ X k q).c = 0) : q.c = 0 ∧ kd X.E q.s = k ∧ kindQ X k q = { q with s := adv q.s } ∧ kindW X k q = wd X.E q.s := by
  by_cases e : q.c = 0 ∧ kd X.E q.s = k
  · exact ⟨e.1, e.2, if_pos e, if_pos e⟩
  · rw [kindQ, if_neg e] at h; exact (failQ_c (by decide) h).elim
theorem deep_res (d : Int) (hc : q.c = 0) : Res (Sy.deep X.E d q.s) (deepQ X d q) () := by
  have h : Res (Rf.stt (deepQ X d q)) (deepQ X d q) () := Res.stt
  rw [stt_deep, stt_c hc, bind_ok] at h
  exact h
theorem deep_er {d : Int} (h : q.c ≠ 0) : deepQ X d q = q := by
  rw [deepQ]; split
  · exact failQ_er h
  · rfl
theorem deep_c {d : Int} (h : (deepQ X d q).c = 0) : q.c = 0 ∧ d ≤ 64 ∧ deepQ X d q = q := by
  by_cases e : 64 < d
  · rw [deepQ, if_pos e] at h; exact (failQ_c (by decide) h).elim
  · have e1 : deepQ X d q = q := if_neg e
    rw [e1] at h
    exact ⟨h, by omega, e1⟩
theorem is_yes {y : List Int} (h : isQ X y q = true) : q.c = 0 ∧ wd X.E q.s = y := of_decide_eq_true h
theorem is_no {y : List Int} (h : isQ X y q = false) (hc : q.c = 0) : wd X.E q.s ≠ y := fun e => of_decide_eq_false h ⟨hc, e⟩
end
/-- Calls of small functions in a region that goes on. -/
structure Wk (X : Cr) (L : Lv) : Prop where
  row : ∀ (v : Nat) (d : Int) (q : Q) (w : World), v ≤ 5 → 0 ≤ d ∧ d ≤ 64 → Aq X w q → On q (L.row v d) ≠ .out → Ret Tryz.prog 125 [qv X q, .int .i64 (v : Int), .int .i64 d] w (RecS X w q (On q (L.row v d)))
  expr : ∀ (d : Int) (q : Q) (w : World), 0 ≤ d ∧ d ≤ 65 → Aq X w q → On q (L.expr d) ≠ .out → Ret Tryz.prog 110 [qv X q, .int .i64 d] w (RecS X w q (On q (L.expr d)))
  unary : ∀ (d : Int) (q : Q) (w : World), 0 ≤ d ∧ d ≤ 64 → Aq X w q → On q (L.unary d) ≠ .out → Ret Tryz.prog 135 [qv X q, .int .i64 d] w (RecS X w q (On q (L.unary d)))
  prim : ∀ (d : Int) (q : Q) (w : World), 0 ≤ d ∧ d ≤ 64 → Aq X w q → On q (L.prim d) ≠ .out → Ret Tryz.prog 145 [qv X q, .int .i64 d] w (RecS X w q (On q (L.prim d)))
  stmt : ∀ (d : Int) (q : Q) (w : World), 0 ≤ d ∧ d ≤ 64 → Aq X w q → On q (L.stmt d) ≠ .out → Ret Tryz.prog 92 [qv X q, .int .i64 d] w (RecS X w q (On q (L.stmt d)))
  branch : ∀ (fr d : Int) (q : Q) (w : World), 0 ≤ d ∧ d ≤ 65 → (q.c = 0 → d ≤ 64) → Aq X w q → On q (L.branch fr d) ≠ .out → Ret Tryz.prog 109 [qv X q, .int .i64 fr, .int .i64 d] w (RecS X w q (On q (L.branch fr d)))
def signQ (X : Cr) (v : Nat) (q : Q) : List Int := if q.c = 0 ∧ wd X.E q.s ∈ sgs v then wd X.E q.s else []
section
variable {X : Cr} {w : World} {q : Q} {L : Lv}
theorem signsF (v : Nat) (hv : v < 5) (w : World) : Ret Tryz.prog 146 [.int .i64 (v : Int)] w fun u w1 => ∃ b, u = .slice (some ⟨b, 0, none⟩) (sgB v).length (sgB v).length ∧ Nb w b ((sgB v).map Value.string) 9 w1 := by
  refine ret_enter Tryz.func146 rfl Tryz.ntmps146 rfl ?_
  (repeat refine Zlr ?_)
  match v, hv with
  | 0, _ =>
    refine c_t rfl ?_
    (repeat refine Zlr ?_)
    refine s_bs (cs := (sgB 0).map Value.string) (e := 9) rfl (fun b w n => ?_)
    (repeat refine Zlr ?_)
    exact ret_1 rfl rfl ⟨b, rfl, n⟩
  | 1, _ =>
    refine c_f rfl ?_
    (repeat refine Zlr ?_)
    refine c_t rfl ?_
    (repeat refine Zlr ?_)
    refine s_bs (cs := (sgB 1).map Value.string) (e := 9) rfl (fun b w n => ?_)
    (repeat refine Zlr ?_)
    exact ret_1 rfl rfl ⟨b, rfl, n⟩
  | 2, _ =>
    refine c_f rfl ?_
    (repeat refine Zlr ?_)
    refine c_f rfl ?_
    (repeat refine Zlr ?_)
    refine c_t rfl ?_
    (repeat refine Zlr ?_)
    refine s_bs (cs := (sgB 2).map Value.string) (e := 9) rfl (fun b w n => ?_)
    (repeat refine Zlr ?_)
    exact ret_1 rfl rfl ⟨b, rfl, n⟩
  | 3, _ =>
    refine c_f rfl ?_
    (repeat refine Zlr ?_)
    refine c_f rfl ?_
    (repeat refine Zlr ?_)
    refine c_f rfl ?_
    (repeat refine Zlr ?_)
    refine c_t rfl ?_
    (repeat refine Zlr ?_)
    refine s_bs (cs := (sgB 3).map Value.string) (e := 9) rfl (fun b w n => ?_)
    (repeat refine Zlr ?_)
    exact ret_1 rfl rfl ⟨b, rfl, n⟩
  | 4, _ =>
    refine c_f rfl ?_
    (repeat refine Zlr ?_)
    refine c_f rfl ?_
    (repeat refine Zlr ?_)
    refine c_f rfl ?_
    (repeat refine Zlr ?_)
    refine c_f rfl ?_
    (repeat refine Zlr ?_)
    refine s_bs (cs := (sgB 4).map Value.string) (e := 9) rfl (fun b w n => ?_)
    (repeat refine Zlr ?_)
    exact ret_1 rfl rfl ⟨b, rfl, n⟩
theorem signF (h : Aq X w q) (v : Nat) (hv : v < 5) : Ret Tryz.prog 136 [qv X q, .int .i64 (v : Int)] w fun u w1 => u = sv (signQ X v q) ∧ Kp No w w1 := by
  have hm := sgB_B v hv
  have hne := sgB_ne hv
  have hln := sgB_len hv
  refine ret_enter Tryz.func136 rfl Tryz.ntmps136 rfl ?_
  (repeat refine Zlr ?_)
  refine s_box (cs := qc X q) rfl rfl (fun b w1 n => ?_)
  have G := (Wb.start h).new n
  (repeat refine Zlr ?_)
  refine s_call (us := []) (zs := []) (by kernel_rfl) rfl rfl (signsF v hv w1) ?_
  rintro _ w2 ⟨lb, rfl, n2⟩
  have G := G.no n2.kp
  have k2 := n.kp.no n2.kp
  (repeat refine Zlr ?_)
  refine k_loop (σ := Nat) (fun i => [(2, .pointer (some ⟨b, 0, none⟩)), (5, .slice (some ⟨lb, 0, none⟩) (sgB v).length (sgB v).length), (10, .int .i64 ((sgB v).length : Int)), (11, .int .i64 (i : Int))])
    (fun i w' => i ≤ (sgB v).length ∧ Wb X w q w' q [(b, qc X q, Tp)] ∧ w'.heap[lb]? = some (.cells ((sgB v).map Value.string).toArray 9 (0, 0)) ∧ Kp No w w' ∧ ∀ (j : Nat) y, j < i → (sgB v)[j]? = some y → isQ X (B y) q = false) (fun i => (sgB v).length - i) 0 ⟨rfl, rfl, rfl, rfl, trivial⟩ ⟨Nat.zero_le _, G, n2.blk, k2, fun j y hj => by omega⟩ ?_
  rintro i l w3 ⟨hi, G, hl3, k3, hno⟩
  clear k2 n2
  have h0 := G.blk 0 rfl; try have h1 := G.blk 1 rfl; try have h2 := G.blk 2 rfl; try have h3 := G.blk 3 rfl; try have h4 := G.blk 4 rfl; try have h5 := G.blk 5 rfl
  (repeat refine Zlr ?_)
  refine c_dec rfl (fun hlt => ?_) (fun hge => ?_)
  · have hlt : i < (sgB v).length := by omega
    obtain ⟨y, hy⟩ : ∃ y, (sgB v)[i]? = some y := ⟨_, List.getElem?_eq_getElem hlt⟩
    have hyne : B y ≠ [] := fun e => hne (by rw [← e]; exact List.mem_map_of_mem (List.mem_of_getElem? hy))
    have hcell : ∀ w', Kp No w3 w' → w'.cell? ⟨lb, 0 + (i : Int).toNat * 1, none⟩ = some (.string y) := fun w' hw => by
      refine cell_of_blk (hw.get0 hl3) ?_
      rw [List.getElem?_map, show 0 + (i : Int).toNat * 1 = i by omega, hy]; rfl
    (repeat refine Zlr ?_)
    refine k_q (by kernel_rfl) (by kernel_rfl) ?_
    refine q_v (fun w' hw => r_ldw rfl (hw.get0 h0) rfl rfl) ?_
    (repeat (first | refine Zq ?_ | refine Zqn ?_ | refine Zqu ?_ | refine Zqg ?_))
    refine q_v (fun w' hw => r_ld rfl rfl (hcell w' hw)) ?_
    refine q_call (us := []) (zs := []) (v := .bool (isQ X (B y) q)) (by kernel_rfl) rfl rfl (fun w' hw => (isF (G.at_.no hw) y hyne).mono (by rintro _ w4 ⟨rfl, k4⟩; exact ⟨rfl, hw.no k4⟩)) ?_
    refine q_nil (fun w4 k4 => ?_)
    have G := G.no k4
    have hl4 := k4.get0 hl3
    have k4 := k3.no k4
    (repeat refine Zlr ?_)
    refine c_b rfl (fun hb => ?_) (fun hb => ?_)
    · have hc4 : w4.cell? ⟨lb, 0 + (i : Int).toNat * 1, none⟩ = some (.string y) := by
        refine cell_of_blk hl4 ?_
        rw [List.getElem?_map, show 0 + (i : Int).toNat * 1 = i by omega, hy]; rfl
      (repeat refine Zlr ?_)
      refine s_v (r_ia rfl rfl rfl rfl (by omega) (by omega)) ?_
      (repeat refine Zlr ?_)
      obtain ⟨hc, hw⟩ := is_yes hb
      refine ret_1 rfl rfl ⟨?_, k4⟩
      rw [signQ, if_pos ⟨hc, by rw [hw, ← hm]; exact List.mem_map_of_mem (List.mem_of_getElem? hy)⟩, hw, sv_B]
    · (repeat refine Zlr ?_)
      exact l_next (i + 1) ⟨rfl, rfl, rfl, rfl, trivial⟩ ⟨hlt, G, hl4, k4, fun j z hj hz => by
        rcases Nat.lt_or_ge j i with h1 | h1
        · exact hno j z h1 hz
        · have : j = i := by omega
          subst this
          rw [hy] at hz; cases hz
          exact hb⟩ (by omega)
  · (repeat refine Zlr ?_)
    refine ret_1 rfl rfl ⟨?_, k3⟩
    rw [signQ, if_neg]
    · rfl
    · rintro ⟨hc, hw⟩
      rw [← hm] at hw
      obtain ⟨y, hy, e⟩ := List.mem_map.1 hw
      obtain ⟨j, hj⟩ := List.getElem?_of_mem hy
      have hjl := (List.getElem?_eq_some_iff.1 hj).1
      exact is_no (hno j y (by omega) hj) hc e.symm
end
end Go.Proofs.YtfnbgbeinmekgaaGreatDoor.Rf
