/- Pages: At, which ranges over a text's lines. -/
import Derived.Test.YtimgapkngjkagaaDoorPk
namespace Go.Proofs.YtimgapkngjkagaaDoor
open Go Go.RowKit Fw Sp Pp
set_option linter.unusedVariables false
set_option maxRecDepth 20000
namespace Pp
/-- The place of a line and a column, of the lines from here on. -/
def fnd (line col : Int) : Nat → Nat → List (List Int) → Option Int
  | _, _, [] => none
  | n, off, p :: r => if (n : Int) + 1 = line ∧ 1 ≤ col ∧ col ≤ p.length + 1 then some (off + col - 1) else fnd line col (n + 1) (off + (p.length + 1)) r
theorem fnd_pos (line col : Int) : ∀ (f : Nat) (u A : List Int) (n : Nat), u.length ≤ f → pos A = ((n : Int) + 1, 1) →
    (∀ a, fnd line col n A.length (spl 10 u) = some a → ∃ j : Nat, j ≤ u.length ∧ a = (A.length : Int) + j ∧ pos (A ++ u.take j) = (line, col)) ∧
    (fnd line col n A.length (spl 10 u) = none → ∀ j : Nat, j ≤ u.length → pos (A ++ u.take j) ≠ (line, col)) := by
  intro f
  induction f with
  | zero =>
    intro u A n hf hp
    have : u = [] := List.eq_nil_of_length_eq_zero (by omega)
    subst this
    have e : fnd line col n A.length (spl 10 []) = if (n : Int) + 1 = line ∧ 1 ≤ col ∧ col ≤ (0 : Nat) + 1 then some (A.length + col - 1) else none := rfl
    rw [e]
    split
    · rename_i h
      refine ⟨fun a ha => ⟨0, Nat.le_refl _, ?_, ?_⟩, fun h => by cases h⟩
      · cases ha; omega
      · rw [List.take_nil, List.append_nil, hp]
        ext <;> simp only <;> omega
    · rename_i h
      refine ⟨fun a ha => (by cases ha), fun _ j hj e => h ?_⟩
      rw [List.take_nil, List.append_nil, hp] at e
      cases e
      refine ⟨rfl, ?_, ?_⟩ <;> decide
  | succ f ih =>
    intro u A n hf hp
    obtain ⟨p, rest, hsp⟩ : ∃ p rest, spl 10 u = p :: rest := by
      cases h : spl 10 u with
      | nil => exact (spl_ne 10 u h).elim
      | cons p rest => exact ⟨p, rest, rfl⟩
    obtain ⟨q1, q2, q3, q4⟩ := spl_head hsp
    have hj : ∀ j : Nat, j ≤ p.length → pos (A ++ u.take j) = ((n : Int) + 1, 1 + (j : Int)) := by
      intro j hj
      have e : u.take j = p.take j := by rw [← q2, List.take_take]; congr 1; omega
      rw [e, pos_free _ _ (fun x hx => q3 x (List.mem_of_mem_take hx)), hp, List.length_take]
      ext <;> simp only <;> omega
    rw [hsp, fnd]
    split
    · rename_i h
      refine ⟨fun a ha => ⟨(col - 1).toNat, by omega, by cases ha; omega, ?_⟩, fun h => by cases h⟩
      rw [hj _ (by omega)]
      ext <;> simp only <;> omega
    · rename_i h
      have hno : ∀ j : Nat, j ≤ p.length → pos (A ++ u.take j) ≠ (line, col) := by
        intro j hjl e
        rw [hj j hjl] at e
        injection e with e1 e2
        exact h ⟨e1, by omega, by omega⟩
      rcases q4 with ⟨rfl, q4⟩ | ⟨q4, q5⟩
      · exact ⟨fun a ha => (by cases ha), fun _ j hjl => hno j (by omega)⟩
      · have hlt := (List.getElem?_eq_some_iff.1 q4).1
        have e2 : u.take (p.length + 1) = p ++ [10] := by rw [take_snoc q4, q2]
        have e3 : (A ++ u.take (p.length + 1)).length = A.length + (p.length + 1) := by rw [List.length_append, List.length_take]; omega
        have e4 : pos (A ++ u.take (p.length + 1)) = (((n + 1 : Nat) : Int) + 1, 1) := by
          rw [e2, ← List.append_assoc, pos_snoc, pstep, if_pos rfl]
          have := hj p.length (Nat.le_refl _)
          rw [q2] at this
          rw [this]
          ext <;> simp only <;> omega
        have h3 := ih (u.drop (p.length + 1)) (A ++ u.take (p.length + 1)) (n + 1) (by rw [List.length_drop]; omega) e4
        rw [e3, q5] at h3
        have e5 : ∀ j, (A ++ u.take (p.length + 1)) ++ (u.drop (p.length + 1)).take j = A ++ u.take (p.length + 1 + j) := by
          intro j; rw [List.append_assoc, ← List.take_add]
        refine ⟨fun a ha => ?_, fun hn j hjl => ?_⟩
        · obtain ⟨j, g1, g2, g3⟩ := h3.1 a ha
          rw [List.length_drop] at g1
          exact ⟨p.length + 1 + j, by omega, by omega, by rw [← e5]; exact g3⟩
        · by_cases hjp : j ≤ p.length
          · exact hno j hjp
          · have := h3.2 hn (j - (p.length + 1)) (by rw [List.length_drop]; omega)
            rw [e5, show p.length + 1 + (j - (p.length + 1)) = j from by omega] at this
            exact this
/-- What At answers is what its place says. -/
theorem at_some {L : List Int} {line col a : Int} (h : fnd line col 0 0 (spl 10 L) = some a) : ∃ j : Nat, j ≤ L.length ∧ a = j ∧ pos (L.take j) = (line, col) := by
  obtain ⟨j, h1, h2, h3⟩ := (fnd_pos line col L.length L [] 0 (Nat.le_refl _) rfl).1 a h
  exact ⟨j, h1, by rw [h2]; simp, h3⟩
theorem at_none {L : List Int} {line col : Int} (h : fnd line col 0 0 (spl 10 L) = none) : ∀ j : Nat, j ≤ L.length → pos (L.take j) ≠ (line, col) :=
  (fnd_pos line col L.length L [] 0 (Nat.le_refl _) rfl).2 h
def lex (p q : Int × Int) : Prop := p.1 < q.1 ∨ (p.1 = q.1 ∧ p.2 < q.2)
theorem lex_app : ∀ (C A : List Int), C ≠ [] → lex (pos A) (pos (A ++ C)) := by
  intro C
  induction C with
  | nil => intro A h; exact (h rfl).elim
  | cons c C ih =>
    intro A _
    have h1 : lex (pos A) (pos (A ++ [c])) := by
      rw [pos_snoc, pstep]
      split
      · exact .inl (by simp only; omega)
      · exact .inr ⟨rfl, by simp only; omega⟩
    by_cases hC : C = []
    · subst hC; exact h1
    · have h2 := ih (A ++ [c]) hC
      rw [List.append_assoc] at h2
      unfold lex at *
      simp only [List.cons_append, List.nil_append] at h2
      omega
theorem lex_take {L : List Int} {a b : Nat} (h : a < b) (hb : b ≤ L.length) : lex (pos (L.take a)) (pos (L.take b)) := by
  have e : L.take b = L.take a ++ (L.drop a).take (b - a) := by rw [← List.take_add]; congr 1; omega
  rw [e]
  refine lex_app _ _ fun h0 => ?_
  have := congrArg List.length h0
  rw [List.length_take, List.length_drop] at this
  simp at this
  omega
theorem pos_inj {L : List Int} {a b : Nat} (ha : a ≤ L.length) (hb : b ≤ L.length) (h : pos (L.take a) = pos (L.take b)) : a = b := by
  rcases Nat.lt_trichotomy a b with h1 | h1 | h1
  · have := lex_take h1 hb
    rw [h] at this
    unfold lex at this; omega
  · exact h1
  · have := lex_take h1 ha
    rw [h] at this
    unfold lex at this; omega
theorem at_pos {L : List Int} {a : Nat} (ha : a ≤ L.length) : fnd (pos (L.take a)).1 (pos (L.take a)).2 0 0 (spl 10 L) = some (a : Int) := by
  cases h : fnd (pos (L.take a)).1 (pos (L.take a)).2 0 0 (spl 10 L) with
  | none => exact (at_none h a ha rfl).elim
  | some b =>
    obtain ⟨j, h1, rfl, h3⟩ := at_some h
    rw [pos_inj h1 ha h3]
end Pp
namespace Pg
set_option maxHeartbeats 4000000 in
theorem At (s : ByteArray) (line col : Int) (w : World) (hs : s.size ≤ 300) : Ret Tryd.prog 12 [.string s, .int .i64 line, .int .i64 col] w fun v w1 => Kp No w w1 ∧
    ∃ a e : Int, v = .tuple #[.int .i64 a, .int .i64 e] ∧ ((fnd line col 0 0 (spl 10 (B s)) = some a ∧ e = 0) ∨ (fnd line col 0 0 (spl 10 (B s)) = none ∧ a = 0 ∧ e = 15)) := by
  refine ret_enterM Tryd.func12 rfl Tryd.ntmps12 rfl ?_
  (repeat (first | refine k_nil ?_ | refine k_n ?_ | refine k_r ?_ | refine k_x ?_ | refine b_n ?_ | refine b_r ?_ | refine b_y rfl ?_ | refine b_z rfl ?_ | refine l_r ?_ | refine l_x ?_ | refine k_seq ?_ | refine k_blk ?_ | refine k_reg ?_ | refine k_ret ?_ | refine k_exit ?_ | refine k_skip ?_ | refine s_v (r_mv rfl) ?_ | refine s_v (r_as rfl) ?_ | refine s_v (r_add rfl rfl (by omega)) ?_ | refine s_v (r_sub rfl rfl (by omega)) ?_ | refine s_v (r_mul rfl rfl (by omega)) ?_ | refine s_v (r_bin rfl) ?_ | refine s_v (r_fa rfl rfl) ?_ | refine s_v (r_ld rfl rfl (by first | assumption | exact cell_of_blk (by assumption) (by rfl))) ?_ | refine s_v (r_nc rfl) ?_ | refine s_v (r_not rfl) ?_ | refine s_v (r_mf rfl rfl) ?_ | refine s_v (r_len rfl) ?_ | refine s_v (r_ex rfl) ?_ | refine s_v (r_fd rfl) ?_ | refine s_v (r_rem rfl rfl (by omega) (by omega)) ?_ | refine s_v (r_cvi rfl rfl rfl (wrap_in (by omega))) ?_ | refine s_v (r_cv rfl) ?_ | refine s_v (r_peq rfl rfl rfl) ?_ | refine s_v (r_pne rfl rfl rfl) ?_ | refine s_v (r_min rfl rfl) ?_ | refine s_v (r_max rfl rfl) ?_ | refine s_v (r_bd rfl) ?_ | refine s_v (r_pt rfl rfl) ?_ | refine s_v (r_pf rfl rfl) ?_))
  refine s_box rfl rfl (fun b4 w1 n1 => ?_)
  refine s_box rfl rfl (fun b5 w2 n2 => ?_)
  refine s_al rfl (fun b6 w3 n3 => ?_)
  refine s_al rfl (fun b7 w4 n4 => ?_)
  (repeat (first | refine k_nil ?_ | refine k_n ?_ | refine k_r ?_ | refine k_x ?_ | refine b_n ?_ | refine b_r ?_ | refine b_y rfl ?_ | refine b_z rfl ?_ | refine l_r ?_ | refine l_x ?_ | refine k_seq ?_ | refine k_blk ?_ | refine k_reg ?_ | refine k_ret ?_ | refine k_exit ?_ | refine k_skip ?_ | refine s_v (r_mv rfl) ?_ | refine s_v (r_as rfl) ?_ | refine s_v (r_add rfl rfl (by omega)) ?_ | refine s_v (r_sub rfl rfl (by omega)) ?_ | refine s_v (r_mul rfl rfl (by omega)) ?_ | refine s_v (r_bin rfl) ?_ | refine s_v (r_fa rfl rfl) ?_ | refine s_v (r_ld rfl rfl (by first | assumption | exact cell_of_blk (by assumption) (by rfl))) ?_ | refine s_v (r_nc rfl) ?_ | refine s_v (r_not rfl) ?_ | refine s_v (r_mf rfl rfl) ?_ | refine s_v (r_len rfl) ?_ | refine s_v (r_ex rfl) ?_ | refine s_v (r_fd rfl) ?_ | refine s_v (r_rem rfl rfl (by omega) (by omega)) ?_ | refine s_v (r_cvi rfl rfl rfl (wrap_in (by omega))) ?_ | refine s_v (r_cv rfl) ?_ | refine s_v (r_peq rfl rfl rfl) ?_ | refine s_v (r_pne rfl rfl rfl) ?_ | refine s_v (r_min rfl rfl) ?_ | refine s_v (r_max rfl rfl) ?_ | refine s_v (r_bd rfl) ?_ | refine s_v (r_pt rfl rfl) ?_ | refine s_v (r_pf rfl rfl) ?_))
  refine s_al rfl (fun b8 w5 n5 => ?_)
  have g1 := n1.ge
  have g2 := n2.ge
  have g3 := n3.ge
  have g4 := n4.ge
  have g5 := n5.ge
  have y1 := n1.lt
  have y2 := n2.lt
  have y3 := n3.lt
  have y4 := n4.lt
  have y5 := n5.lt
  have z1 := n1.kp.size
  have z2 := n2.kp.size
  have z3 := n3.kp.size
  have z4 := n4.kp.size
  have z5 := n5.kp.size
  refine s_st rfl rfl rfl rfl rfl n5.blk (Nat.le_of_ble_eq_true rfl) (fun w6 s6 => ?_)
  have z6 := s6.sz
  have k6 : Kp No w w6 := ((((n1.kp.no n2.kp).no n3.kp).no n4.kp).no n5.kp).trans s6.kp (fun _ _ e => by omega)
  have e4 := s6.kp.get (n5.kp.get0 (n4.kp.get0 (n3.kp.get0 (n2.kp.get0 n1.blk)))) (by show ¬ b4 = b8; omega)
  have e5 := s6.kp.get (n5.kp.get0 (n4.kp.get0 (n3.kp.get0 n2.blk))) (by show ¬ b5 = b8; omega)
  have e6 := s6.kp.get (n5.kp.get0 (n4.kp.get0 n3.blk)) (by show ¬ b6 = b8; omega)
  have e7 := s6.kp.get (n5.kp.get0 n4.blk) (by show ¬ b7 = b8; omega)
  have e8 := s6.blk
  (repeat (first | refine k_nil ?_ | refine k_n ?_ | refine k_r ?_ | refine k_x ?_ | refine b_n ?_ | refine b_r ?_ | refine b_y rfl ?_ | refine b_z rfl ?_ | refine l_r ?_ | refine l_x ?_ | refine k_seq ?_ | refine k_blk ?_ | refine k_reg ?_ | refine k_ret ?_ | refine k_exit ?_ | refine k_skip ?_ | refine s_v (r_mv rfl) ?_ | refine s_v (r_as rfl) ?_ | refine s_v (r_add rfl rfl (by omega)) ?_ | refine s_v (r_sub rfl rfl (by omega)) ?_ | refine s_v (r_mul rfl rfl (by omega)) ?_ | refine s_v (r_bin rfl) ?_ | refine s_v (r_fa rfl rfl) ?_ | refine s_v (r_ld rfl rfl (by first | assumption | exact cell_of_blk (by assumption) (by rfl))) ?_ | refine s_v (r_nc rfl) ?_ | refine s_v (r_not rfl) ?_ | refine s_v (r_mf rfl rfl) ?_ | refine s_v (r_len rfl) ?_ | refine s_v (r_ex rfl) ?_ | refine s_v (r_fd rfl) ?_ | refine s_v (r_rem rfl rfl (by omega) (by omega)) ?_ | refine s_v (r_cvi rfl rfl rfl (wrap_in (by omega))) ?_ | refine s_v (r_cv rfl) ?_ | refine s_v (r_peq rfl rfl rfl) ?_ | refine s_v (r_pne rfl rfl rfl) ?_ | refine s_v (r_min rfl rfl) ?_ | refine s_v (r_max rfl rfl) ?_ | refine s_v (r_bd rfl) ?_ | refine s_v (r_pt rfl rfl) ?_ | refine s_v (r_pf rfl rfl) ?_))
  refine s_call (us := []) (zs := []) (by kernel_rfl) rfl rfl (LinesF s w6) ?_
  rintro _ w7 ⟨bx, rfl, n7⟩
  have g7 := n7.ge
  have y7 := n7.lt
  have z7 := n7.kp.size
  have k7 := k6.no n7.kp
  obtain ⟨K, hK⟩ : ∃ K, spl 10 (B s) = K := ⟨_, rfl⟩
  have hKl := spl_length 10 (B s)
  rw [hK, B_len] at hKl
  have hll := lns_len (B s)
  rw [hK] at hll
  rw [hK]
  (repeat (first | refine k_nil ?_ | refine k_n ?_ | refine k_r ?_ | refine k_x ?_ | refine b_n ?_ | refine b_r ?_ | refine b_y rfl ?_ | refine b_z rfl ?_ | refine l_r ?_ | refine l_x ?_ | refine k_seq ?_ | refine k_blk ?_ | refine k_reg ?_ | refine k_ret ?_ | refine k_exit ?_ | refine k_skip ?_ | refine s_v (r_mv rfl) ?_ | refine s_v (r_as rfl) ?_ | refine s_v (r_add rfl rfl (by omega)) ?_ | refine s_v (r_sub rfl rfl (by omega)) ?_ | refine s_v (r_mul rfl rfl (by omega)) ?_ | refine s_v (r_bin rfl) ?_ | refine s_v (r_fa rfl rfl) ?_ | refine s_v (r_ld rfl rfl (by first | assumption | exact cell_of_blk (by assumption) (by rfl))) ?_ | refine s_v (r_nc rfl) ?_ | refine s_v (r_not rfl) ?_ | refine s_v (r_mf rfl rfl) ?_ | refine s_v (r_len rfl) ?_ | refine s_v (r_ex rfl) ?_ | refine s_v (r_fd rfl) ?_ | refine s_v (r_rem rfl rfl (by omega) (by omega)) ?_ | refine s_v (r_cvi rfl rfl rfl (wrap_in (by omega))) ?_ | refine s_v (r_cv rfl) ?_ | refine s_v (r_peq rfl rfl rfl) ?_ | refine s_v (r_pne rfl rfl rfl) ?_ | refine s_v (r_min rfl rfl) ?_ | refine s_v (r_max rfl rfl) ?_ | refine s_v (r_bd rfl) ?_ | refine s_v (r_pt rfl rfl) ?_ | refine s_v (r_pf rfl rfl) ?_))
  refine k_range (gf := 14) (lb := [.pointer (some ⟨bx, 0, none⟩)]) (S0 := fun k => k = b6 ∨ k = b7 ∨ k = b8) (ps := [13, 14]) rfl (by kernel_rfl) (linesItr s bx w7 (by omega) n7.blk)
    (fun i S a => (S b6 ∧ S b7 ∧ S b8) ∧ a.heap[b6]? = some (.cells [Value.int .i64 0].toArray 3 (0, 0)) ∧ a.heap[b7]? = some (.cells [Value.int .i64 0].toArray 30 (0, 0)) ∧
      ∃ off : Nat, a.heap[b8]? = some (.cells [Value.int .i64 (off : Int)].toArray 3 (0, 0)) ∧ (i < K.length → off ≤ s.size ∧ spl 10 ((B s).drop off) = K.drop i) ∧ fnd line col 0 0 K = fnd line col i off (K.drop i))
    (fun c i S a => c = .ret ∧ (S b6 ∧ S b7) ∧ ∃ x : Int, fnd line col 0 0 K = some x ∧ a.heap[b6]? = some (.cells [Value.int .i64 x].toArray 3 (0, 0)) ∧ a.heap[b7]? = some (.cells [Value.int .i64 0].toArray 30 (0, 0)))
    ?_ ?_ ?_ ?_ ?_ ?_ ?_ ?_ ?_ ?_
  · rintro i S a b ⟨⟨x1, x2, x3⟩, d6, d7, off, d8, h1, h2⟩ hk
    exact ⟨⟨x1, x2, x3⟩, hk.get d6 (fun h => h x1), hk.get d7 (fun h => h x2), off, hk.get d8 (fun h => h x3), h1, h2⟩
  · rintro c i S a b ⟨rfl, ⟨x1, x2⟩, x, h1, d6, d7⟩ hk
    exact ⟨rfl, ⟨x1, x2⟩, x, h1, hk.get d6 (fun h => h x1), hk.get d7 (fun h => h x2)⟩
  · rintro k rfl
    exact y7
  · rintro k (rfl | rfl | rfl) <;> exact ⟨by omega, by show ¬ _ = bx; omega⟩
  · exact ⟨⟨.inl rfl, .inr (.inl rfl), .inr (.inr rfl)⟩, n7.kp.get0 e6, n7.kp.get0 e7, 0, n7.kp.get0 e8, fun _ => ⟨Nat.zero_le _, by rw [List.drop_zero, List.drop_zero, hK]⟩, by rw [List.drop_zero]⟩
  · intro vs hvs
    rw [lns] at hvs
    obtain ⟨i, _, rfl⟩ := List.mem_mapIdx.1 hvs
    rfl
  · rintro L i S a vs hvs ⟨⟨x1, x2, x3⟩, d6, d7, off, d8, h1, h2⟩ hSa ka hL hLa hwL
    have hil : i < K.length := by rw [← hll]; exact (List.getElem?_eq_some_iff.1 hvs).1
    obtain ⟨p, hp⟩ : ∃ p, K[i]? = some p := ⟨_, List.getElem?_eq_getElem hil⟩
    rw [lns_get (by rw [hK]; exact hp)] at hvs
    cases hvs
    obtain ⟨h1, h3⟩ := h1 hil
    have hdr : K.drop i = p :: K.drop (i + 1) := by
      rw [List.drop_eq_getElem_cons hil, (List.getElem?_eq_some_iff.1 hp).2]
    have hfd := h2
    rw [hdr] at h3
    obtain ⟨q1, q2, q3, q4⟩ := spl_head h3
    rw [List.length_drop, B_len] at q1
    have hBp : B (strOfNums p) = p := B_nums fun c hc => B_range (s := s) (List.mem_of_mem_drop ((spl_sub 10 _ p (by rw [h3]; exact List.mem_cons_self)).2 c hc))
    obtain ⟨t, ht⟩ : ∃ t, strOfNums p = t := ⟨_, rfl⟩
    rw [ht] at hBp ⊢
    have hts : p.length = t.size := by rw [← B_len, hBp]
    have hnx : i + 1 < K.length → off + (t.size + 1) ≤ s.size ∧ spl 10 ((B s).drop (off + (t.size + 1))) = K.drop (i + 1) := by
      intro hk2
      rcases q4 with ⟨q4, _⟩ | ⟨q4, q5⟩
      · rw [List.drop_eq_nil_iff] at q4; omega
      · have hlt := (List.getElem?_eq_some_iff.1 q4).1
        rw [List.length_drop, B_len] at hlt
        rw [List.drop_drop, hts] at q5
        exact ⟨by omega, q5⟩
    have e4a := ka.get (n7.kp.get0 e4) (by show ¬ ((b4 = b6 ∨ b4 = b7 ∨ b4 = b8) ∨ b4 = bx); omega)
    have e5a := ka.get (n7.kp.get0 e5) (by show ¬ ((b5 = b6 ∨ b5 = b7 ∨ b5 = b8) ∨ b5 = bx); omega)
    have zka := ka.size
    (repeat (first | refine i_nil ?_ | refine y_nil ?_ | refine i_n ?_ | refine i_r ?_ | refine i_x ?_ | refine j_n ?_ | refine j_r ?_ | refine j_y rfl ?_ | refine j_z rfl ?_ | refine i_seq ?_ | refine i_blk ?_ | refine i_reg ?_ | refine i_ret ?_ | refine i_exit ?_ | refine i_skip ?_ | refine i_v rfl (r_mv rfl) ?_ | refine i_v rfl (r_as rfl) ?_ | refine i_v rfl (r_add rfl rfl (by omega)) ?_ | refine i_v rfl (r_sub rfl rfl (by omega)) ?_ | refine i_v rfl (r_mul rfl rfl (by omega)) ?_ | refine i_v rfl (r_bin rfl) ?_ | refine i_v rfl (r_fa rfl rfl) ?_ | refine i_v rfl (r_ld rfl rfl (by first | assumption | exact cell_of_blk (by assumption) (by rfl))) ?_ | refine i_v rfl (r_nc rfl) ?_ | refine i_v rfl (r_not rfl) ?_ | refine i_v rfl (r_mf rfl rfl) ?_ | refine i_v rfl (r_len rfl) ?_ | refine i_v rfl (r_ex rfl) ?_ | refine i_v rfl (r_fd rfl) ?_ | refine i_v rfl (r_rem rfl rfl (by omega) (by omega)) ?_ | refine i_v rfl (r_cvi rfl rfl rfl (wrap_in (by omega))) ?_ | refine i_v rfl (r_cv rfl) ?_ | refine i_v rfl (r_peq rfl rfl rfl) ?_ | refine i_v rfl (r_pne rfl rfl rfl) ?_ | refine i_v rfl (r_min rfl rfl) ?_ | refine i_v rfl (r_max rfl rfl) ?_ | refine i_v rfl (r_bd rfl) ?_ | refine i_v rfl (r_pt rfl rfl) ?_ | refine i_v rfl (r_pf rfl rfl) ?_))
    refine i_begin (Kp.refl _ _) (fun a1 ka1 => ?_)
    replace d6 := ka1.get d6 (by show ¬ b6 = L; omega)
    replace d7 := ka1.get d7 (by show ¬ b7 = L; omega)
    replace d8 := ka1.get d8 (by show ¬ b8 = L; omega)
    have c4 := ka1.get e4a (by show ¬ b4 = L; omega)
    have c5 := ka1.get e5a (by show ¬ b5 = L; omega)
    clear e4a e5a e4 e5 e6 e7 e8
    (repeat (first | refine i_nil ?_ | refine y_nil ?_ | refine i_n ?_ | refine i_r ?_ | refine i_x ?_ | refine j_n ?_ | refine j_r ?_ | refine j_y rfl ?_ | refine j_z rfl ?_ | refine i_seq ?_ | refine i_blk ?_ | refine i_reg ?_ | refine i_ret ?_ | refine i_exit ?_ | refine i_skip ?_ | refine i_v rfl (r_mv rfl) ?_ | refine i_v rfl (r_as rfl) ?_ | refine i_v rfl (r_add rfl rfl (by omega)) ?_ | refine i_v rfl (r_sub rfl rfl (by omega)) ?_ | refine i_v rfl (r_mul rfl rfl (by omega)) ?_ | refine i_v rfl (r_bin rfl) ?_ | refine i_v rfl (r_fa rfl rfl) ?_ | refine i_v rfl (r_ld rfl rfl (by first | assumption | exact cell_of_blk (by assumption) (by rfl))) ?_ | refine i_v rfl (r_nc rfl) ?_ | refine i_v rfl (r_not rfl) ?_ | refine i_v rfl (r_mf rfl rfl) ?_ | refine i_v rfl (r_len rfl) ?_ | refine i_v rfl (r_ex rfl) ?_ | refine i_v rfl (r_fd rfl) ?_ | refine i_v rfl (r_rem rfl rfl (by omega) (by omega)) ?_ | refine i_v rfl (r_cvi rfl rfl rfl (wrap_in (by omega))) ?_ | refine i_v rfl (r_cv rfl) ?_ | refine i_v rfl (r_peq rfl rfl rfl) ?_ | refine i_v rfl (r_pne rfl rfl rfl) ?_ | refine i_v rfl (r_min rfl rfl) ?_ | refine i_v rfl (r_max rfl rfl) ?_ | refine i_v rfl (r_bd rfl) ?_ | refine i_v rfl (r_pt rfl rfl) ?_ | refine i_v rfl (r_pf rfl rfl) ?_))
    by_cases hC1 : (i : Int) + 1 = line
    · refine i_set 18 true rfl (by simp [hC1]) ?_
      (repeat (first | refine i_nil ?_ | refine y_nil ?_ | refine i_n ?_ | refine i_r ?_ | refine i_x ?_ | refine j_n ?_ | refine j_r ?_ | refine j_y rfl ?_ | refine j_z rfl ?_ | refine i_seq ?_ | refine i_blk ?_ | refine i_reg ?_ | refine i_ret ?_ | refine i_exit ?_ | refine i_skip ?_ | refine i_v rfl (r_mv rfl) ?_ | refine i_v rfl (r_as rfl) ?_ | refine i_v rfl (r_add rfl rfl (by omega)) ?_ | refine i_v rfl (r_sub rfl rfl (by omega)) ?_ | refine i_v rfl (r_mul rfl rfl (by omega)) ?_ | refine i_v rfl (r_bin rfl) ?_ | refine i_v rfl (r_fa rfl rfl) ?_ | refine i_v rfl (r_ld rfl rfl (by first | assumption | exact cell_of_blk (by assumption) (by rfl))) ?_ | refine i_v rfl (r_nc rfl) ?_ | refine i_v rfl (r_not rfl) ?_ | refine i_v rfl (r_mf rfl rfl) ?_ | refine i_v rfl (r_len rfl) ?_ | refine i_v rfl (r_ex rfl) ?_ | refine i_v rfl (r_fd rfl) ?_ | refine i_v rfl (r_rem rfl rfl (by omega) (by omega)) ?_ | refine i_v rfl (r_cvi rfl rfl rfl (wrap_in (by omega))) ?_ | refine i_v rfl (r_cv rfl) ?_ | refine i_v rfl (r_peq rfl rfl rfl) ?_ | refine i_v rfl (r_pne rfl rfl rfl) ?_ | refine i_v rfl (r_min rfl rfl) ?_ | refine i_v rfl (r_max rfl rfl) ?_ | refine i_v rfl (r_bd rfl) ?_ | refine i_v rfl (r_pt rfl rfl) ?_ | refine i_v rfl (r_pf rfl rfl) ?_ | refine i_gn rfl rfl ?_ | refine i_gv rfl rfl (r_mv rfl) ?_ | refine i_gv rfl rfl (r_add rfl rfl (by omega)) ?_ | refine i_gv rfl rfl (r_sub rfl rfl (by omega)) ?_ | refine i_gv rfl rfl (r_mul rfl rfl (by omega)) ?_ | refine i_gv rfl rfl (r_bin rfl) ?_ | refine i_gv rfl rfl (r_not rfl) ?_ | refine i_gv rfl rfl (r_len rfl) ?_ | refine i_gv rfl rfl (r_pt rfl rfl) ?_ | refine i_gv rfl rfl (r_pf rfl rfl) ?_ | refine i_gv rfl rfl (r_nc rfl) ?_ | refine i_gv rfl rfl (r_fa rfl rfl) ?_ | refine i_gv rfl rfl (r_ld rfl rfl (by first | assumption | exact cell_of_blk (by assumption) (by rfl))) ?_ | refine i_gv rfl rfl (r_cvi rfl rfl rfl (wrap_in (by omega))) ?_ | refine i_gv rfl rfl (r_cv rfl) ?_ | refine i_gv rfl rfl (r_peq rfl rfl rfl) ?_ | refine i_gv rfl rfl (r_fd rfl) ?_ | refine i_gv rfl rfl (r_ex rfl) ?_ | refine i_gv rfl rfl (r_bd rfl) ?_))
      by_cases hC2 : 1 ≤ col
      · refine i_set 22 true rfl (decide_eq_true hC2) ?_
        (repeat (first | refine i_nil ?_ | refine y_nil ?_ | refine i_n ?_ | refine i_r ?_ | refine i_x ?_ | refine j_n ?_ | refine j_r ?_ | refine j_y rfl ?_ | refine j_z rfl ?_ | refine i_seq ?_ | refine i_blk ?_ | refine i_reg ?_ | refine i_ret ?_ | refine i_exit ?_ | refine i_skip ?_ | refine i_v rfl (r_mv rfl) ?_ | refine i_v rfl (r_as rfl) ?_ | refine i_v rfl (r_add rfl rfl (by omega)) ?_ | refine i_v rfl (r_sub rfl rfl (by omega)) ?_ | refine i_v rfl (r_mul rfl rfl (by omega)) ?_ | refine i_v rfl (r_bin rfl) ?_ | refine i_v rfl (r_fa rfl rfl) ?_ | refine i_v rfl (r_ld rfl rfl (by first | assumption | exact cell_of_blk (by assumption) (by rfl))) ?_ | refine i_v rfl (r_nc rfl) ?_ | refine i_v rfl (r_not rfl) ?_ | refine i_v rfl (r_mf rfl rfl) ?_ | refine i_v rfl (r_len rfl) ?_ | refine i_v rfl (r_ex rfl) ?_ | refine i_v rfl (r_fd rfl) ?_ | refine i_v rfl (r_rem rfl rfl (by omega) (by omega)) ?_ | refine i_v rfl (r_cvi rfl rfl rfl (wrap_in (by omega))) ?_ | refine i_v rfl (r_cv rfl) ?_ | refine i_v rfl (r_peq rfl rfl rfl) ?_ | refine i_v rfl (r_pne rfl rfl rfl) ?_ | refine i_v rfl (r_min rfl rfl) ?_ | refine i_v rfl (r_max rfl rfl) ?_ | refine i_v rfl (r_bd rfl) ?_ | refine i_v rfl (r_pt rfl rfl) ?_ | refine i_v rfl (r_pf rfl rfl) ?_ | refine i_gn rfl rfl ?_ | refine i_gv rfl rfl (r_mv rfl) ?_ | refine i_gv rfl rfl (r_add rfl rfl (by omega)) ?_ | refine i_gv rfl rfl (r_sub rfl rfl (by omega)) ?_ | refine i_gv rfl rfl (r_mul rfl rfl (by omega)) ?_ | refine i_gv rfl rfl (r_bin rfl) ?_ | refine i_gv rfl rfl (r_not rfl) ?_ | refine i_gv rfl rfl (r_len rfl) ?_ | refine i_gv rfl rfl (r_pt rfl rfl) ?_ | refine i_gv rfl rfl (r_pf rfl rfl) ?_ | refine i_gv rfl rfl (r_nc rfl) ?_ | refine i_gv rfl rfl (r_fa rfl rfl) ?_ | refine i_gv rfl rfl (r_ld rfl rfl (by first | assumption | exact cell_of_blk (by assumption) (by rfl))) ?_ | refine i_gv rfl rfl (r_cvi rfl rfl rfl (wrap_in (by omega))) ?_ | refine i_gv rfl rfl (r_cv rfl) ?_ | refine i_gv rfl rfl (r_peq rfl rfl rfl) ?_ | refine i_gv rfl rfl (r_fd rfl) ?_ | refine i_gv rfl rfl (r_ex rfl) ?_ | refine i_gv rfl rfl (r_bd rfl) ?_))
        refine ic_dec rfl (fun hC3 => ?_) (fun hC3 => ?_)
        · (repeat (first | refine i_nil ?_ | refine y_nil ?_ | refine i_n ?_ | refine i_r ?_ | refine i_x ?_ | refine j_n ?_ | refine j_r ?_ | refine j_y rfl ?_ | refine j_z rfl ?_ | refine i_seq ?_ | refine i_blk ?_ | refine i_reg ?_ | refine i_ret ?_ | refine i_exit ?_ | refine i_skip ?_ | refine i_v rfl (r_mv rfl) ?_ | refine i_v rfl (r_as rfl) ?_ | refine i_v rfl (r_add rfl rfl (by omega)) ?_ | refine i_v rfl (r_sub rfl rfl (by omega)) ?_ | refine i_v rfl (r_mul rfl rfl (by omega)) ?_ | refine i_v rfl (r_bin rfl) ?_ | refine i_v rfl (r_fa rfl rfl) ?_ | refine i_v rfl (r_ld rfl rfl (by first | assumption | exact cell_of_blk (by assumption) (by rfl))) ?_ | refine i_v rfl (r_nc rfl) ?_ | refine i_v rfl (r_not rfl) ?_ | refine i_v rfl (r_mf rfl rfl) ?_ | refine i_v rfl (r_len rfl) ?_ | refine i_v rfl (r_ex rfl) ?_ | refine i_v rfl (r_fd rfl) ?_ | refine i_v rfl (r_rem rfl rfl (by omega) (by omega)) ?_ | refine i_v rfl (r_cvi rfl rfl rfl (wrap_in (by omega))) ?_ | refine i_v rfl (r_cv rfl) ?_ | refine i_v rfl (r_peq rfl rfl rfl) ?_ | refine i_v rfl (r_pne rfl rfl rfl) ?_ | refine i_v rfl (r_min rfl rfl) ?_ | refine i_v rfl (r_max rfl rfl) ?_ | refine i_v rfl (r_bd rfl) ?_ | refine i_v rfl (r_pt rfl rfl) ?_ | refine i_v rfl (r_pf rfl rfl) ?_))
          refine i_st rfl rfl rfl rfl rfl d6 (Nat.le_of_ble_eq_true rfl) (fun m2 s2 => ?_)
          refine i_st rfl rfl rfl rfl rfl (s2.kp.get d7 (by show ¬ b7 = b6; omega)) (Nat.le_of_ble_eq_true rfl) (fun m3 s3 => ?_)
          (repeat (first | refine i_nil ?_ | refine y_nil ?_ | refine i_n ?_ | refine i_r ?_ | refine i_x ?_ | refine j_n ?_ | refine j_r ?_ | refine j_y rfl ?_ | refine j_z rfl ?_ | refine i_seq ?_ | refine i_blk ?_ | refine i_reg ?_ | refine i_ret ?_ | refine i_exit ?_ | refine i_skip ?_ | refine i_v rfl (r_mv rfl) ?_ | refine i_v rfl (r_as rfl) ?_ | refine i_v rfl (r_add rfl rfl (by omega)) ?_ | refine i_v rfl (r_sub rfl rfl (by omega)) ?_ | refine i_v rfl (r_mul rfl rfl (by omega)) ?_ | refine i_v rfl (r_bin rfl) ?_ | refine i_v rfl (r_fa rfl rfl) ?_ | refine i_v rfl (r_ld rfl rfl (by first | assumption | exact cell_of_blk (by assumption) (by rfl))) ?_ | refine i_v rfl (r_nc rfl) ?_ | refine i_v rfl (r_not rfl) ?_ | refine i_v rfl (r_mf rfl rfl) ?_ | refine i_v rfl (r_len rfl) ?_ | refine i_v rfl (r_ex rfl) ?_ | refine i_v rfl (r_fd rfl) ?_ | refine i_v rfl (r_rem rfl rfl (by omega) (by omega)) ?_ | refine i_v rfl (r_cvi rfl rfl rfl (wrap_in (by omega))) ?_ | refine i_v rfl (r_cv rfl) ?_ | refine i_v rfl (r_peq rfl rfl rfl) ?_ | refine i_v rfl (r_pne rfl rfl rfl) ?_ | refine i_v rfl (r_min rfl rfl) ?_ | refine i_v rfl (r_max rfl rfl) ?_ | refine i_v rfl (r_bd rfl) ?_ | refine i_v rfl (r_pt rfl rfl) ?_ | refine i_v rfl (r_pf rfl rfl) ?_))
          refine rq_r (S' := S) ⟨fun _ h => h, fun _ h => .inl h, (s2.kp.mono fun k _ e => by rw [e]; exact x1 : Kp S a1 m2).trans s3.kp (fun k _ e => by rw [e]; exact x2)⟩ ⟨rfl, ⟨x1, x2⟩, _, ?_, s3.kp.get s2.blk (by show ¬ b6 = b7; omega), s3.blk⟩
          rw [hfd, hdr, fnd, if_pos ⟨hC1, hC2, by omega⟩]
        have hC : ¬ ((i : Int) + 1 = line ∧ 1 ≤ col ∧ col ≤ (t.size : Int) + 1) := fun h => hC3 h.2.2
        (repeat (first | refine i_nil ?_ | refine y_nil ?_ | refine i_n ?_ | refine i_r ?_ | refine i_x ?_ | refine j_n ?_ | refine j_r ?_ | refine j_y rfl ?_ | refine j_z rfl ?_ | refine i_seq ?_ | refine i_blk ?_ | refine i_reg ?_ | refine i_ret ?_ | refine i_exit ?_ | refine i_skip ?_ | refine i_v rfl (r_mv rfl) ?_ | refine i_v rfl (r_as rfl) ?_ | refine i_v rfl (r_add rfl rfl (by omega)) ?_ | refine i_v rfl (r_sub rfl rfl (by omega)) ?_ | refine i_v rfl (r_mul rfl rfl (by omega)) ?_ | refine i_v rfl (r_bin rfl) ?_ | refine i_v rfl (r_fa rfl rfl) ?_ | refine i_v rfl (r_ld rfl rfl (by first | assumption | exact cell_of_blk (by assumption) (by rfl))) ?_ | refine i_v rfl (r_nc rfl) ?_ | refine i_v rfl (r_not rfl) ?_ | refine i_v rfl (r_mf rfl rfl) ?_ | refine i_v rfl (r_len rfl) ?_ | refine i_v rfl (r_ex rfl) ?_ | refine i_v rfl (r_fd rfl) ?_ | refine i_v rfl (r_rem rfl rfl (by omega) (by omega)) ?_ | refine i_v rfl (r_cvi rfl rfl rfl (wrap_in (by omega))) ?_ | refine i_v rfl (r_cv rfl) ?_ | refine i_v rfl (r_peq rfl rfl rfl) ?_ | refine i_v rfl (r_pne rfl rfl rfl) ?_ | refine i_v rfl (r_min rfl rfl) ?_ | refine i_v rfl (r_max rfl rfl) ?_ | refine i_v rfl (r_bd rfl) ?_ | refine i_v rfl (r_pt rfl rfl) ?_ | refine i_v rfl (r_pf rfl rfl) ?_))
        refine i_st rfl rfl rfl rfl rfl d8 (Nat.le_of_ble_eq_true rfl) (fun m2 s2 => ?_)
        (repeat (first | refine i_nil ?_ | refine y_nil ?_ | refine i_n ?_ | refine i_r ?_ | refine i_x ?_ | refine j_n ?_ | refine j_r ?_ | refine j_y rfl ?_ | refine j_z rfl ?_ | refine i_seq ?_ | refine i_blk ?_ | refine i_reg ?_ | refine i_ret ?_ | refine i_exit ?_ | refine i_skip ?_ | refine i_v rfl (r_mv rfl) ?_ | refine i_v rfl (r_as rfl) ?_ | refine i_v rfl (r_add rfl rfl (by omega)) ?_ | refine i_v rfl (r_sub rfl rfl (by omega)) ?_ | refine i_v rfl (r_mul rfl rfl (by omega)) ?_ | refine i_v rfl (r_bin rfl) ?_ | refine i_v rfl (r_fa rfl rfl) ?_ | refine i_v rfl (r_ld rfl rfl (by first | assumption | exact cell_of_blk (by assumption) (by rfl))) ?_ | refine i_v rfl (r_nc rfl) ?_ | refine i_v rfl (r_not rfl) ?_ | refine i_v rfl (r_mf rfl rfl) ?_ | refine i_v rfl (r_len rfl) ?_ | refine i_v rfl (r_ex rfl) ?_ | refine i_v rfl (r_fd rfl) ?_ | refine i_v rfl (r_rem rfl rfl (by omega) (by omega)) ?_ | refine i_v rfl (r_cvi rfl rfl rfl (wrap_in (by omega))) ?_ | refine i_v rfl (r_cv rfl) ?_ | refine i_v rfl (r_peq rfl rfl rfl) ?_ | refine i_v rfl (r_pne rfl rfl rfl) ?_ | refine i_v rfl (r_min rfl rfl) ?_ | refine i_v rfl (r_max rfl rfl) ?_ | refine i_v rfl (r_bd rfl) ?_ | refine i_v rfl (r_pt rfl rfl) ?_ | refine i_v rfl (r_pf rfl rfl) ?_))
        exact rq_n (S' := S) ⟨fun _ h => h, fun _ h => .inl h, s2.kp.mono fun k _ e => by rw [e]; exact x3⟩ ⟨⟨x1, x2, x3⟩, s2.kp.get d6 (by show ¬ b6 = b8; omega), s2.kp.get d7 (by show ¬ b7 = b8; omega), off + (t.size + 1), s2.blk, hnx, by rw [hfd, hdr, fnd, if_neg (by rw [hts]; exact hC), ← hts]⟩
      · have hC : ¬ ((i : Int) + 1 = line ∧ 1 ≤ col ∧ col ≤ (t.size : Int) + 1) := fun h => hC2 h.2.1
        refine i_set 22 false rfl (decide_eq_false hC2) ?_
        (repeat (first | refine i_nil ?_ | refine y_nil ?_ | refine i_n ?_ | refine i_r ?_ | refine i_x ?_ | refine j_n ?_ | refine j_r ?_ | refine j_y rfl ?_ | refine j_z rfl ?_ | refine i_seq ?_ | refine i_blk ?_ | refine i_reg ?_ | refine i_ret ?_ | refine i_exit ?_ | refine i_skip ?_ | refine i_v rfl (r_mv rfl) ?_ | refine i_v rfl (r_as rfl) ?_ | refine i_v rfl (r_add rfl rfl (by omega)) ?_ | refine i_v rfl (r_sub rfl rfl (by omega)) ?_ | refine i_v rfl (r_mul rfl rfl (by omega)) ?_ | refine i_v rfl (r_bin rfl) ?_ | refine i_v rfl (r_fa rfl rfl) ?_ | refine i_v rfl (r_ld rfl rfl (by first | assumption | exact cell_of_blk (by assumption) (by rfl))) ?_ | refine i_v rfl (r_nc rfl) ?_ | refine i_v rfl (r_not rfl) ?_ | refine i_v rfl (r_mf rfl rfl) ?_ | refine i_v rfl (r_len rfl) ?_ | refine i_v rfl (r_ex rfl) ?_ | refine i_v rfl (r_fd rfl) ?_ | refine i_v rfl (r_rem rfl rfl (by omega) (by omega)) ?_ | refine i_v rfl (r_cvi rfl rfl rfl (wrap_in (by omega))) ?_ | refine i_v rfl (r_cv rfl) ?_ | refine i_v rfl (r_peq rfl rfl rfl) ?_ | refine i_v rfl (r_pne rfl rfl rfl) ?_ | refine i_v rfl (r_min rfl rfl) ?_ | refine i_v rfl (r_max rfl rfl) ?_ | refine i_v rfl (r_bd rfl) ?_ | refine i_v rfl (r_pt rfl rfl) ?_ | refine i_v rfl (r_pf rfl rfl) ?_ | refine i_gn rfl rfl ?_ | refine i_gv rfl rfl (r_mv rfl) ?_ | refine i_gv rfl rfl (r_add rfl rfl (by omega)) ?_ | refine i_gv rfl rfl (r_sub rfl rfl (by omega)) ?_ | refine i_gv rfl rfl (r_mul rfl rfl (by omega)) ?_ | refine i_gv rfl rfl (r_bin rfl) ?_ | refine i_gv rfl rfl (r_not rfl) ?_ | refine i_gv rfl rfl (r_len rfl) ?_ | refine i_gv rfl rfl (r_pt rfl rfl) ?_ | refine i_gv rfl rfl (r_pf rfl rfl) ?_ | refine i_gv rfl rfl (r_nc rfl) ?_ | refine i_gv rfl rfl (r_fa rfl rfl) ?_ | refine i_gv rfl rfl (r_ld rfl rfl (by first | assumption | exact cell_of_blk (by assumption) (by rfl))) ?_ | refine i_gv rfl rfl (r_cvi rfl rfl rfl (wrap_in (by omega))) ?_ | refine i_gv rfl rfl (r_cv rfl) ?_ | refine i_gv rfl rfl (r_peq rfl rfl rfl) ?_ | refine i_gv rfl rfl (r_fd rfl) ?_ | refine i_gv rfl rfl (r_ex rfl) ?_ | refine i_gv rfl rfl (r_bd rfl) ?_))
        refine ic_f rfl ?_
        (repeat (first | refine i_nil ?_ | refine y_nil ?_ | refine i_n ?_ | refine i_r ?_ | refine i_x ?_ | refine j_n ?_ | refine j_r ?_ | refine j_y rfl ?_ | refine j_z rfl ?_ | refine i_seq ?_ | refine i_blk ?_ | refine i_reg ?_ | refine i_ret ?_ | refine i_exit ?_ | refine i_skip ?_ | refine i_v rfl (r_mv rfl) ?_ | refine i_v rfl (r_as rfl) ?_ | refine i_v rfl (r_add rfl rfl (by omega)) ?_ | refine i_v rfl (r_sub rfl rfl (by omega)) ?_ | refine i_v rfl (r_mul rfl rfl (by omega)) ?_ | refine i_v rfl (r_bin rfl) ?_ | refine i_v rfl (r_fa rfl rfl) ?_ | refine i_v rfl (r_ld rfl rfl (by first | assumption | exact cell_of_blk (by assumption) (by rfl))) ?_ | refine i_v rfl (r_nc rfl) ?_ | refine i_v rfl (r_not rfl) ?_ | refine i_v rfl (r_mf rfl rfl) ?_ | refine i_v rfl (r_len rfl) ?_ | refine i_v rfl (r_ex rfl) ?_ | refine i_v rfl (r_fd rfl) ?_ | refine i_v rfl (r_rem rfl rfl (by omega) (by omega)) ?_ | refine i_v rfl (r_cvi rfl rfl rfl (wrap_in (by omega))) ?_ | refine i_v rfl (r_cv rfl) ?_ | refine i_v rfl (r_peq rfl rfl rfl) ?_ | refine i_v rfl (r_pne rfl rfl rfl) ?_ | refine i_v rfl (r_min rfl rfl) ?_ | refine i_v rfl (r_max rfl rfl) ?_ | refine i_v rfl (r_bd rfl) ?_ | refine i_v rfl (r_pt rfl rfl) ?_ | refine i_v rfl (r_pf rfl rfl) ?_))
        refine i_st rfl rfl rfl rfl rfl d8 (Nat.le_of_ble_eq_true rfl) (fun m2 s2 => ?_)
        (repeat (first | refine i_nil ?_ | refine y_nil ?_ | refine i_n ?_ | refine i_r ?_ | refine i_x ?_ | refine j_n ?_ | refine j_r ?_ | refine j_y rfl ?_ | refine j_z rfl ?_ | refine i_seq ?_ | refine i_blk ?_ | refine i_reg ?_ | refine i_ret ?_ | refine i_exit ?_ | refine i_skip ?_ | refine i_v rfl (r_mv rfl) ?_ | refine i_v rfl (r_as rfl) ?_ | refine i_v rfl (r_add rfl rfl (by omega)) ?_ | refine i_v rfl (r_sub rfl rfl (by omega)) ?_ | refine i_v rfl (r_mul rfl rfl (by omega)) ?_ | refine i_v rfl (r_bin rfl) ?_ | refine i_v rfl (r_fa rfl rfl) ?_ | refine i_v rfl (r_ld rfl rfl (by first | assumption | exact cell_of_blk (by assumption) (by rfl))) ?_ | refine i_v rfl (r_nc rfl) ?_ | refine i_v rfl (r_not rfl) ?_ | refine i_v rfl (r_mf rfl rfl) ?_ | refine i_v rfl (r_len rfl) ?_ | refine i_v rfl (r_ex rfl) ?_ | refine i_v rfl (r_fd rfl) ?_ | refine i_v rfl (r_rem rfl rfl (by omega) (by omega)) ?_ | refine i_v rfl (r_cvi rfl rfl rfl (wrap_in (by omega))) ?_ | refine i_v rfl (r_cv rfl) ?_ | refine i_v rfl (r_peq rfl rfl rfl) ?_ | refine i_v rfl (r_pne rfl rfl rfl) ?_ | refine i_v rfl (r_min rfl rfl) ?_ | refine i_v rfl (r_max rfl rfl) ?_ | refine i_v rfl (r_bd rfl) ?_ | refine i_v rfl (r_pt rfl rfl) ?_ | refine i_v rfl (r_pf rfl rfl) ?_))
        exact rq_n (S' := S) ⟨fun _ h => h, fun _ h => .inl h, s2.kp.mono fun k _ e => by rw [e]; exact x3⟩ ⟨⟨x1, x2, x3⟩, s2.kp.get d6 (by show ¬ b6 = b8; omega), s2.kp.get d7 (by show ¬ b7 = b8; omega), off + (t.size + 1), s2.blk, hnx, by rw [hfd, hdr, fnd, if_neg (by rw [hts]; exact hC), ← hts]⟩
    · have hC : ¬ ((i : Int) + 1 = line ∧ 1 ≤ col ∧ col ≤ (t.size : Int) + 1) := fun h => hC1 h.1
      refine i_set 18 false rfl (by simp [hC1]) ?_
      (repeat (first | refine i_nil ?_ | refine y_nil ?_ | refine i_n ?_ | refine i_r ?_ | refine i_x ?_ | refine j_n ?_ | refine j_r ?_ | refine j_y rfl ?_ | refine j_z rfl ?_ | refine i_seq ?_ | refine i_blk ?_ | refine i_reg ?_ | refine i_ret ?_ | refine i_exit ?_ | refine i_skip ?_ | refine i_v rfl (r_mv rfl) ?_ | refine i_v rfl (r_as rfl) ?_ | refine i_v rfl (r_add rfl rfl (by omega)) ?_ | refine i_v rfl (r_sub rfl rfl (by omega)) ?_ | refine i_v rfl (r_mul rfl rfl (by omega)) ?_ | refine i_v rfl (r_bin rfl) ?_ | refine i_v rfl (r_fa rfl rfl) ?_ | refine i_v rfl (r_ld rfl rfl (by first | assumption | exact cell_of_blk (by assumption) (by rfl))) ?_ | refine i_v rfl (r_nc rfl) ?_ | refine i_v rfl (r_not rfl) ?_ | refine i_v rfl (r_mf rfl rfl) ?_ | refine i_v rfl (r_len rfl) ?_ | refine i_v rfl (r_ex rfl) ?_ | refine i_v rfl (r_fd rfl) ?_ | refine i_v rfl (r_rem rfl rfl (by omega) (by omega)) ?_ | refine i_v rfl (r_cvi rfl rfl rfl (wrap_in (by omega))) ?_ | refine i_v rfl (r_cv rfl) ?_ | refine i_v rfl (r_peq rfl rfl rfl) ?_ | refine i_v rfl (r_pne rfl rfl rfl) ?_ | refine i_v rfl (r_min rfl rfl) ?_ | refine i_v rfl (r_max rfl rfl) ?_ | refine i_v rfl (r_bd rfl) ?_ | refine i_v rfl (r_pt rfl rfl) ?_ | refine i_v rfl (r_pf rfl rfl) ?_ | refine i_gn rfl rfl ?_ | refine i_gv rfl rfl (r_mv rfl) ?_ | refine i_gv rfl rfl (r_add rfl rfl (by omega)) ?_ | refine i_gv rfl rfl (r_sub rfl rfl (by omega)) ?_ | refine i_gv rfl rfl (r_mul rfl rfl (by omega)) ?_ | refine i_gv rfl rfl (r_bin rfl) ?_ | refine i_gv rfl rfl (r_not rfl) ?_ | refine i_gv rfl rfl (r_len rfl) ?_ | refine i_gv rfl rfl (r_pt rfl rfl) ?_ | refine i_gv rfl rfl (r_pf rfl rfl) ?_ | refine i_gv rfl rfl (r_nc rfl) ?_ | refine i_gv rfl rfl (r_fa rfl rfl) ?_ | refine i_gv rfl rfl (r_ld rfl rfl (by first | assumption | exact cell_of_blk (by assumption) (by rfl))) ?_ | refine i_gv rfl rfl (r_cvi rfl rfl rfl (wrap_in (by omega))) ?_ | refine i_gv rfl rfl (r_cv rfl) ?_ | refine i_gv rfl rfl (r_peq rfl rfl rfl) ?_ | refine i_gv rfl rfl (r_fd rfl) ?_ | refine i_gv rfl rfl (r_ex rfl) ?_ | refine i_gv rfl rfl (r_bd rfl) ?_))
      refine ic_f rfl ?_
      (repeat (first | refine i_nil ?_ | refine y_nil ?_ | refine i_n ?_ | refine i_r ?_ | refine i_x ?_ | refine j_n ?_ | refine j_r ?_ | refine j_y rfl ?_ | refine j_z rfl ?_ | refine i_seq ?_ | refine i_blk ?_ | refine i_reg ?_ | refine i_ret ?_ | refine i_exit ?_ | refine i_skip ?_ | refine i_v rfl (r_mv rfl) ?_ | refine i_v rfl (r_as rfl) ?_ | refine i_v rfl (r_add rfl rfl (by omega)) ?_ | refine i_v rfl (r_sub rfl rfl (by omega)) ?_ | refine i_v rfl (r_mul rfl rfl (by omega)) ?_ | refine i_v rfl (r_bin rfl) ?_ | refine i_v rfl (r_fa rfl rfl) ?_ | refine i_v rfl (r_ld rfl rfl (by first | assumption | exact cell_of_blk (by assumption) (by rfl))) ?_ | refine i_v rfl (r_nc rfl) ?_ | refine i_v rfl (r_not rfl) ?_ | refine i_v rfl (r_mf rfl rfl) ?_ | refine i_v rfl (r_len rfl) ?_ | refine i_v rfl (r_ex rfl) ?_ | refine i_v rfl (r_fd rfl) ?_ | refine i_v rfl (r_rem rfl rfl (by omega) (by omega)) ?_ | refine i_v rfl (r_cvi rfl rfl rfl (wrap_in (by omega))) ?_ | refine i_v rfl (r_cv rfl) ?_ | refine i_v rfl (r_peq rfl rfl rfl) ?_ | refine i_v rfl (r_pne rfl rfl rfl) ?_ | refine i_v rfl (r_min rfl rfl) ?_ | refine i_v rfl (r_max rfl rfl) ?_ | refine i_v rfl (r_bd rfl) ?_ | refine i_v rfl (r_pt rfl rfl) ?_ | refine i_v rfl (r_pf rfl rfl) ?_))
      refine i_st rfl rfl rfl rfl rfl d8 (Nat.le_of_ble_eq_true rfl) (fun m2 s2 => ?_)
      (repeat (first | refine i_nil ?_ | refine y_nil ?_ | refine i_n ?_ | refine i_r ?_ | refine i_x ?_ | refine j_n ?_ | refine j_r ?_ | refine j_y rfl ?_ | refine j_z rfl ?_ | refine i_seq ?_ | refine i_blk ?_ | refine i_reg ?_ | refine i_ret ?_ | refine i_exit ?_ | refine i_skip ?_ | refine i_v rfl (r_mv rfl) ?_ | refine i_v rfl (r_as rfl) ?_ | refine i_v rfl (r_add rfl rfl (by omega)) ?_ | refine i_v rfl (r_sub rfl rfl (by omega)) ?_ | refine i_v rfl (r_mul rfl rfl (by omega)) ?_ | refine i_v rfl (r_bin rfl) ?_ | refine i_v rfl (r_fa rfl rfl) ?_ | refine i_v rfl (r_ld rfl rfl (by first | assumption | exact cell_of_blk (by assumption) (by rfl))) ?_ | refine i_v rfl (r_nc rfl) ?_ | refine i_v rfl (r_not rfl) ?_ | refine i_v rfl (r_mf rfl rfl) ?_ | refine i_v rfl (r_len rfl) ?_ | refine i_v rfl (r_ex rfl) ?_ | refine i_v rfl (r_fd rfl) ?_ | refine i_v rfl (r_rem rfl rfl (by omega) (by omega)) ?_ | refine i_v rfl (r_cvi rfl rfl rfl (wrap_in (by omega))) ?_ | refine i_v rfl (r_cv rfl) ?_ | refine i_v rfl (r_peq rfl rfl rfl) ?_ | refine i_v rfl (r_pne rfl rfl rfl) ?_ | refine i_v rfl (r_min rfl rfl) ?_ | refine i_v rfl (r_max rfl rfl) ?_ | refine i_v rfl (r_bd rfl) ?_ | refine i_v rfl (r_pt rfl rfl) ?_ | refine i_v rfl (r_pf rfl rfl) ?_))
      exact rq_n (S' := S) ⟨fun _ h => h, fun _ h => .inl h, s2.kp.mono fun k _ e => by rw [e]; exact x3⟩ ⟨⟨x1, x2, x3⟩, s2.kp.get d6 (by show ¬ b6 = b8; omega), s2.kp.get d7 (by show ¬ b7 = b8; omega), off + (t.size + 1), s2.blk, hnx, by rw [hfd, hdr, fnd, if_neg (by rw [hts]; exact hC), ← hts]⟩
  · rintro D S b ⟨⟨x1, x2, x3⟩, d6, d7, off, d8, h1, h2⟩ kb hD hwD hSD
    have hn : fnd line col 0 0 K = none := by
      rw [hll, List.drop_length] at h2
      exact h2
    have zb := kb.size
    (repeat (first | refine k_nil ?_ | refine k_n ?_ | refine k_r ?_ | refine k_x ?_ | refine b_n ?_ | refine b_r ?_ | refine b_y rfl ?_ | refine b_z rfl ?_ | refine l_r ?_ | refine l_x ?_ | refine k_seq ?_ | refine k_blk ?_ | refine k_reg ?_ | refine k_ret ?_ | refine k_exit ?_ | refine k_skip ?_ | refine s_v (r_mv rfl) ?_ | refine s_v (r_as rfl) ?_ | refine s_v (r_add rfl rfl (by omega)) ?_ | refine s_v (r_sub rfl rfl (by omega)) ?_ | refine s_v (r_mul rfl rfl (by omega)) ?_ | refine s_v (r_bin rfl) ?_ | refine s_v (r_fa rfl rfl) ?_ | refine s_v (r_ld rfl rfl (by first | assumption | exact cell_of_blk (by assumption) (by rfl))) ?_ | refine s_v (r_nc rfl) ?_ | refine s_v (r_not rfl) ?_ | refine s_v (r_mf rfl rfl) ?_ | refine s_v (r_len rfl) ?_ | refine s_v (r_ex rfl) ?_ | refine s_v (r_fd rfl) ?_ | refine s_v (r_rem rfl rfl (by omega) (by omega)) ?_ | refine s_v (r_cvi rfl rfl rfl (wrap_in (by omega))) ?_ | refine s_v (r_cv rfl) ?_ | refine s_v (r_peq rfl rfl rfl) ?_ | refine s_v (r_pne rfl rfl rfl) ?_ | refine s_v (r_min rfl rfl) ?_ | refine s_v (r_max rfl rfl) ?_ | refine s_v (r_bd rfl) ?_ | refine s_v (r_pt rfl rfl) ?_ | refine s_v (r_pf rfl rfl) ?_))
    refine s_st rfl rfl rfl rfl rfl d6 (Nat.le_of_ble_eq_true rfl) (fun m4 s4 => ?_)
    refine s_st rfl rfl rfl rfl rfl (s4.kp.get d7 (by show ¬ b7 = b6; omega)) (Nat.le_of_ble_eq_true rfl) (fun m5 s5 => ?_)
    (repeat (first | refine k_nil ?_ | refine k_n ?_ | refine k_r ?_ | refine k_x ?_ | refine b_n ?_ | refine b_r ?_ | refine b_y rfl ?_ | refine b_z rfl ?_ | refine l_r ?_ | refine l_x ?_ | refine k_seq ?_ | refine k_blk ?_ | refine k_reg ?_ | refine k_ret ?_ | refine k_exit ?_ | refine k_skip ?_ | refine s_v (r_mv rfl) ?_ | refine s_v (r_as rfl) ?_ | refine s_v (r_add rfl rfl (by omega)) ?_ | refine s_v (r_sub rfl rfl (by omega)) ?_ | refine s_v (r_mul rfl rfl (by omega)) ?_ | refine s_v (r_bin rfl) ?_ | refine s_v (r_fa rfl rfl) ?_ | refine s_v (r_ld rfl rfl (by first | assumption | exact cell_of_blk (by assumption) (by rfl))) ?_ | refine s_v (r_nc rfl) ?_ | refine s_v (r_not rfl) ?_ | refine s_v (r_mf rfl rfl) ?_ | refine s_v (r_len rfl) ?_ | refine s_v (r_ex rfl) ?_ | refine s_v (r_fd rfl) ?_ | refine s_v (r_rem rfl rfl (by omega) (by omega)) ?_ | refine s_v (r_cvi rfl rfl rfl (wrap_in (by omega))) ?_ | refine s_v (r_cv rfl) ?_ | refine s_v (r_peq rfl rfl rfl) ?_ | refine s_v (r_pne rfl rfl rfl) ?_ | refine s_v (r_min rfl rfl) ?_ | refine s_v (r_max rfl rfl) ?_ | refine s_v (r_bd rfl) ?_ | refine s_v (r_pt rfl rfl) ?_ | refine s_v (r_pf rfl rfl) ?_))
    refine postM_1 (s5.kp.get (s4.kp.get hD (by show ¬ D = b6; omega)) (by show ¬ D = b7; omega)) (fun m' hk => ⟨res_n (rs := [.cell 6 3, .cell 7 30]) (vs := [.int .i64 0, .int .i64 15]) rfl rfl
      ⟨rv_1 rfl rfl (cell_of_blk (hk.get (s5.kp.get s4.blk (by show ¬ b6 = b7; omega)) (by show ¬ b6 = D; omega)) rfl), rv_1 rfl rfl (cell_of_blk (hk.get s5.blk (by show ¬ b7 = D; omega)) rfl), trivial⟩,
      ?_, _, _, rfl, .inr ⟨hn, rfl, rfl⟩⟩)
    exact (((k7.trans kb (fun k hk h => by omega)).trans s4.kp (fun k _ e => by omega)).trans s5.kp (fun k _ e => by omega)).trans hk (fun k _ e => by omega)
  · rintro D S b i hi' ⟨_, ⟨x1, x2⟩, x, h1, d6, d7⟩ kb hD hwD hSD
    (repeat (first | refine k_nil ?_ | refine k_n ?_ | refine k_r ?_ | refine k_x ?_ | refine b_n ?_ | refine b_r ?_ | refine b_y rfl ?_ | refine b_z rfl ?_ | refine l_r ?_ | refine l_x ?_ | refine k_seq ?_ | refine k_blk ?_ | refine k_reg ?_ | refine k_ret ?_ | refine k_exit ?_ | refine k_skip ?_ | refine s_v (r_mv rfl) ?_ | refine s_v (r_as rfl) ?_ | refine s_v (r_add rfl rfl (by omega)) ?_ | refine s_v (r_sub rfl rfl (by omega)) ?_ | refine s_v (r_mul rfl rfl (by omega)) ?_ | refine s_v (r_bin rfl) ?_ | refine s_v (r_fa rfl rfl) ?_ | refine s_v (r_ld rfl rfl (by first | assumption | exact cell_of_blk (by assumption) (by rfl))) ?_ | refine s_v (r_nc rfl) ?_ | refine s_v (r_not rfl) ?_ | refine s_v (r_mf rfl rfl) ?_ | refine s_v (r_len rfl) ?_ | refine s_v (r_ex rfl) ?_ | refine s_v (r_fd rfl) ?_ | refine s_v (r_rem rfl rfl (by omega) (by omega)) ?_ | refine s_v (r_cvi rfl rfl rfl (wrap_in (by omega))) ?_ | refine s_v (r_cv rfl) ?_ | refine s_v (r_peq rfl rfl rfl) ?_ | refine s_v (r_pne rfl rfl rfl) ?_ | refine s_v (r_min rfl rfl) ?_ | refine s_v (r_max rfl rfl) ?_ | refine s_v (r_bd rfl) ?_ | refine s_v (r_pt rfl rfl) ?_ | refine s_v (r_pf rfl rfl) ?_))
    refine postM_1 hD (fun m' hk => ⟨res_n (rs := [.cell 6 3, .cell 7 30]) (vs := [.int .i64 x, .int .i64 0]) rfl rfl
      ⟨rv_1 rfl rfl (cell_of_blk (hk.get d6 (by show ¬ b6 = D; omega)) rfl), rv_1 rfl rfl (cell_of_blk (hk.get d7 (by show ¬ b7 = D; omega)) rfl), trivial⟩,
      ?_, _, _, rfl, .inl ⟨h1, rfl⟩⟩)
    exact (k7.trans kb (fun k hk h => by omega)).trans hk (fun k _ e => by omega)
  · rintro id D S b i hi ⟨h, _⟩
    cases h
end Pg
end Go.Proofs.YtimgapkngjkagaaDoor
