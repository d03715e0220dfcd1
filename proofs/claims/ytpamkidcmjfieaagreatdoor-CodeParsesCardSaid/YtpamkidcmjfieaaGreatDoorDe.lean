/- Code: the document's words, what has numbers, split, numbers. -/
import Derived.Test.YtpamkidcmjfieaaGreatDoorNw
import Derived.Test.YtpamkidcmjfieaaGreatDoorCa
import Derived.Test.YtpamkidcmjfieaaGreatDoorDg
namespace Go.Proofs.YtpamkidcmjfieaaGreatDoor
open Go Go.RowKit Fw Nu
set_option linter.unusedVariables false
set_option maxRecDepth 20000
namespace Cd
/-- How many numbers stand behind an Op's word. -/
def hs (op : Int) : Int := if (sh op).2.1 = 0 then 0 else if op = 7 then 2 else 1
theorem hs_0 : ∀ i : Nat, i < 29 → ((sh ((i : Int) + 1)).2.1 = 0 ↔ (8 ≤ (i : Int) + 1 ∧ (i : Int) + 1 ≤ 21) ∨ (i : Int) + 1 = 29) := by decide +kernel
theorem hs_k {op : Int} (h : 1 ≤ op ∧ op ≤ 29) : (sh op).2.1 = 0 ↔ (8 ≤ op ∧ op ≤ 21) ∨ op = 29 := by
  have := hs_0 (op - 1).toNat (by omega)
  rw [show (((op - 1).toNat : Nat) : Int) + 1 = op from by omega] at this
  exact this
theorem rHas (op : Int) (w : World) (h : 1 ≤ op ∧ op ≤ 29) : Ret Tryz.prog 36 [.int .i64 op] w fun v w1 => v = .int .i64 (hs op) ∧ w1 = w := by
  have hk := hs_k h
  refine ret_enter Tryz.func36 rfl Tryz.ntmps36 rfl ?_
  (repeat (first | refine k_nil ?_ | refine k_n ?_ | refine k_r ?_ | refine k_x ?_ | refine b_n ?_ | refine b_r ?_ | refine b_y rfl ?_ | refine b_z rfl ?_ | refine l_r ?_ | refine l_x ?_ | refine k_seq ?_ | refine k_blk ?_ | refine k_reg ?_ | refine k_ret ?_ | refine k_exit ?_ | refine k_skip ?_ | refine Zs ?_))
  refine c_eq rfl (fun h7 => ?_) (fun h7 => ?_)
  · (repeat (first | refine k_nil ?_ | refine k_n ?_ | refine k_r ?_ | refine k_x ?_ | refine b_n ?_ | refine b_r ?_ | refine b_y rfl ?_ | refine b_z rfl ?_ | refine l_r ?_ | refine l_x ?_ | refine k_seq ?_ | refine k_blk ?_ | refine k_reg ?_ | refine k_ret ?_ | refine k_exit ?_ | refine k_skip ?_ | refine Zs ?_))
    exact ret_1 rfl rfl ⟨by unfold hs; rw [if_neg (by rw [hk]; omega), if_pos h7], rfl⟩
  (repeat (first | refine k_nil ?_ | refine k_n ?_ | refine k_r ?_ | refine k_x ?_ | refine b_n ?_ | refine b_r ?_ | refine b_y rfl ?_ | refine b_z rfl ?_ | refine l_r ?_ | refine l_x ?_ | refine k_seq ?_ | refine k_blk ?_ | refine k_reg ?_ | refine k_ret ?_ | refine k_exit ?_ | refine k_skip ?_ | refine Zs ?_))
  by_cases h8 : 8 ≤ op
  · refine s_set 7 true rfl (decide_eq_true h8) ?_
    (repeat (first | refine k_nil ?_ | refine k_n ?_ | refine k_r ?_ | refine k_x ?_ | refine b_n ?_ | refine b_r ?_ | refine b_y rfl ?_ | refine b_z rfl ?_ | refine l_r ?_ | refine l_x ?_ | refine k_seq ?_ | refine k_blk ?_ | refine k_reg ?_ | refine k_ret ?_ | refine k_exit ?_ | refine k_skip ?_ | refine Zs ?_ | refine Zn ?_ | refine Zu ?_ | refine Zg ?_))
    by_cases h21 : op ≤ 21
    · refine s_set 11 true rfl (decide_eq_true h21) ?_
      (repeat (first | refine k_nil ?_ | refine k_n ?_ | refine k_r ?_ | refine k_x ?_ | refine b_n ?_ | refine b_r ?_ | refine b_y rfl ?_ | refine b_z rfl ?_ | refine l_r ?_ | refine l_x ?_ | refine k_seq ?_ | refine k_blk ?_ | refine k_reg ?_ | refine k_ret ?_ | refine k_exit ?_ | refine k_skip ?_ | refine Zs ?_ | refine Zn ?_ | refine Zu ?_ | refine Zg ?_))
      refine c_t rfl ?_
      (repeat (first | refine k_nil ?_ | refine k_n ?_ | refine k_r ?_ | refine k_x ?_ | refine b_n ?_ | refine b_r ?_ | refine b_y rfl ?_ | refine b_z rfl ?_ | refine l_r ?_ | refine l_x ?_ | refine k_seq ?_ | refine k_blk ?_ | refine k_reg ?_ | refine k_ret ?_ | refine k_exit ?_ | refine k_skip ?_ | refine Zs ?_))
      exact ret_1 rfl rfl ⟨by unfold hs; rw [if_pos (by rw [hk]; omega)], rfl⟩
    · refine s_set 11 false rfl (decide_eq_false h21) ?_
      (repeat (first | refine k_nil ?_ | refine k_n ?_ | refine k_r ?_ | refine k_x ?_ | refine b_n ?_ | refine b_r ?_ | refine b_y rfl ?_ | refine b_z rfl ?_ | refine l_r ?_ | refine l_x ?_ | refine k_seq ?_ | refine k_blk ?_ | refine k_reg ?_ | refine k_ret ?_ | refine k_exit ?_ | refine k_skip ?_ | refine Zs ?_ | refine Zn ?_ | refine Zu ?_ | refine Zg ?_))
      refine c_eq rfl (fun h29 => ?_) (fun h29 => ?_)
      · (repeat (first | refine k_nil ?_ | refine k_n ?_ | refine k_r ?_ | refine k_x ?_ | refine b_n ?_ | refine b_r ?_ | refine b_y rfl ?_ | refine b_z rfl ?_ | refine l_r ?_ | refine l_x ?_ | refine k_seq ?_ | refine k_blk ?_ | refine k_reg ?_ | refine k_ret ?_ | refine k_exit ?_ | refine k_skip ?_ | refine Zs ?_))
        exact ret_1 rfl rfl ⟨by unfold hs; rw [if_pos (by rw [hk]; omega)], rfl⟩
      · (repeat (first | refine k_nil ?_ | refine k_n ?_ | refine k_r ?_ | refine k_x ?_ | refine b_n ?_ | refine b_r ?_ | refine b_y rfl ?_ | refine b_z rfl ?_ | refine l_r ?_ | refine l_x ?_ | refine k_seq ?_ | refine k_blk ?_ | refine k_reg ?_ | refine k_ret ?_ | refine k_exit ?_ | refine k_skip ?_ | refine Zs ?_))
        exact ret_1 rfl rfl ⟨by unfold hs; rw [if_neg (by rw [hk]; omega), if_neg h7], rfl⟩
  · refine s_set 7 false rfl (decide_eq_false h8) ?_
    (repeat (first | refine k_nil ?_ | refine k_n ?_ | refine k_r ?_ | refine k_x ?_ | refine b_n ?_ | refine b_r ?_ | refine b_y rfl ?_ | refine b_z rfl ?_ | refine l_r ?_ | refine l_x ?_ | refine k_seq ?_ | refine k_blk ?_ | refine k_reg ?_ | refine k_ret ?_ | refine k_exit ?_ | refine k_skip ?_ | refine Zs ?_ | refine Zn ?_ | refine Zu ?_ | refine Zg ?_))
    refine c_eq rfl (fun h29 => (by omega : False).elim) (fun h29 => ?_)
    (repeat (first | refine k_nil ?_ | refine k_n ?_ | refine k_r ?_ | refine k_x ?_ | refine b_n ?_ | refine b_r ?_ | refine b_y rfl ?_ | refine b_z rfl ?_ | refine l_r ?_ | refine l_x ?_ | refine k_seq ?_ | refine k_blk ?_ | refine k_reg ?_ | refine k_ret ?_ | refine k_exit ?_ | refine k_skip ?_ | refine Zs ?_))
    exact ret_1 rfl rfl ⟨by unfold hs; rw [if_neg (by rw [hk]; omega), if_neg h7], rfl⟩
theorem rWords (w : World) : Ret Tryz.prog 35 [] w fun v w1 => ∃ b, v = .slice (some ⟨b, 0, none⟩) 30 30 ∧ w.heap.size ≤ b ∧ RS w1 (some ⟨b, 0, none⟩) (shL.map (·.1)) ∧ Kp No w w1 := by
  refine ret_enter Tryz.func35 rfl Tryz.ntmps35 rfl ?_
  (repeat (first | refine k_nil ?_ | refine k_n ?_ | refine k_r ?_ | refine k_x ?_ | refine b_n ?_ | refine b_r ?_ | refine b_y rfl ?_ | refine b_z rfl ?_ | refine l_r ?_ | refine l_x ?_ | refine k_seq ?_ | refine k_blk ?_ | refine k_reg ?_ | refine k_ret ?_ | refine k_exit ?_ | refine k_skip ?_ | refine Zs ?_))
  refine s_bs (cs := (shL.map (·.1)).map sv) (e := 9) (by kernel_rfl) (fun b w1 n1 => ?_)
  (repeat (first | refine k_nil ?_ | refine k_n ?_ | refine k_r ?_ | refine k_x ?_ | refine b_n ?_ | refine b_r ?_ | refine b_y rfl ?_ | refine b_z rfl ?_ | refine l_r ?_ | refine l_x ?_ | refine k_seq ?_ | refine k_blk ?_ | refine k_reg ?_ | refine k_ret ?_ | refine k_exit ?_ | refine k_skip ?_ | refine Zs ?_))
  refine ret_1 rfl rfl ⟨b, rfl, n1.ge, RS.blk (T := 9) n1.blk, n1.kp⟩
theorem word_at {op : Int} (h : 0 ≤ op ∧ op ≤ 29) : (shL.map (·.1))[op.toNat]? = some (sh op).1 := by
  have hl : op.toNat < shL.length := by show op.toNat < 30; omega
  have e : sh op = shL[op.toNat] := by unfold sh; rw [List.getElem?_eq_getElem hl]; rfl
  rw [List.getElem?_map, List.getElem?_eq_getElem hl, e]; rfl
theorem spl_sep (c : Int) : ∀ L : List Int, Sp.spl c (L ++ [c]) = Sp.spl c L ++ [[]] := by
  intro L
  induction L with
  | nil => simp [Sp.spl]
  | cons y r ih =>
    rw [List.cons_append, Sp.spl, Sp.spl]
    split
    · rw [ih, List.cons_append]
    · rw [ih]
      cases hs : Sp.spl c r with
      | nil => exact (Sp.spl_ne c r hs).elim
      | cons h t => rfl
theorem spl_snoc {c x : Int} (hx : x ≠ c) : ∀ (L : List Int) (O : List (List Int)) (q : List Int), Sp.spl c L = O ++ [q] → Sp.spl c (L ++ [x]) = O ++ [q ++ [x]] := by
  intro L
  induction L with
  | nil =>
    intro O q h
    have h : [[]] = O ++ [q] := h
    cases O with
    | nil => simp at h; subst h; simp [Sp.spl, hx]
    | cons a r => simp at h
  | cons y r ih =>
    intro O q h
    rw [List.cons_append, Sp.spl]
    rw [Sp.spl] at h
    split
    · rename_i hy
      rw [if_pos hy] at h
      cases O with
      | nil =>
        simp only [List.nil_append, List.cons.injEq] at h
        exact (Sp.spl_ne c r h.2).elim
      | cons a O =>
        simp only [List.cons_append, List.cons.injEq] at h
        rw [ih O q h.2, ← h.1]; rfl
    · rename_i hy
      rw [if_neg hy] at h
      cases hs : Sp.spl c r with
      | nil => exact (Sp.spl_ne c r hs).elim
      | cons a t =>
        rw [hs] at h
        simp only at h
        cases O with
        | nil =>
          simp only [List.nil_append, List.cons.injEq] at h
          obtain ⟨h1, h2⟩ := h
          subst h2
          rw [ih [] a hs]
          simp [← h1]
        | cons b O =>
          simp only [List.cons_append, List.cons.injEq] at h
          obtain ⟨h1, h2⟩ := h
          rw [ih (a :: O) q (by rw [hs, h2]; rfl)]
          simp [← h1]
set_option maxHeartbeats 4000000 in
theorem rsplit (s : ByteArray) (w : World) (hs : s.size ≤ 1000000) : Ret Tryz.prog 44 [.string s] w fun v w1 => (∃ a cc, v = .slice a (Sp.spl 32 (B s)).length cc ∧ RS w1 a (Sp.spl 32 (B s)) ∧ ∀ b o, a = some ⟨b, o, none⟩ → w.heap.size ≤ b) ∧ Kp No w w1 := by
  refine ret_enter Tryz.func44 rfl Tryz.ntmps44 rfl ?_
  (repeat (first | refine k_nil ?_ | refine k_n ?_ | refine k_r ?_ | refine k_x ?_ | refine b_n ?_ | refine b_r ?_ | refine b_y rfl ?_ | refine b_z rfl ?_ | refine l_r ?_ | refine l_x ?_ | refine k_seq ?_ | refine k_blk ?_ | refine k_reg ?_ | refine k_ret ?_ | refine k_exit ?_ | refine k_skip ?_ | refine Zs ?_))
  refine s_bs (cs := [.string ⟨#[]⟩]) (e := 9) rfl (fun b5 w1 n1 => ?_)
  have g1 := n1.ge
  have hsv0 : ([[]] : List (List Int)).map sv = [Value.string ⟨#[]⟩] := rfl
  have own0 : w1.ownsRow w.heap.size 9 1 (.slice (some ⟨b5, 0, none⟩) 1 1) 1 (([[]] : List (List Int)).map sv) := own_lit (size := 1) (n := 1) n1 (base := w.heap.size) (by omega) rfl (by omega)
  (repeat (first | refine k_nil ?_ | refine k_n ?_ | refine k_r ?_ | refine k_x ?_ | refine b_n ?_ | refine b_r ?_ | refine b_y rfl ?_ | refine b_z rfl ?_ | refine l_r ?_ | refine l_x ?_ | refine k_seq ?_ | refine k_blk ?_ | refine k_reg ?_ | refine k_ret ?_ | refine k_exit ?_ | refine k_skip ?_ | refine Zs ?_))
  refine k_loop (σ := Nat × List (List Int) × List Int × Option Addr × Nat) (fun t => [(0, .string s), (3, .slice t.2.2.2.1 (t.2.1.length + 1) t.2.2.2.2), (4, .int .i64 t.1)])
    (fun t m => t.1 ≤ s.size ∧ Sp.spl 32 ((B s).take t.1) = t.2.1 ++ [t.2.2.1] ∧ m.ownsRow w.heap.size 9 1 (.slice t.2.2.2.1 (t.2.1.length + 1) t.2.2.2.2) (t.2.1.length + 1) ((t.2.1 ++ [t.2.2.1]).map sv) ∧ Kp No w m) (fun t => s.size - t.1) (0, [], [], some ⟨b5, 0, none⟩, 1) ⟨rfl, rfl, rfl, trivial⟩ ⟨Nat.zero_le _, rfl, own0, n1.kp⟩ ?_
  rintro ⟨i, O, q, a, cc⟩ l m ⟨hi, hsp, own, km⟩
  simp only at hi hsp own
  try dsimp only
  have zm := km.size
  have hOl := Sp.spl_length 32 ((B s).take i)
  have hsub := Sp.spl_sub 32 ((B s).take i)
  rw [hsp] at hOl hsub
  rw [List.length_append, List.length_take, B_len] at hOl
  have hOl : O.length + 1 ≤ i + 1 := by have : ([q] : List (List Int)).length = 1 := rfl; omega
  have hql := (hsub q (by simp)).1
  rw [List.length_take, B_len] at hql
  have hqB : InB q := fun c hc => inB_B s c (List.mem_of_mem_take ((hsub q (by simp)).2 c hc))
  (repeat (first | refine k_nil ?_ | refine k_n ?_ | refine k_r ?_ | refine k_x ?_ | refine b_n ?_ | refine b_r ?_ | refine b_y rfl ?_ | refine b_z rfl ?_ | refine l_r ?_ | refine l_x ?_ | refine k_seq ?_ | refine k_blk ?_ | refine k_reg ?_ | refine k_ret ?_ | refine k_exit ?_ | refine k_skip ?_ | refine Zs ?_))
  refine c_dec rfl (fun hlt => ?_) (fun hge => ?_)
  · have hbt := B_at s i (by omega)
    have htk : (B s).take (i + 1) = (B s).take i ++ [bt s i] := by rw [List.take_add_one, hbt]; rfl
    (repeat (first | refine k_nil ?_ | refine k_n ?_ | refine k_r ?_ | refine k_x ?_ | refine b_n ?_ | refine b_r ?_ | refine b_y rfl ?_ | refine b_z rfl ?_ | refine l_r ?_ | refine l_x ?_ | refine k_seq ?_ | refine k_blk ?_ | refine k_reg ?_ | refine k_ret ?_ | refine k_exit ?_ | refine k_skip ?_ | refine Zs ?_))
    refine s_v (r_ix rfl rfl rfl (by omega) (by omega)) ?_
    (repeat (first | refine k_nil ?_ | refine k_n ?_ | refine k_r ?_ | refine k_x ?_ | refine b_n ?_ | refine b_r ?_ | refine b_y rfl ?_ | refine b_z rfl ?_ | refine l_r ?_ | refine l_x ?_ | refine k_seq ?_ | refine k_blk ?_ | refine k_reg ?_ | refine k_ret ?_ | refine k_exit ?_ | refine k_skip ?_ | refine Zs ?_))
    refine c_eq rfl (fun h32 => ?_) (fun h32 => ?_)
    · (repeat (first | refine k_nil ?_ | refine k_n ?_ | refine k_r ?_ | refine k_x ?_ | refine b_n ?_ | refine b_r ?_ | refine b_y rfl ?_ | refine b_z rfl ?_ | refine l_r ?_ | refine l_x ?_ | refine k_seq ?_ | refine k_blk ?_ | refine k_reg ?_ | refine k_ret ?_ | refine k_exit ?_ | refine k_skip ?_ | refine Zs ?_))
      refine s_bs (cs := [.string ⟨#[]⟩]) (e := 9) rfl (fun b6 m4 n6 => ?_)
      have z6 := n6.kp.size
      have own4 := own_kp own n6.kp (fun _ _ => id)
      refine s_app (size := 1) (bytes := 16) (base := w.heap.size) (news := [.string ⟨#[]⟩]) rfl rfl rfl rfl rfl rfl rfl rfl own4 rfl (blk_cells n6.blk) rfl rfl (by omega) (by omega) (by omega) ?_
      rintro v7 w7 ⟨own7, k7, _, _⟩
      have own8 := own7
      obtain ⟨a7, c7, rfl, _, _, _⟩ := own_read own7
      (repeat (first | refine k_nil ?_ | refine k_n ?_ | refine k_r ?_ | refine k_x ?_ | refine b_n ?_ | refine b_r ?_ | refine b_y rfl ?_ | refine b_z rfl ?_ | refine l_r ?_ | refine l_x ?_ | refine k_seq ?_ | refine k_blk ?_ | refine k_reg ?_ | refine k_ret ?_ | refine k_exit ?_ | refine k_skip ?_ | refine Zs ?_))
      have el : (O ++ [q]).length = O.length + 1 := by simp
      refine l_next (i + 1, O ++ [q], [], a7, c7) ⟨rfl, by simp only [el]; rfl, rfl, trivial⟩ ⟨by show i + 1 ≤ _; omega, ?_, ?_, (km.no n6.kp).trans k7 (fun x hx e => by have := (own_lt own4 e.symm).1; omega)⟩ (by show s.size - (i + 1) < s.size - i; omega)
      · show Sp.spl 32 ((B s).take (i + 1)) = (O ++ [q]) ++ [[]]
        rw [htk, h32, spl_sep, hsp]
      · show w7.ownsRow _ _ _ (.slice a7 ((O ++ [q]).length + 1) c7) ((O ++ [q]).length + 1) (((O ++ [q]) ++ [[]]).map sv)
        rw [el, List.map_append]
        exact own8
    · (repeat (first | refine k_nil ?_ | refine k_n ?_ | refine k_r ?_ | refine k_x ?_ | refine b_n ?_ | refine b_r ?_ | refine b_y rfl ?_ | refine b_z rfl ?_ | refine l_r ?_ | refine l_x ?_ | refine k_seq ?_ | refine k_blk ?_ | refine k_reg ?_ | refine k_ret ?_ | refine k_exit ?_ | refine k_skip ?_ | refine Zs ?_))
      refine k_h (fun w' => Kp No m w') [(0, false), (1, false), (2, false), (3, false), (4, false), (5, false), (6, false), (7, false), (8, false), (9, false), (10, false), (11, false), (12, false), (13, false), (14, false), (15, false), (16, false), (17, true)] 17 (by kernel_rfl) (by exact waits_of_last (by kernel_rfl)) (by kernel_rfl) (by kernel_rfl) rfl rfl (fun m4 k4 _ => ?_)
      obtain ⟨g, cur, rfl, hg', hgb, hkc, hst⟩ := own_put (k := O.length) (own_kp own k4 (fun _ _ => id)) (by simp)
      have hcq : ∀ w', Kp No m w' → w'.cell? ⟨g, 0 + (((O.length + 1 : Nat) : Int) - 1).toNat * 1, none⟩ = some (.string (strOfNums q)) := fun w' hw => by
        obtain ⟨_, _, e1, _, _, hr⟩ := own_read own
        cases e1
        obtain ⟨_, e2, _, _, hr⟩ := hr _ rfl
        cases e2
        have := hr O.length (sv q) (by simp)
        rw [show (((O.length + 1 : Nat) : Int) - 1).toNat * 1 = O.length from by omega]
        exact hw.cell0 this
      have hqs := sv_size hqB
      have hex : (s.extract i (i + 1)).size ≤ 1 := by rw [← B_len, B_extract, List.length_drop, List.length_take]; omega
      refine h_v k4 (fun w' hw => r_mv rfl) ?_
      refine h_v k4 (fun w' hw => r_mv rfl) ?_
      refine h_v k4 (fun w' hw => r_len rfl) ?_
      refine h_v k4 (fun w' hw => r_sub rfl rfl (by omega)) ?_
      refine h_v k4 (fun w' hw => r_mv rfl) ?_
      refine h_v k4 (fun w' hw => r_mv rfl) ?_
      refine h_v k4 (fun w' hw => r_len rfl) ?_
      refine h_v k4 (fun w' hw => r_sub rfl rfl (by omega)) ?_
      refine h_v k4 (fun w' hw => r_ia (i := (((O.length + 1 : Nat) : Int) - 1)) rfl rfl rfl rfl (by omega) (by omega)) ?_
      refine h_v k4 (fun w' hw => r_ld rfl rfl (hcq w' hw)) ?_
      refine h_v k4 (fun w' hw => r_mv rfl) ?_
      refine h_v k4 (fun w' hw => r_mv rfl) ?_
      refine h_v k4 (fun w' hw => r_mv rfl) ?_
      refine h_v k4 (fun w' hw => r_add rfl rfl (by omega)) ?_
      refine h_v k4 (fun w' hw => r_ss rfl rfl rfl rfl (by omega) (by omega) (by omega)) ?_
      rw [show ((i : Int)).toNat = i from rfl, show ((i : Int) + 1).toNat = i + 1 from rfl]
      refine h_v k4 (fun w' hw => r_cat rfl rfl (by omega)) ?_
      refine h_v k4 (fun w' hw => r_ia (i := (((O.length + 1 : Nat) : Int) - 1)) rfl rfl rfl rfl (by omega) (by omega)) ?_
      have hko : 0 + (((O.length + 1 : Nat) : Int) - 1).toNat * 1 = O.length := by omega
      have hcat : Value.string (strOfNums q ++ s.extract i (i + 1)) = sv (q ++ [bt s i]) := by
        unfold sv
        congr 1
        refine B_inj ?_
        have hb1 : InB (q ++ [bt s i]) := fun c hc => by
          rcases List.mem_append.1 hc with hc | hc
          · exact hqB c hc
          · rw [List.mem_singleton] at hc; subst hc; exact bt_range s i
        rw [B_append, B_str hqB, B_str hb1, B_extract, List.take_add_one, hbt, List.drop_append_of_le_length (by rw [List.length_take, B_len]; omega)]
        congr 1
        rw [List.drop_of_length_le (by rw [List.length_take, B_len]; omega)]
        rfl
      refine h_st rfl rfl rfl rfl rfl hgb (by rw [hko]; exact hkc) (fun m5 s5 => ⟨fun h => absurd rfl h, ?_⟩)
      have s5' : Sb m4 g (cur.set (0 + (((O.length + 1 : Nat) : Int) - 1).toNat * 1) (.string (strOfNums q ++ s.extract i (i + 1)))) 9 m5 := s5
      rw [hko, hcat] at s5'
      have own5 := hst _ _ s5'
      have e4 : ((O ++ [q]).map sv).set O.length (sv (q ++ [bt s i])) = (O ++ [q ++ [bt s i]]).map sv := by
        rw [List.map_append, List.map_append, List.set_append_right _ _ (by simp)]; simp
      rw [e4] at own5
      refine h_nil ?_
      have k25 : Kp No w m5 := (km.no k4).trans s5'.kp (fun q hq hqe => by have hqe : q = g := hqe; omega)
      (repeat (first | refine k_nil ?_ | refine k_n ?_ | refine k_r ?_ | refine k_x ?_ | refine b_n ?_ | refine b_r ?_ | refine b_y rfl ?_ | refine b_z rfl ?_ | refine l_r ?_ | refine l_x ?_ | refine k_seq ?_ | refine k_blk ?_ | refine k_reg ?_ | refine k_ret ?_ | refine k_exit ?_ | refine k_skip ?_ | refine Zs ?_))
      refine l_next (i + 1, O, q ++ [bt s i], some ⟨g, 0, none⟩, cc) ⟨rfl, rfl, rfl, trivial⟩ ⟨by show i + 1 ≤ s.size; omega, ?_, own5, k25⟩ (by show s.size - (i + 1) < s.size - i; omega)
      show Sp.spl 32 ((B s).take (i + 1)) = O ++ [q ++ [bt s i]]
      rw [htk]
      exact spl_snoc h32 _ _ _ hsp
  · obtain rfl : i = s.size := by omega
    rw [List.take_of_length_le (by rw [B_len]; exact Nat.le_refl _)] at hsp
    have el : (O ++ [q]).length = O.length + 1 := by simp
    (repeat (first | refine k_nil ?_ | refine k_n ?_ | refine k_r ?_ | refine k_x ?_ | refine b_n ?_ | refine b_r ?_ | refine b_y rfl ?_ | refine b_z rfl ?_ | refine l_r ?_ | refine l_x ?_ | refine k_seq ?_ | refine k_blk ?_ | refine k_reg ?_ | refine k_ret ?_ | refine k_exit ?_ | refine k_skip ?_ | refine Zs ?_))
    refine ret_1 rfl rfl ⟨⟨a, cc, by rw [hsp, el], ?_, fun b o e => ?_⟩, km⟩
    · rw [hsp]
      exact RS.of (cp := cc) (by rw [el]; exact own)
    · subst e
      exact (own_lt own rfl).1
end Cd
end Go.Proofs.YtpamkidcmjfieaaGreatDoor
