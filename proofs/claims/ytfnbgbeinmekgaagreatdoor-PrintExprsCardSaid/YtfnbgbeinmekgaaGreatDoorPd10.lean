/- What the proofs of this seat lean on, part 10. -/
import Derived.Test.YtfnbgbeinmekgaaGreatDoorPd9
namespace Go.Proofs.YtfnbgbeinmekgaaGreatDoor
open Go Go.RowKit Fw
set_option linter.unusedVariables false
set_option maxRecDepth 20000
namespace Tk
theorem rletter (c : Int) (w : World) : Ret Tryz.prog 86 [.int .u8 c] w fun v w1 => v = .bool (lett c) ∧ w1 = w := by
  refine ret_enter Tryz.func86 rfl Tryz.ntmps86 rfl ?_
  (repeat refine Zr ?_)
  by_cases h1 : 97 ≤ c
  · refine s_set 5 true rfl (by simp [h1]) ?_
    (repeat (first | refine Zr ?_ | refine Zn ?_ | refine Zu ?_ | refine Zg ?_))
    by_cases h2 : c ≤ 122
    · refine s_set 9 true rfl (by simp [h2]) ?_
      (repeat (first | refine Zr ?_ | refine Zn ?_ | refine Zu ?_ | refine Zg ?_))
      refine ret_1 rfl rfl ⟨congrArg Value.bool ?_, rfl⟩
      simp [lett, h1, h2]
    · refine s_set 9 false rfl (by simp [h2]) ?_
      (repeat (first | refine Zr ?_ | refine Zn ?_ | refine Zu ?_ | refine Zg ?_))
      refine s_set 12 true rfl (by simp; omega) ?_
      (repeat (first | refine Zr ?_ | refine Zn ?_ | refine Zu ?_ | refine Zg ?_))
      refine s_set 17 false rfl (by simp; omega) ?_
      (repeat (first | refine Zr ?_ | refine Zn ?_ | refine Zu ?_ | refine Zg ?_))
      refine ret_1 rfl rfl ⟨congrArg Value.bool ?_, rfl⟩
      simp [lett, h2, show ¬ c ≤ 90 from by omega]
  · refine s_set 5 false rfl (by simp [h1]) ?_
    (repeat (first | refine Zr ?_ | refine Zn ?_ | refine Zu ?_ | refine Zg ?_))
    by_cases h3 : 65 ≤ c
    · refine s_set 12 true rfl (by simp [h3]) ?_
      (repeat (first | refine Zr ?_ | refine Zn ?_ | refine Zu ?_ | refine Zg ?_))
      by_cases h4 : c ≤ 90
      · refine s_set 17 true rfl (by simp [h4]) ?_
        (repeat (first | refine Zr ?_ | refine Zn ?_ | refine Zu ?_ | refine Zg ?_))
        refine ret_1 rfl rfl ⟨congrArg Value.bool ?_, rfl⟩
        simp [lett, h3, h4]
      · refine s_set 17 false rfl (by simp [h4]) ?_
        (repeat (first | refine Zr ?_ | refine Zn ?_ | refine Zu ?_ | refine Zg ?_))
        refine ret_1 rfl rfl ⟨congrArg Value.bool ?_, rfl⟩
        simp [lett, h1, h4]
    · refine s_set 12 false rfl (by simp [h3]) ?_
      (repeat (first | refine Zr ?_ | refine Zn ?_ | refine Zu ?_ | refine Zg ?_))
      refine ret_1 rfl rfl ⟨congrArg Value.bool ?_, rfl⟩
      simp [lett, h1, h3]
theorem rdigit (c : Int) (w : World) : Ret Tryz.prog 87 [.int .u8 c] w fun v w1 => v = .bool (digi c) ∧ w1 = w := by
  refine ret_enter Tryz.func87 rfl Tryz.ntmps87 rfl ?_
  (repeat refine Zr ?_)
  refine s_split 5 rfl (fun h5 => ?_) (fun h5 => ?_)
  · (repeat (first | refine Zr ?_ | refine Zn ?_ | refine Zu ?_ | refine Zg ?_))
    refine ret_1 rfl rfl ⟨congrArg Value.bool ?_, rfl⟩
    simp [digi, h5]
  · (repeat (first | refine Zr ?_ | refine Zn ?_ | refine Zu ?_ | refine Zg ?_))
    refine ret_1 rfl rfl ⟨congrArg Value.bool ?_, rfl⟩
    simp [digi, h5]
end Tk
end Go.Proofs.YtfnbgbeinmekgaaGreatDoor
namespace Go.Proofs.YtfnbgbeinmekgaaGreatDoor
open Go Go.RowKit Fw
set_option linter.unusedVariables false
set_option maxRecDepth 20000
namespace Tk
theorem rhas (ls : List ByteArray) (a : Option Addr) (c : Nat) (x : ByteArray) (w : World) (h : Rd w a ls) (hl : ls.length ≤ 1000) :
    Ret Tryz.prog 88 [.slice a ls.length c, .string x] w fun v w1 => v = .bool ((ls.map B).contains (B x)) ∧ w1 = w := by
  refine ret_enter Tryz.func88 rfl Tryz.ntmps88 rfl ?_
  (repeat refine Zr ?_)
  refine k_loop (σ := Nat) (fun t => [(0, .slice a ls.length c), (1, .string x), (7, .int .i64 ls.length), (8, .int .i64 t)]) (fun t w' => t ≤ ls.length ∧ (∀ j y, j < t → ls[j]? = some y → B y ≠ B x) ∧ w' = w) (fun t => ls.length - t) 0 ⟨rfl, rfl, rfl, rfl, trivial⟩ ⟨by omega, fun j y hj => by omega, rfl⟩ ?_
  rintro t l w ⟨ht, hne, rfl⟩
  (repeat refine Zr ?_)
  refine c_dec rfl (fun hlt => ?_) (fun hge => ?_)
  · obtain ⟨y, hy⟩ : ∃ y, ls[t]? = some y := ⟨_, List.getElem?_eq_getElem (by omega)⟩
    obtain ⟨b, o, rfl, hcy⟩ := h.at hy
    (repeat refine Zr ?_)
    refine s_v (r_ia rfl rfl rfl rfl (by omega) (by omega)) ?_
    (repeat refine Zr ?_)
    refine c_b rfl (fun he => ?_) (fun he => ?_)
    · rw [str_eq] at he
      (repeat refine Zr ?_)
      refine ret_1 rfl rfl ⟨congrArg Value.bool ?_, rfl⟩
      symm
      simp only [List.contains_iff_mem, List.mem_map]
      exact ⟨y, List.mem_of_getElem? hy, of_decide_eq_true he⟩
    · rw [str_eq] at he
      (repeat refine Zr ?_)
      refine l_next (t + 1) ⟨rfl, rfl, rfl, rfl, trivial⟩ ⟨by omega, fun j z hj hz => ?_, rfl⟩ (by omega)
      by_cases hjt : j = t
      · subst hjt; rw [hy] at hz; cases hz; exact of_decide_eq_false he
      · exact hne j z (by omega) hz
  · (repeat refine Zr ?_)
    refine ret_1 rfl rfl ⟨congrArg Value.bool ?_, rfl⟩
    symm
    rw [Bool.eq_false_iff]
    simp only [ne_eq, List.contains_iff_mem, List.mem_map, not_exists, not_and]
    intro y hy
    obtain ⟨j, hj⟩ := List.mem_iff_getElem?.1 hy
    exact hne j y (by have := (List.getElem?_eq_some_iff.1 hj).1; omega) hj
theorem rWords (w : World) : Ret Tryz.prog 89 [] w fun v w1 => ∃ b, v = .slice (some ⟨b, 0, none⟩) 13 13 ∧ Rd w1 (some ⟨b, 0, none⟩) wordsB ∧ Kp No w w1 ∧ w.heap.size ≤ b := by
  refine ret_enter Tryz.func89 rfl Tryz.ntmps89 rfl ?_
  (repeat refine Zr ?_)
  refine s_bs (cs := sc wordsB) (e := 9) (by kernel_rfl) (fun b w1 n1 => ?_)
  (repeat refine Zr ?_)
  refine ret_1 rfl rfl ⟨b, rfl, .inr ⟨b, 0, rfl, fun j s hj => blk_cells n1.blk j _ (sc_get hj)⟩, n1.kp, n1.ge⟩
set_option maxHeartbeats 1000000 in
theorem rSkip (s : ByteArray) (i : Nat) (w : World) (hs : s.size ≤ 1000000) (hi : i ≤ s.size) :
    Ret Tryz.prog 85 [.string s, .int .i64 i] w fun v w1 => v = .int .i64 ((i + sk false ((B s).drop i) : Nat) : Int) ∧ w1 = w := by
  refine ret_enter Tryz.func85 rfl Tryz.ntmps85 rfl ?_
  (repeat refine Zr ?_)
  refine k_loop (σ := Nat) (fun t => [(0, .string s), (1, .int .i64 t)]) (fun t w' => t ≤ s.size ∧ t + sk false ((B s).drop t) = i + sk false ((B s).drop i) ∧ w' = w) (fun t => s.size - t) i ⟨rfl, rfl, trivial⟩ ⟨hi, rfl, rfl⟩ ?_
  rintro t l w ⟨ht, he, rfl⟩
  (repeat refine Zr ?_)
  refine c_dec rfl (fun hlt => ?_) (fun hge => ?_)
  · have hlt' : t < s.size := by omega
    have hd := drop_at s t hlt'
    have hr := bt_range s t
    have hyes : blan (bt s t) = true → t + 1 + sk false ((B s).drop (t + 1)) = i + sk false ((B s).drop i) := fun h => by
      rw [hd, sk, if_pos h] at he; omega
    (repeat refine Zr ?_)
    refine s_v (r_ix rfl rfl rfl (by omega) (by omega)) ?_
    (repeat refine Zr ?_)
    refine s_split 13 rfl (fun h13 => ?_) (fun h13 => ?_)
    · (repeat (first | refine Zr ?_ | refine Zn ?_ | refine Zu ?_ | refine Zg ?_))
      refine c_t rfl ?_
      (repeat refine Zr ?_)
      exact l_next (t + 1) ⟨rfl, rfl, trivial⟩ ⟨by omega, hyes (by simp [blan, h13]), rfl⟩ (by omega)
    (repeat (first | refine Zr ?_ | refine Zn ?_ | refine Zu ?_ | refine Zg ?_))
    refine s_gv rfl (r_ix rfl rfl rfl (by omega) (by omega)) ?_
    (repeat (first | refine Zr ?_ | refine Zn ?_ | refine Zu ?_ | refine Zg ?_))
    refine s_split 19 rfl (fun h19 => ?_) (fun h19 => ?_)
    · (repeat (first | refine Zr ?_ | refine Zn ?_ | refine Zu ?_ | refine Zg ?_))
      refine c_t rfl ?_
      (repeat refine Zr ?_)
      exact l_next (t + 1) ⟨rfl, rfl, trivial⟩ ⟨by omega, hyes (by simp [blan, h19]), rfl⟩ (by omega)
    (repeat (first | refine Zr ?_ | refine Zn ?_ | refine Zu ?_ | refine Zg ?_))
    refine s_gv rfl (r_ix rfl rfl rfl (by omega) (by omega)) ?_
    (repeat (first | refine Zr ?_ | refine Zn ?_ | refine Zu ?_ | refine Zg ?_))
    refine s_split 25 rfl (fun h25 => ?_) (fun h25 => ?_)
    · (repeat (first | refine Zr ?_ | refine Zn ?_ | refine Zu ?_ | refine Zg ?_))
      refine c_t rfl ?_
      (repeat refine Zr ?_)
      exact l_next (t + 1) ⟨rfl, rfl, trivial⟩ ⟨by omega, hyes (by simp [blan, h25]), rfl⟩ (by omega)
    (repeat (first | refine Zr ?_ | refine Zn ?_ | refine Zu ?_ | refine Zg ?_))
    refine s_gv rfl (r_ix rfl rfl rfl (by omega) (by omega)) ?_
    (repeat (first | refine Zr ?_ | refine Zn ?_ | refine Zu ?_ | refine Zg ?_))
    refine c_eq rfl (fun h30 => ?_) (fun h30 => ?_)
    · (repeat refine Zr ?_)
      exact l_next (t + 1) ⟨rfl, rfl, trivial⟩ ⟨by omega, hyes (by simp [blan, h30]), rfl⟩ (by omega)
    have hno : ¬ blan (bt s t) = true := by simp [blan, h13, h19, h25, h30]
    rw [hd, sk, if_neg hno] at he
    (repeat refine Zr ?_)
    refine s_v (r_ix rfl rfl rfl (by omega) (by omega)) ?_
    (repeat refine Zr ?_)
    refine c_ne rfl (fun h35 => ?_) (fun h35 => ?_)
    · (repeat refine Zr ?_)
      rw [if_neg h35] at he
      exact ret_1 rfl rfl ⟨by rw [← he]; rfl, rfl⟩
    · rw [if_pos h35] at he
      have he' : t + sk true ((B s).drop t) = i + sk false ((B s).drop i) := by
        rw [hd, sk, if_neg (by omega)]; exact he
      (repeat refine Zr ?_)
      refine k_loop (σ := Nat) (fun t => [(0, .string s), (1, .int .i64 t)]) (fun u w' => t ≤ u ∧ u ≤ s.size ∧ u + sk true ((B s).drop u) = i + sk false ((B s).drop i) ∧ w' = w ∧ (u = t ∨ t < u)) (fun t => s.size - t) t ⟨rfl, rfl, trivial⟩ ⟨Nat.le_refl _, ht, he', rfl, .inl rfl⟩ ?_
      rintro u l w ⟨hu1, hu2, hu, rfl, hu3⟩
      (repeat refine Zr ?_)
      by_cases hult : u < s.size
      · refine s_set 42 true rfl (by simp; omega) ?_
        have hdu := drop_at s u hult
        (repeat (first | refine Zr ?_ | refine Zn ?_ | refine Zu ?_ | refine Zg ?_))
        refine s_gv rfl (r_ix rfl rfl rfl (by omega) (by omega)) ?_
        (repeat (first | refine Zr ?_ | refine Zn ?_ | refine Zu ?_ | refine Zg ?_))
        refine c_ne rfl (fun h10 => ?_) (fun h10 => ?_)
        · (repeat refine Zr ?_)
          rw [hdu, sk, if_neg h10] at hu
          exact l_next (u + 1) ⟨rfl, rfl, trivial⟩ ⟨by omega, by omega, by omega, rfl, by omega⟩ (by omega)
        · have hut : u ≠ t := fun e => by subst e; omega
          (repeat refine Zr ?_)
          refine l_next u ⟨rfl, rfl, trivial⟩ ⟨by omega, ?_, rfl⟩ (by omega)
          rw [hdu, sk, if_pos h10] at hu
          rw [hdu, sk, if_pos (by simp [blan, h10])]
          exact hu
      · refine s_set 42 false rfl (by simp; omega) ?_
        (repeat (first | refine Zr ?_ | refine Zn ?_ | refine Zu ?_ | refine Zg ?_))
        refine c_f rfl ?_
        (repeat refine Zr ?_)
        refine l_next u ⟨rfl, rfl, trivial⟩ ⟨by omega, ?_, rfl⟩ (by omega)
        rw [drop_end s u (by omega), sk] at hu ⊢
        exact hu
  · (repeat refine Zr ?_)
    rw [drop_end s t (by omega), sk] at he
    exact ret_1 rfl rfl ⟨by rw [← he]; rfl, rfl⟩
def onesB : List ByteArray := signsL.map fun c => strOf [c]
theorem B_ones : onesB.map B = signsL.map fun c => [c] := by kernel_rfl
theorem two_eq (L : List Int) (h : 2 ≤ L.length) : pairsL.contains (L.take 2) = pairsL.any (fun p => p.isPrefixOf L) := by
  rw [Bool.eq_iff_iff, List.any_eq_true, List.contains_iff_mem]
  have h2 : ∀ p ∈ pairsL, p.length = 2 := by decide
  constructor
  · intro hm
    exact ⟨_, hm, List.isPrefixOf_iff_prefix.2 (List.take_prefix _ _)⟩
  · rintro ⟨p, hp, hq⟩
    have := List.prefix_iff_eq_take.1 (List.isPrefixOf_iff_prefix.1 hq)
    rw [h2 p hp] at this
    rw [← this]; exact hp
theorem one_eq (c : Int) (r : List Int) : (signsL.map fun c => [c]).contains ((c :: r).take 1) = signsL.contains c := by
  rw [Bool.eq_iff_iff, List.contains_iff_mem, List.contains_iff_mem, List.mem_map]
  constructor
  · rintro ⟨x, hx, h⟩; simp at h; subst h; exact hx
  · intro h; exact ⟨c, h, by simp⟩
set_option maxHeartbeats 2000000 in
set_option maxRecDepth 100000 in
theorem rNext (s : ByteArray) (i : Nat) (w : World) (hs : s.size ≤ 1000000) (hi : i ≤ s.size) :
    Ret Tryz.prog 55 [.string s, .int .i64 i] w fun v w1 => v = nxV s i ∧ Kp No w w1 := by
  refine ret_enter Tryz.func55 rfl Tryz.ntmps55 rfl ?_
  (repeat refine Zr ?_)
  refine s_al rfl (fun b4 w1 n1 => ?_)
  (repeat refine Zr ?_)
  refine s_call (us := []) (zs := []) (by kernel_rfl) rfl rfl (rSkip s i w1 hs hi) ?_
  rintro _ w2 ⟨rfl, rfl⟩
  obtain ⟨j, hj⟩ : ∃ j, j = i + sk false ((B s).drop i) := ⟨_, rfl⟩
  have hjl : j ≤ s.size := by
    have := sk_le ((B s).drop i) false
    rw [List.length_drop, B_len] at this; omega
  rw [← hj]
  have y1 := n1.ge
  have x1 := n1.lt
  have z1 := n1.kp.size
  have b4' := n1.blk
  have ag : ∀ w', Kp No w2 w' → w'.heap[b4]? = some (.cells [.int .i64 0, .int .i64 0, .int .i64 0].toArray 64 (0, 0)) := fun w' k => k.get0 b4'
  have kw2 := n1.kp
  clear b4' n1
  (repeat refine Zr ?_)
  refine c_eq rfl (fun hend => ?_) (fun hne => ?_)
  · (repeat refine Zr ?_)
    refine s_st rfl rfl rfl rfl rfl (ag w2 (Kp.refl _ _)) (Nat.le_of_ble_eq_true rfl) (fun w5 s5 => ?_)
    (repeat refine Zr ?_)
    refine ret_c2 rfl (rv_ag (vs := [.int .i64 0, .int .i64 j, .int .i64 j]) rfl rfl rfl s5.blk rfl rfl) (rv_t rfl) ⟨nxV_of (ok := true) (m := 0) hj ?_ rfl rfl (by simp), kw2.trans s5.kp (fun _ _ e => by omega)⟩
    rw [drop_end s j (by omega)]; rfl
  have hlt : j < s.size := by omega
  have hd := drop_at s j hlt
  have hr := bt_range s j
  (repeat refine Zr ?_)
  refine s_v (r_ix rfl rfl rfl (by omega) (by omega)) ?_
  refine s_call (us := []) (zs := []) (by kernel_rfl) rfl rfl (rletter (bt s j) w2) ?_
  rintro _ w5 ⟨rfl, rfl⟩
  (repeat refine Zr ?_)
  refine c_b rfl (fun hl => ?_) (fun hl => ?_)
  · obtain ⟨m, hm⟩ : ∃ m, rn eith ((B s).drop j) = m := ⟨_, rfl⟩
    have hm0 : 0 < m := by rw [← hm, hd]; exact rn_pos (by simp [eith, hl])
    have hml : j + m ≤ s.size := by
      have := rn_le eith ((B s).drop j)
      rw [List.length_drop, B_len, hm] at this; omega
    have hx : B (s.extract j (j + m)) = ((B s).drop j).take m := by rw [B_extract, List.drop_take]; congr 1; omega
    (repeat refine Zr ?_)
    refine k_cutb (σ := Unit) (fun _ => [(0, .string s), (1, .int .i64 j), (4, .pointer (some ⟨b4, 0, none⟩)), (6, .int .i64 ((j + m : Nat) : Int))]) (fun _ w' => w' = w5) ?_ ?_
    · refine k_loop (σ := Nat) (fun t => [(0, .string s), (1, .int .i64 j), (4, .pointer (some ⟨b4, 0, none⟩)), (6, .int .i64 t)]) (fun t w' => t ≤ s.size ∧ t + rn eith ((B s).drop t) = j + m ∧ w' = w5) (fun t => s.size - t) j ⟨rfl, rfl, rfl, rfl, trivial⟩ ⟨hjl, by rw [hm], rfl⟩ ?_
      rintro t l w5 ⟨ht, he, rfl⟩
      (repeat refine Zr ?_)
      by_cases hlt2 : t < s.size
      · have hdt := drop_at s t hlt2
        have hrt := bt_range s t
        rw [hdt, rn] at he
        refine s_set 29 true rfl (by simp; omega) ?_
        (repeat (first | refine Zr ?_ | refine Zn ?_ | refine Zu ?_ | refine Zg ?_))
        refine s_gv rfl (r_ix rfl rfl rfl (by omega) (by omega)) ?_
        refine s_gcall (us := []) (zs := []) rfl (by kernel_rfl) rfl rfl (rletter (bt s t) w5) ?_
        rintro _ w6 ⟨rfl, rfl⟩
        (repeat (first | refine Zr ?_ | refine Zn ?_ | refine Zu ?_ | refine Zg ?_))
        refine s_split 34 rfl (fun h34 => ?_) (fun h34 => ?_)
        · rw [if_pos (by simp [eith, h34])] at he
          (repeat (first | refine Zr ?_ | refine Zn ?_ | refine Zu ?_ | refine Zg ?_))
          refine c_t rfl ?_
          (repeat refine Zr ?_)
          exact l_next (t + 1) ⟨rfl, rfl, rfl, rfl, trivial⟩ ⟨by omega, by omega, rfl⟩ (by omega)
        · (repeat (first | refine Zr ?_ | refine Zn ?_ | refine Zu ?_ | refine Zg ?_))
          refine s_gv rfl (r_ix rfl rfl rfl (by omega) (by omega)) ?_
          refine s_gcall (us := []) (zs := []) rfl (by kernel_rfl) rfl rfl (rdigit (bt s t) w6) ?_
          rintro _ w7 ⟨rfl, rfl⟩
          (repeat (first | refine Zr ?_ | refine Zn ?_ | refine Zu ?_ | refine Zg ?_))
          refine c_b rfl (fun hdg => ?_) (fun hdg => ?_)
          · rw [if_pos (by simp [eith, hdg])] at he
            (repeat refine Zr ?_)
            exact l_next (t + 1) ⟨rfl, rfl, rfl, rfl, trivial⟩ ⟨by omega, by omega, rfl⟩ (by omega)
          · rw [if_neg (by simp [eith, h34, hdg])] at he
            have htt : t = j + m := by omega
            subst htt
            (repeat refine Zr ?_)
            exact l_cut () ⟨rfl, rfl, rfl, rfl, trivial⟩ rfl
      · rw [drop_end s t (by omega), rn] at he
        have htt : t = j + m := by omega
        subst htt
        refine s_set 29 false rfl (by simp; omega) ?_
        (repeat (first | refine Zr ?_ | refine Zn ?_ | refine Zu ?_ | refine Zg ?_))
        refine c_f rfl ?_
        (repeat refine Zr ?_)
        exact l_cut () ⟨rfl, rfl, rfl, rfl, trivial⟩ rfl
    rintro _ l w6 rfl
    (repeat refine Zr ?_)
    refine k_h (fun w' => Kp No w6 w') [(1, false), (2, false), (3, false), (4, false), (0, true), (5, true)] 5 (by kernel_rfl) (by exact waits_of_last (by kernel_rfl)) (by kernel_rfl) (by kernel_rfl) rfl rfl ?_
    intro w7 k7 e7
    refine h_v k7 (fun w' hw => r_mv rfl) ?_
    refine h_v k7 (fun w' hw => r_mv rfl) ?_
    refine h_v k7 (fun w' hw => r_mv rfl) ?_
    refine h_v k7 (fun w' hw => r_ss rfl rfl rfl rfl (by omega) (by omega) (by omega)) ?_
    refine h_call (us := []) (zs := []) (by kernel_rfl) rfl rfl (rWords w7) ?_
    rintro _ w8 ⟨bw, rfl, hrd, k8, g8⟩
    refine ⟨fun _ => k7.no k8, ?_⟩
    refine h_call (us := []) (zs := []) (by kernel_rfl) rfl rfl (rhas wordsB (some ⟨bw, 0, none⟩) 13 (s.extract j (j + m)) w8 hrd (by decide +kernel)) ?_
    rintro _ w9 ⟨rfl, rfl⟩
    refine ⟨fun h => absurd rfl h, ?_⟩
    refine h_nil ?_
    rw [B_words, hx]
    have k9 : Kp No w6 w9 := k7.no k8
    have kw9 := kw2.no k9
    (repeat refine Zr ?_)
    refine c_b rfl (fun hw => ?_) (fun hw => ?_)
    · (repeat refine Zr ?_)
      refine s_st rfl rfl rfl rfl rfl (ag w9 k9) (Nat.le_of_ble_eq_true rfl) (fun w10 s10 => ?_)
      (repeat refine Zr ?_)
      refine ret_c2 rfl (rv_ag (vs := [.int .i64 3, .int .i64 j, .int .i64 ((j + m : Nat) : Int)]) rfl rfl rfl s10.blk rfl rfl) (rv_t rfl) ⟨nxV_of (ok := true) (m := m) hj ?_ rfl rfl rfl, kw9.trans s10.kp (fun _ _ e => by omega)⟩
      rw [← hm] at hw ⊢
      rw [hd] at hw ⊢
      rw [body, if_pos hl, if_pos hw]
    · (repeat refine Zr ?_)
      refine s_st rfl rfl rfl rfl rfl (ag w9 k9) (Nat.le_of_ble_eq_true rfl) (fun w10 s10 => ?_)
      (repeat refine Zr ?_)
      refine ret_c2 rfl (rv_ag (vs := [.int .i64 1, .int .i64 j, .int .i64 ((j + m : Nat) : Int)]) rfl rfl rfl s10.blk rfl rfl) (rv_t rfl) ⟨nxV_of (ok := true) (m := m) hj ?_ rfl rfl rfl, kw9.trans s10.kp (fun _ _ e => by omega)⟩
      rw [← hm] at hw ⊢
      rw [hd] at hw ⊢
      rw [body, if_pos hl, if_neg (by rw [hw]; exact Bool.false_ne_true)]
  have hl' : ¬ lett (bt s j) = true := by rw [hl]; exact Bool.false_ne_true
  (repeat refine Zr ?_)
  refine s_v (r_ix rfl rfl rfl (by omega) (by omega)) ?_
  refine s_call (us := []) (zs := []) (by kernel_rfl) rfl rfl (rdigit (bt s j) w5) ?_
  rintro _ w6 ⟨rfl, rfl⟩
  (repeat refine Zr ?_)
  refine c_b rfl (fun hg => ?_) (fun hg => ?_)
  · obtain ⟨m, hm⟩ : ∃ m, rn digi ((B s).drop j) = m := ⟨_, rfl⟩
    have hm0 : 0 < m := by rw [← hm, hd]; exact rn_pos hg
    have hml : j + m ≤ s.size := by
      have := rn_le digi ((B s).drop j)
      rw [List.length_drop, B_len, hm] at this; omega
    have hbody : body ((B s).drop j) = if m ≤ 18 ∧ (m = 1 ∨ bt s j ≠ 48) ∧ rn lett (((B s).drop j).drop m) = 0 then (true, 2, m) else (false, 0, 0) := by
      rw [← hm, hd, body, if_neg hl', if_pos hg]
    rw [List.drop_drop] at hbody
    (repeat refine Zr ?_)
    refine k_cutb (σ := Unit) (fun _ => [(0, .string s), (1, .int .i64 j), (4, .pointer (some ⟨b4, 0, none⟩)), (6, .int .i64 ((j + m : Nat) : Int))]) (fun _ w' => w' = w6) ?_ ?_
    · refine k_loop (σ := Nat) (fun t => [(0, .string s), (1, .int .i64 j), (4, .pointer (some ⟨b4, 0, none⟩)), (6, .int .i64 t)]) (fun t w' => t ≤ s.size ∧ t + rn digi ((B s).drop t) = j + m ∧ w' = w6) (fun t => s.size - t) j ⟨rfl, rfl, rfl, rfl, trivial⟩ ⟨hjl, by rw [hm], rfl⟩ ?_
      rintro t l w6 ⟨ht, he, rfl⟩
      (repeat refine Zr ?_)
      by_cases hlt2 : t < s.size
      · have hdt := drop_at s t hlt2
        rw [hdt, rn] at he
        refine s_set 65 true rfl (by simp; omega) ?_
        (repeat (first | refine Zr ?_ | refine Zn ?_ | refine Zu ?_ | refine Zg ?_))
        refine s_gv rfl (r_ix rfl rfl rfl (by omega) (by omega)) ?_
        refine s_gcall (us := []) (zs := []) rfl (by kernel_rfl) rfl rfl (rdigit (bt s t) w6) ?_
        rintro _ w7 ⟨rfl, rfl⟩
        (repeat (first | refine Zr ?_ | refine Zn ?_ | refine Zu ?_ | refine Zg ?_))
        refine c_b rfl (fun hdg => ?_) (fun hdg => ?_)
        · rw [if_pos hdg] at he
          (repeat refine Zr ?_)
          exact l_next (t + 1) ⟨rfl, rfl, rfl, rfl, trivial⟩ ⟨by omega, by omega, rfl⟩ (by omega)
        · rw [if_neg (by rw [hdg]; exact Bool.false_ne_true)] at he
          have htt : t = j + m := by omega
          subst htt
          (repeat refine Zr ?_)
          exact l_cut () ⟨rfl, rfl, rfl, rfl, trivial⟩ rfl
      · rw [drop_end s t (by omega), rn] at he
        have htt : t = j + m := by omega
        subst htt
        refine s_set 65 false rfl (by simp; omega) ?_
        (repeat (first | refine Zr ?_ | refine Zn ?_ | refine Zu ?_ | refine Zg ?_))
        refine c_f rfl ?_
        (repeat refine Zr ?_)
        exact l_cut () ⟨rfl, rfl, rfl, rfl, trivial⟩ rfl
    rintro _ l w5 rfl
    have k5 : Kp No w5 w5 := Kp.refl _ _
    have kw5 := kw2
    (repeat refine Zr ?_)
    by_cases h18 : m ≤ 18
    · refine s_set 77 false rfl (by simp; omega) ?_
      (repeat (first | refine Zr ?_ | refine Zn ?_ | refine Zu ?_ | refine Zg ?_))
      by_cases h1m : m = 1
      · refine s_set 82 false rfl (by simp; omega) ?_
        (repeat (first | refine Zr ?_ | refine Zn ?_ | refine Zu ?_ | refine Zg ?_))
        by_cases hlt2 : j + m < s.size
        · refine s_set 94 true rfl (by simp; omega) ?_
          have hd2 := drop_at s (j + m) hlt2
          (repeat (first | refine Zr ?_ | refine Zn ?_ | refine Zu ?_ | refine Zg ?_))
          refine s_gv rfl (r_ix rfl rfl rfl (by omega) (by omega)) ?_
          refine s_gcall (us := []) (zs := []) rfl (by kernel_rfl) rfl rfl (rletter (bt s ((j + m : Nat) : Int)) w5) ?_
          rintro _ w6 ⟨rfl, rfl⟩
          (repeat (first | refine Zr ?_ | refine Zn ?_ | refine Zu ?_ | refine Zg ?_))
          refine c_b rfl (fun hlt3 => ?_) (fun hlt3 => ?_)
          · (repeat refine Zr ?_)
            refine s_st rfl rfl rfl rfl rfl (ag w6 k5) (Nat.le_of_ble_eq_true rfl) (fun w11 s11 => ?_)
            (repeat refine Zr ?_)
            refine ret_c2 rfl (rv_ag (vs := [.int .i64 0, .int .i64 j, .int .i64 j]) rfl rfl rfl s11.blk rfl rfl) (rv_t rfl) ⟨nxV_of (ok := false) (m := 0) hj ?_ rfl rfl (by simp), (kw5).trans s11.kp (fun _ _ e => by omega)⟩
            rw [hbody, if_neg (by rintro ⟨h1, h2, h3⟩; rw [hd2, rn, if_pos hlt3] at h3; omega)]
          · (repeat refine Zr ?_)
            refine s_st rfl rfl rfl rfl rfl (ag w6 k5) (Nat.le_of_ble_eq_true rfl) (fun w11 s11 => ?_)
            (repeat refine Zr ?_)
            refine ret_c2 rfl (rv_ag (vs := [.int .i64 2, .int .i64 j, .int .i64 ((j + m : Nat) : Int)]) rfl rfl rfl s11.blk rfl rfl) (rv_t rfl) ⟨nxV_of (ok := true) (m := m) hj ?_ rfl rfl rfl, (kw5).trans s11.kp (fun _ _ e => by omega)⟩
            rw [hbody, if_pos ⟨h18, .inl h1m, by rw [hd2, rn, if_neg (by rw [hlt3]; exact Bool.false_ne_true)]⟩]
        · refine s_set 94 false rfl (by simp; omega) ?_
          have hd2 := drop_end s (j + m) (by omega)
          (repeat (first | refine Zr ?_ | refine Zn ?_ | refine Zu ?_ | refine Zg ?_))
          refine c_f rfl ?_
          (repeat refine Zr ?_)
          refine s_st rfl rfl rfl rfl rfl (ag w5 k5) (Nat.le_of_ble_eq_true rfl) (fun w11 s11 => ?_)
          (repeat refine Zr ?_)
          refine ret_c2 rfl (rv_ag (vs := [.int .i64 2, .int .i64 j, .int .i64 ((j + m : Nat) : Int)]) rfl rfl rfl s11.blk rfl rfl) (rv_t rfl) ⟨nxV_of (ok := true) (m := m) hj ?_ rfl rfl rfl, (kw5).trans s11.kp (fun _ _ e => by omega)⟩
          rw [hbody, if_pos ⟨h18, .inl h1m, by rw [hd2]; rfl⟩]
      · refine s_set 82 true rfl (by simp; omega) ?_
        (repeat (first | refine Zr ?_ | refine Zn ?_ | refine Zu ?_ | refine Zg ?_))
        refine s_gv rfl (r_ix rfl rfl rfl (by omega) (by omega)) ?_
        (repeat (first | refine Zr ?_ | refine Zn ?_ | refine Zu ?_ | refine Zg ?_))
        by_cases h48 : bt s j = 48
        · refine s_set 89 true rfl (by simp [h48]) ?_
          (repeat (first | refine Zr ?_ | refine Zn ?_ | refine Zu ?_ | refine Zg ?_))
          refine c_t rfl ?_
          (repeat refine Zr ?_)
          refine s_st rfl rfl rfl rfl rfl (ag w5 k5) (Nat.le_of_ble_eq_true rfl) (fun w11 s11 => ?_)
          (repeat refine Zr ?_)
          refine ret_c2 rfl (rv_ag (vs := [.int .i64 0, .int .i64 j, .int .i64 j]) rfl rfl rfl s11.blk rfl rfl) (rv_t rfl) ⟨nxV_of (ok := false) (m := 0) hj ?_ rfl rfl (by simp), (kw5).trans s11.kp (fun _ _ e => by omega)⟩
          rw [hbody, if_neg (by rintro ⟨h1, h2, h3⟩; rcases h2 with h2 | h2 <;> omega)]
        · refine s_set 89 false rfl (by simp [h48]) ?_
          (repeat (first | refine Zr ?_ | refine Zn ?_ | refine Zu ?_ | refine Zg ?_))
          by_cases hlt2 : j + m < s.size
          · refine s_set 94 true rfl (by simp; omega) ?_
            have hd2 := drop_at s (j + m) hlt2
            (repeat (first | refine Zr ?_ | refine Zn ?_ | refine Zu ?_ | refine Zg ?_))
            refine s_gv rfl (r_ix rfl rfl rfl (by omega) (by omega)) ?_
            refine s_gcall (us := []) (zs := []) rfl (by kernel_rfl) rfl rfl (rletter (bt s ((j + m : Nat) : Int)) w5) ?_
            rintro _ w6 ⟨rfl, rfl⟩
            (repeat (first | refine Zr ?_ | refine Zn ?_ | refine Zu ?_ | refine Zg ?_))
            refine c_b rfl (fun hlt3 => ?_) (fun hlt3 => ?_)
            · (repeat refine Zr ?_)
              refine s_st rfl rfl rfl rfl rfl (ag w6 k5) (Nat.le_of_ble_eq_true rfl) (fun w11 s11 => ?_)
              (repeat refine Zr ?_)
              refine ret_c2 rfl (rv_ag (vs := [.int .i64 0, .int .i64 j, .int .i64 j]) rfl rfl rfl s11.blk rfl rfl) (rv_t rfl) ⟨nxV_of (ok := false) (m := 0) hj ?_ rfl rfl (by simp), (kw5).trans s11.kp (fun _ _ e => by omega)⟩
              rw [hbody, if_neg (by rintro ⟨h1, h2, h3⟩; rw [hd2, rn, if_pos hlt3] at h3; omega)]
            · (repeat refine Zr ?_)
              refine s_st rfl rfl rfl rfl rfl (ag w6 k5) (Nat.le_of_ble_eq_true rfl) (fun w11 s11 => ?_)
              (repeat refine Zr ?_)
              refine ret_c2 rfl (rv_ag (vs := [.int .i64 2, .int .i64 j, .int .i64 ((j + m : Nat) : Int)]) rfl rfl rfl s11.blk rfl rfl) (rv_t rfl) ⟨nxV_of (ok := true) (m := m) hj ?_ rfl rfl rfl, (kw5).trans s11.kp (fun _ _ e => by omega)⟩
              rw [hbody, if_pos ⟨h18, .inr h48, by rw [hd2, rn, if_neg (by rw [hlt3]; exact Bool.false_ne_true)]⟩]
          · refine s_set 94 false rfl (by simp; omega) ?_
            have hd2 := drop_end s (j + m) (by omega)
            (repeat (first | refine Zr ?_ | refine Zn ?_ | refine Zu ?_ | refine Zg ?_))
            refine c_f rfl ?_
            (repeat refine Zr ?_)
            refine s_st rfl rfl rfl rfl rfl (ag w5 k5) (Nat.le_of_ble_eq_true rfl) (fun w11 s11 => ?_)
            (repeat refine Zr ?_)
            refine ret_c2 rfl (rv_ag (vs := [.int .i64 2, .int .i64 j, .int .i64 ((j + m : Nat) : Int)]) rfl rfl rfl s11.blk rfl rfl) (rv_t rfl) ⟨nxV_of (ok := true) (m := m) hj ?_ rfl rfl rfl, (kw5).trans s11.kp (fun _ _ e => by omega)⟩
            rw [hbody, if_pos ⟨h18, .inr h48, by rw [hd2]; rfl⟩]
    · refine s_set 77 true rfl (by simp; omega) ?_
      (repeat (first | refine Zr ?_ | refine Zn ?_ | refine Zu ?_ | refine Zg ?_))
      refine c_t rfl ?_
      (repeat refine Zr ?_)
      refine s_st rfl rfl rfl rfl rfl (ag w5 k5) (Nat.le_of_ble_eq_true rfl) (fun w11 s11 => ?_)
      (repeat refine Zr ?_)
      refine ret_c2 rfl (rv_ag (vs := [.int .i64 0, .int .i64 j, .int .i64 j]) rfl rfl rfl s11.blk rfl rfl) (rv_t rfl) ⟨nxV_of (ok := false) (m := 0) hj ?_ rfl rfl (by simp), (kw5).trans s11.kp (fun _ _ e => by omega)⟩
      rw [hbody, if_neg (by rintro ⟨h1, h2, h3⟩; omega)]
  · have hg' : ¬ digi (bt s j) = true := by rw [hg]; exact Bool.false_ne_true
    obtain ⟨m, hm⟩ : ∃ m, sg ((B s).drop j) = m := ⟨_, rfl⟩
    have hbody : body ((B s).drop j) = if m = 0 then (false, 0, 0) else (true, 4, m) := by
      rw [← hm, hd, body, if_neg hl', if_neg hg']
    have hx2 : B (s.extract j (j + 2)) = ((B s).drop j).take 2 := by rw [B_extract, List.drop_take]; congr 1; omega
    have hx1 : B (s.extract j (j + 1)) = ((B s).drop j).take 1 := by rw [B_extract, List.drop_take]; congr 1; omega
    (repeat refine Zr ?_)
    refine s_bs (cs := sc pairsB) (e := 9) (by kernel_rfl) (fun b7 w7 n7 => ?_)
    (repeat refine Zr ?_)
    refine s_bs (cs := sc onesB) (e := 9) (by kernel_rfl) (fun b8 w8 n8 => ?_)
    have hp8 : Rd w8 (some ⟨b7, 0, none⟩) pairsB := .inr ⟨b7, 0, rfl, fun j s hj => n8.kp.cell0 (blk_cells n7.blk j _ (sc_get hj))⟩
    have ho8 : Rd w8 (some ⟨b8, 0, none⟩) onesB := .inr ⟨b8, 0, rfl, fun j s hj => blk_cells n8.blk j _ (sc_get hj)⟩
    have k8 : Kp No w6 w8 := n7.kp.no n8.kp
    have kw8 := kw2.no k8
    refine s_v (r_as rfl) ?_
    refine k_nil ?_
    refine k_n ?_
    refine k_cut (σ := Unit) (fun _ => [(0, .string s), (1, .int .i64 j), (4, .pointer (some ⟨b4, 0, none⟩)), (6, .int .i64 ((j + m : Nat) : Int))]) (fun _ w' => w' = w8) ?_ ?_
    · (repeat refine Zr ?_)
      by_cases h2 : j + 2 ≤ s.size
      · refine s_set 116 true rfl (by simp; omega) ?_
        (repeat (first | refine Zr ?_ | refine Zn ?_ | refine Zu ?_ | refine Zg ?_))
        refine s_gv rfl (r_ss rfl rfl rfl rfl (by omega) (by omega) (by omega)) ?_
        refine s_gcall (us := []) (zs := []) rfl (by kernel_rfl) rfl rfl (rhas pairsB (some ⟨b7, 0, none⟩) 6 (s.extract j (j + 2)) w8 hp8 (by decide +kernel)) ?_
        rintro _ w9 ⟨rfl, rfl⟩
        rw [B_pairs, hx2, two_eq _ (by rw [List.length_drop, B_len]; omega)]
        (repeat (first | refine Zr ?_ | refine Zn ?_ | refine Zu ?_ | refine Zg ?_))
        refine c_b rfl (fun hy => ?_) (fun hn => ?_)
        · have hm2 : m = 2 := by rw [← hm, sg_2 hy]
          (repeat refine Zr ?_)
          refine l_cut () ⟨rfl, rfl, rfl, ?_, trivial⟩ rfl
          rw [hm2]; rfl
        · (repeat refine Zr ?_)
          refine s_v (r_ss rfl rfl rfl rfl (by omega) (by omega) (by omega)) ?_
          refine s_call (us := []) (zs := []) (by kernel_rfl) rfl rfl (rhas onesB (some ⟨b8, 0, none⟩) 17 (s.extract j (j + 1)) w9 ho8 (by decide +kernel)) ?_
          rintro _ w10 ⟨rfl, rfl⟩
          rw [B_ones, hx1, hd, one_eq]
          rw [hd] at hn
          (repeat refine Zr ?_)
          refine c_b rfl (fun h1 => ?_) (fun h1 => ?_)
          · have hm2 : m = 1 := by rw [← hm, hd, sg_1 hn h1]
            (repeat refine Zr ?_)
            refine l_cut () ⟨rfl, rfl, rfl, ?_, trivial⟩ rfl
            rw [hm2]; rfl
          · have hm2 : m = 0 := by rw [← hm, hd, sg_0 hn h1]
            (repeat refine Zr ?_)
            refine l_cut () ⟨rfl, rfl, rfl, ?_, trivial⟩ rfl
            rw [hm2]; rfl
      · have hn := two_no ((B s).drop j) (by rw [List.length_drop, B_len]; omega)
        refine s_set 116 false rfl (by simp; omega) ?_
        (repeat (first | refine Zr ?_ | refine Zn ?_ | refine Zu ?_ | refine Zg ?_))
        refine c_f rfl ?_
        (repeat refine Zr ?_)
        refine s_v (r_ss rfl rfl rfl rfl (by omega) (by omega) (by omega)) ?_
        refine s_call (us := []) (zs := []) (by kernel_rfl) rfl rfl (rhas onesB (some ⟨b8, 0, none⟩) 17 (s.extract j (j + 1)) w8 ho8 (by decide +kernel)) ?_
        rintro _ w10 ⟨rfl, rfl⟩
        rw [B_ones, hx1, hd, one_eq]
        rw [hd] at hn
        (repeat refine Zr ?_)
        refine c_b rfl (fun h1 => ?_) (fun h1 => ?_)
        · have hm2 : m = 1 := by rw [← hm, hd, sg_1 hn h1]
          (repeat refine Zr ?_)
          refine l_cut () ⟨rfl, rfl, rfl, ?_, trivial⟩ rfl
          rw [hm2]; rfl
        · have hm2 : m = 0 := by rw [← hm, hd, sg_0 hn h1]
          (repeat refine Zr ?_)
          refine l_cut () ⟨rfl, rfl, rfl, ?_, trivial⟩ rfl
          rw [hm2]; rfl
    rintro _ l w9 rfl
    (repeat refine Zr ?_)
    refine c_eq rfl (fun h0 => ?_) (fun h0 => ?_)
    · (repeat refine Zr ?_)
      refine s_st rfl rfl rfl rfl rfl (ag w9 k8) (Nat.le_of_ble_eq_true rfl) (fun w11 s11 => ?_)
      (repeat refine Zr ?_)
      refine ret_c2 rfl (rv_ag (vs := [.int .i64 0, .int .i64 j, .int .i64 j]) rfl rfl rfl s11.blk rfl rfl) (rv_t rfl) ⟨nxV_of (ok := false) (m := 0) hj ?_ rfl rfl (by simp), kw8.trans s11.kp (fun _ _ e => by omega)⟩
      rw [hbody, if_pos (by omega)]
    · (repeat refine Zr ?_)
      refine s_st rfl rfl rfl rfl rfl (ag w9 k8) (Nat.le_of_ble_eq_true rfl) (fun w11 s11 => ?_)
      (repeat refine Zr ?_)
      refine ret_c2 rfl (rv_ag (vs := [.int .i64 4, .int .i64 j, .int .i64 ((j + m : Nat) : Int)]) rfl rfl rfl s11.blk rfl rfl) (rv_t rfl) ⟨nxV_of (ok := true) (m := m) hj ?_ rfl rfl rfl, kw8.trans s11.kp (fun _ _ e => by omega)⟩
      rw [hbody, if_neg (by omega)]
end Tk
end Go.Proofs.YtfnbgbeinmekgaaGreatDoor
namespace Go.Proofs.YtfnbgbeinmekgaaGreatDoor
open Go Go.RowKit Fw
set_option linter.unusedVariables false
set_option maxRecDepth 20000
namespace Tk
set_option maxHeartbeats 1000000 in
theorem rAll (s : ByteArray) (w : World) (hs : s.size ≤ 1000000) :
    Ret Tryz.prog 30 [.string s] w fun v w1 => ∃ u, v = .tuple #[u, .int .i64 (allT (B s)).2.1, .int .i64 (allT (B s)).2.2] ∧ w1.ownsRow w.heap.size 64 3 u (allT (B s)).1.length (tc (allT (B s)).1) ∧ Kp No w w1 := by
  have hlen := B_len s
  refine ret_enter Tryz.func30 rfl Tryz.ntmps30 rfl ?_
  (repeat refine Zr ?_)
  refine c_dec rfl (fun hbig => ?_) (fun hsm => ?_)
  · have hall : allT (B s) = ([], 0, 1) := by rw [allT, if_pos (by omega)]
    (repeat refine Zr ?_)
    refine ret_3 rfl rfl rfl rfl ⟨.slice none 0 0, by rw [hall], ?_, Kp.refl _ _⟩
    rw [hall]
    exact ⟨by simp [tc], .inl ⟨rfl, rfl⟩⟩
  · obtain ⟨R, hR⟩ : ∃ R, als (s.size + 1) 0 (B s) = R := ⟨_, rfl⟩
    (repeat refine Zr ?_)
    refine k_loop (σ := Nat × Value × List T3 × Nat) (fun t => [(0, .string s), (5, t.2.1), (6, .int .i64 t.1)])
      (fun t w' => t.1 ≤ s.size ∧ t.2.2.2 = s.size - t.1 + 1 ∧ w'.ownsRow w.heap.size 64 3 t.2.1 t.2.2.1.length (tc t.2.2.1) ∧ t.2.2.1.length ≤ t.1 ∧ Kp No w w' ∧
        (∃ f', s.size - t.1 + 1 ≤ f' ∧ R = (t.2.2.1 ++ (als f' t.1 ((B s).drop t.1)).1, (als f' t.1 ((B s).drop t.1)).2))) (fun t => s.size - t.1 + 1) (0, .slice none 0 0, [], s.size + 1) ⟨rfl, rfl, rfl, trivial⟩
      ⟨Nat.zero_le _, by simp, ⟨by simp [tc], .inl ⟨rfl, rfl⟩⟩, by simp, Kp.refl _ _, s.size + 1, by simp, by simp [hR]⟩ ?_
    rintro ⟨a, v, ts, fu⟩ l w1 ⟨ha, hfu, hown, htl, k1, f', hf', hals⟩
    simp only at ha hfu hown htl k1 hf' hals
    dsimp only
    have hnl := nx_le ((B s).drop a)
    rw [List.length_drop, B_len] at hnl
    obtain ⟨g, rfl⟩ : ∃ g, f' = g + 1 := ⟨f' - 1, by omega⟩
    obtain ⟨ok, k, n, m, hnx⟩ : ∃ ok k n m, nx ((B s).drop a) = ⟨ok, k, n, m⟩ := ⟨_, _, _, _, rfl⟩
    have hpos : ok = true → k ≠ 0 → 0 < m := fun h hk => by have := nx_pos (L := (B s).drop a) (by rw [hnx]; exact h) (by rw [hnx]; exact hk); rw [hnx] at this; exact this
    rw [hnx] at hnl
    simp only at hnl
    rw [als, hnx] at hals
    simp only at hals
    obtain ⟨av, cv, rfl, _, _, _⟩ := own_read hown
    (repeat refine Zr ?_)
    refine s_call (us := []) (zs := []) (by kernel_rfl) rfl rfl (rNext s a w1 hs ha) ?_
    rintro _ w2 ⟨rfl, k2⟩
    rw [nxV, tokV, hnx]
    (repeat refine Zr ?_)
    refine s_al rfl (fun b7 w3 n3 => ?_)
    refine s_st rfl rfl rfl rfl rfl n3.blk (Nat.le_of_ble_eq_true rfl) (fun w4 s4 => ?_)
    have y3 := n3.ge
    have z2 := k2.size
    have z3 := n3.kp.size
    have z4 := s4.sz
    have z1 := k1.size
    have hb7 := s4.blk
    have k4 : Kp No w1 w4 := (k2.no n3.kp).trans s4.kp (fun _ _ e => by omega)
    have kw4 := k1.no k4
    have own4 := own_kp hown k4 (fun _ _ => id)
    (repeat refine Zr ?_)
    cases ok with
    | false =>
      refine k_re 19 (v' := .bool true) rfl rfl ?_
      refine c_t rfl ?_
      have hall : allT (B s) = ([], ((a + n : Nat) : Int), 2) := by
        rw [allT, if_neg (by omega), hlen, hR, hals]; rfl
      (repeat refine Zr ?_)
      refine k_q (by kernel_rfl) (by kernel_rfl) ?_
      refine q_v (fun w' hw => r_fa rfl rfl) ?_
      refine q_v (fun w' hw => r_fa rfl rfl) ?_
      refine q_v (fun w' hw => r_ld rfl rfl (cell_of_blk (hw.get0 hb7) (by rfl))) ?_
      refine q_v (fun w' hw => r_mv rfl) ?_
      refine q_v (fun w' hw => r_as rfl) ?_
      refine q_v (fun w' hw => r_as rfl) ?_
      refine q_v (fun w' hw => r_as rfl) ?_
      refine q_nil (fun w5 k5 => ?_)
      (repeat refine Zr ?_)
      refine ret_3 rfl rfl rfl rfl ⟨.slice none 0 0, by rw [hall]; rfl, ?_, kw4.no k5⟩
      rw [hall]
      exact ⟨by simp [tc], .inl ⟨rfl, rfl⟩⟩
    | true =>
      refine k_re 19 (v' := .bool false) rfl rfl ?_
      refine c_f rfl ?_
      (repeat refine Zr ?_)
      refine s_v (r_ldb (vs := [.int .i64 k, .int .i64 ((a + n : Nat) : Int), .int .i64 ((a + n + m : Nat) : Int)]) rfl rfl rfl hb7 rfl rfl) ?_
      refine s_bs (cs := [.int .i64 k, .int .i64 ((a + n : Nat) : Int), .int .i64 ((a + n + m : Nat) : Int)]) rfl (fun b8 w5 n5 => ?_)
      have own5 := own_kp own4 n5.kp (fun _ _ => id)
      have z5 := n5.kp.size
      refine s_app (size := 3) (bytes := 24) (base := w.heap.size) (news := [.int .i64 k, .int .i64 ((a + n : Nat) : Int), .int .i64 ((a + n + m : Nat) : Int)]) rfl rfl rfl rfl rfl rfl rfl rfl own5 rfl (blk_cells n5.blk) rfl rfl (by omega) (by omega) (by omega) ?_
      intro v6 w6 a6
      have hbs : ∀ g, (Value.slice av ts.length cv).ownBlock = some g → w.heap.size ≤ g ∧ g < w1.heap.size := fun g e => own_lt hown e
      have hb7' := a6.kp.get (n5.kp.get0 hb7) (fun e => by have := hbs b7 e.symm; omega)
      have k6 : Kp No w w6 := (kw4.no n5.kp).trans a6.kp (fun i hi e => by have := hbs i e.symm; omega)
      have own6 : w6.ownsRow w.heap.size 64 3 v6 (ts ++ [(k, ((a + n : Nat) : Int), ((a + n + m : Nat) : Int))]).length (tc (ts ++ [(k, ((a + n : Nat) : Int), ((a + n + m : Nat) : Int))])) := by
        have := a6.own
        have e1 : tc (ts ++ [(k, ((a + n : Nat) : Int), ((a + n + m : Nat) : Int))]) = tc ts ++ [.int .i64 k, .int .i64 ((a + n : Nat) : Int), .int .i64 ((a + n + m : Nat) : Int)] := by simp [tc]
        rw [e1, List.length_append, List.length_singleton]
        exact this
      obtain ⟨a6', c6, rfl, _, _, _⟩ := own_read a6.own
      (repeat refine Zr ?_)
      refine c_eq rfl (fun hk => ?_) (fun hk => ?_)
      · subst hk
        have hall : allT (B s) = (ts ++ [(0, ((a + n : Nat) : Int), ((a + n + m : Nat) : Int))], 0, 0) := by
          rw [allT, if_neg (by omega), hlen, hR, hals]; rfl
        (repeat refine Zr ?_)
        refine ret_3 rfl rfl rfl rfl ⟨.slice a6' (ts.length + 1) c6, by rw [hall], ?_, k6⟩
        rw [hall]
        exact own6
      · have hm := hpos rfl hk
        (repeat refine Zr ?_)
        refine l_next (a + n + m, .slice a6' (ts.length + 1) c6, ts ++ [(k, ((a + n : Nat) : Int), ((a + n + m : Nat) : Int))], s.size - (a + n + m) + 1) ⟨rfl, rfl, rfl, trivial⟩
          ⟨by show a + n + m ≤ s.size; omega, rfl, own6, by simp only [List.length_append, List.length_singleton]; omega, k6, g, by show s.size - (a + n + m) + 1 ≤ g; omega, ?_⟩ (by show s.size - (a + n + m) + 1 < s.size - a + 1; omega)
        show R = (ts ++ [(k, ((a + n : Nat) : Int), ((a + n + m : Nat) : Int))] ++ (als g (a + n + m) ((B s).drop (a + n + m))).1, (als g (a + n + m) ((B s).drop (a + n + m))).2)
        rw [hals]
        simp only [if_true, if_neg hk, List.drop_drop]
        rw [show a + (n + m) = a + n + m from by omega]
        simp
end Tk
end Go.Proofs.YtfnbgbeinmekgaaGreatDoor
namespace Go.Proofs.YtfnbgbeinmekgaaGreatDoor.Fw
open Go Go.RowKit
section
variable {P : Program} {ρ : Operand → Value} {w : World} {dst : Option Nat} {ty : TypeId} {pos : String} {af : Array Edge} {g : Option (Nat × Bool)} {v : Value}
/-- A whole box is read. -/
theorem r_ldw {t : TypeId} {x : Operand} {b : Nat} {cs : List Value} {T : TypeId} {fz : Nat × Nat} (hx : ρ x = .pointer (some ⟨b, 0, none⟩)) (hb : w.heap[b]? = some (.cells cs.toArray T fz)) (ht : aggT P t = some true) (hn : szT P t = some cs.length) :
    Rn P ρ ⟨dst, .load t x, ty, pos, af, g⟩ w (.ok (.value (.agg cs.toArray)) w) := r_ldb (vs := cs) hx ht hn hb (by rw [List.drop_zero, List.take_length]) rfl
end
section
variable {P : Program} {w : World} {ops : Array Oper} {os rest : List Oper} {q : Pst P} {n : Nat} {l : Slots} {ds : List Deferred} {d : Nat} {ty : TypeId} {pos : String} {af : Array Edge}
theorem Zl {t : TypeId} {x : Operand} {b : Nat} {cs : List Value} {T : TypeId} {fz : Nat × Nat} (h : Wl P ops q rest n ((d, .agg cs.toArray) :: l) ds w) (hx : ev n l x = .pointer (some ⟨b, 0, none⟩) := by rfl) (hb : w.heap[b]? = some (.cells cs.toArray T fz) := by assumption) (ht : aggT P t = some true := by rfl) (hn : szT P t = some cs.length := by rfl) :
    Wl P ops q (⟨some d, .load t x, ty, pos, af, none⟩ :: rest) n l ds w := s_v (r_ldw hx hb ht hn) h
theorem Zgl {t : TypeId} {x : Operand} {b j : Nat} {bo : Bool} {cs : List Value} {T : TypeId} {fz : Nat × Nat} (h : Wl P os.toArray q rest n ((d, .agg cs.toArray) :: l) ds w) (hy : ylk os n l j = some (.bool bo) := by rfl) (hx : ev n l x = .pointer (some ⟨b, 0, none⟩) := by rfl) (hb : w.heap[b]? = some (.cells cs.toArray T fz) := by assumption) (ht : aggT P t = some true := by rfl) (hn : szT P t = some cs.length := by rfl) :
    Wl P os.toArray q (⟨some d, .load t x, ty, pos, af, some (j, bo)⟩ :: rest) n l ds w := s_gv hy (r_ldw hx hb ht hn) h
theorem setAt_all {cs vs : List Value} (h : cs.length = vs.length) : setAt cs 0 vs = vs := by
  rw [setAt_eq _ _ _ (by omega)]; simp [h]
/-- A whole box is stored into. -/
theorem s_stw {t : TypeId} {x y : Operand} {b : Nat} {cs vs : List Value} {T : TypeId} (hx : ev n l x = .pointer (some ⟨b, 0, none⟩)) (hy : mvv (ev n l y) = some (.agg vs.toArray)) (hv : cellsL (.agg vs.toArray) = vs) (hs : szT P t = some vs.length) (h1 : vs.all Value.oneCell' = true)
    (hb : w.heap[b]? = some (.cells cs.toArray T (0, 0))) (hl : cs.length = vs.length) (h : ∀ w1, Sb w b vs T w1 → Wl P ops q rest n l ds w1) :
    Wl P ops q (⟨none, .store t x y, ty, pos, af, none⟩ :: rest) n l ds w :=
  s_st hx hy hv hs h1 hb (by omega) fun w1 s => h w1 (by rw [setAt_all hl] at s; exact s)
/-- As Zr, and loads of boxes. -/
theorem Zlr {p q : Prop} (x : p) (h : p → q := by first | exact k_nil | exact k_n | exact k_r | exact k_x | exact b_n | exact b_r | exact b_y rfl | exact b_z rfl | exact l_r | exact l_x | exact k_seq | exact k_blk | exact k_reg | exact k_ret | exact k_exit | exact k_skip | exact fun h => Zs h | exact fun h => Zl h) : q := h x
end
end Go.Proofs.YtfnbgbeinmekgaaGreatDoor.Fw
namespace Go.Proofs.YtfnbgbeinmekgaaGreatDoor.Rf
open Go Go.RowKit Fw Sy
set_option linter.unusedVariables false
set_option maxRecDepth 20000
/-- A slice's parts. -/
structure Sl where
  a : Option Addr
  n : Nat
  c : Nat
abbrev Sl.v (x : Sl) : Value := .slice x.a x.n x.c
/-- A text, and where its tokens lie. -/
structure Cr where
  t : ByteArray
  g : Nat
  c : Nat
abbrev Cr.T (X : Cr) : List Tk.T3 := (Tk.allT (B X.t)).1
abbrev Cr.E (X : Cr) : Env := envOf (B X.t)
/-- A parser's state: what was taken and put, where that lies, the error, its place. -/
structure Q where
  s : PS
  x : Sl
  y : Sl
  z : Sl
  c : Int
  p : Int
  o : Nat → Prop
abbrev Q.V (q : Q) : VS := ⟨q.x.v, q.y.v, q.z.v, q.o⟩
def qc (X : Cr) (q : Q) : List Value := [.string X.t, .slice (some ⟨X.g, 0, none⟩) X.T.length X.c, .int .i64 (q.s.i : Int), .slice q.x.a q.x.n q.x.c, .slice q.y.a q.y.n q.y.c, .slice q.z.a q.z.n q.z.c, .int .i64 q.c, .int .i64 q.p]
abbrev qv (X : Cr) (q : Q) : Value := .agg (qc X q).toArray
/-- What may change. -/
def Sx (q : Q) (b : Nat) : Prop := q.c = 0 ∧ (q.x.v.ownBlock = some b ∨ q.y.v.ownBlock = some b ∨ q.z.v.ownBlock = some b)
/-- Where nothing is wrong, what was put is there. -/
structure Gd (w : World) (q : Q) : Prop where
  xs : RX w q.V q.s.ex
  ss : RS w q.V q.s.st
  fs : RF w q.V q.s.fn
  xl : q.s.ex.length ≤ q.s.i
  sl : q.s.st.length ≤ 1000
  fl : q.s.fn.length ≤ 32
  ob : ∀ b, q.o b → b < w.heap.size
structure Aq (X : Cr) (w : World) (q : Q) : Prop where
  h0 : (Tk.allT (B X.t)).2.2 = 0
  tk : w.ownsRow 0 64 3 (.slice (some ⟨X.g, 0, none⟩) X.T.length X.c) X.T.length (Tk.tc X.T)
  lt : q.s.i < X.T.length
  gd : q.c = 0 → Gd w q
structure Gs (w : World) (q : Q) (w' : World) (q' : Q) : Prop where
  kp : Kp (Sx q) w w'
  fr : ∀ b, b < w.heap.size → Sx q' b → Sx q b
  fo : ∀ b, b < w.heap.size → q'.c = 0 → q'.o b → q.c = 0 ∧ q.o b
theorem Gs.refl (w : World) (q : Q) : Gs w q w q := ⟨Kp.refl _ _, fun _ _ h => h, fun _ _ h h' => ⟨h, h'⟩⟩
theorem Gs.trans {w w1 w2 : World} {q q1 q2 : Q} (h : Gs w q w1 q1) (k : Gs w1 q1 w2 q2) : Gs w q w2 q2 :=
  ⟨h.kp.trans k.kp fun i hi hs => h.fr i hi hs, fun b hb hs => h.fr b hb (k.fr b (Nat.lt_of_lt_of_le hb h.kp.size) hs), fun b hb hc hs => by
    obtain ⟨h1, h2⟩ := k.fo b (Nat.lt_of_lt_of_le hb h.kp.size) hc hs
    exact h.fo b hb h1 h2⟩
theorem Gs.no {w w1 w2 : World} {q q1 : Q} (h : Gs w q w1 q1) (k : Kp No w1 w2) : Gs w q w2 q1 := ⟨h.kp.no k, h.fr, h.fo⟩
theorem Gs.own {w w1 w2 : World} {q q1 : Q} {b : Nat} (h : Gs w q w1 q1) (k : Kp (fun i => i = b) w1 w2) (hb : w.heap.size ≤ b) : Gs w q w2 q1 :=
  ⟨h.kp.trans k fun i hi e => (by omega), h.fr, h.fo⟩
/-- Types that the parser's own memory hasn't. -/
def okT (e : TypeId) : Bool := !(Nat.beq e 67 || Nat.beq e 42 || Nat.beq e 62)
theorem Aq.nsx {X : Cr} {w : World} {q : Q} (h : Aq X w q) {g : Nat} {cur : Array Value} {e : TypeId} {fz : Nat × Nat} (hg : w.heap[g]? = some (.cells cur e fz)) (he : okT e = true) : ¬ Sx q g := by
  simp only [okT, Bool.not_eq_true', Bool.or_eq_false_iff] at he
  obtain ⟨⟨h2, h3⟩, h4⟩ := he
  rintro ⟨hc, hs⟩
  have G := h.gd hc
  rcases hs with hs | hs | hs
  · obtain ⟨rx, _, ho, _⟩ := G.xs
    obtain ⟨c, hc⟩ := own_ty ho hs
    exact ty_ne hg hc h2 rfl
  · obtain ⟨rx, _, ho, _⟩ := G.ss
    obtain ⟨c, hc⟩ := own_ty ho hs
    exact ty_ne hg hc h3 rfl
  · obtain ⟨rx, _, ho, _⟩ := G.fs
    obtain ⟨c, hc⟩ := own_ty ho hs
    exact ty_ne hg hc h4 rfl
theorem own_gs {X : Cr} {w w' : World} {q : Q} (hA : Aq X w q) (k : Kp (Sx q) w w') {base : Nat} {e : TypeId} {size : Nat} {v : Value} {n : Nat} {cs : List Value} (h : w.ownsRow base e size v n cs) (he : okT e = true) : w'.ownsRow base e size v n cs :=
  own_kp h k fun g hg => by
    obtain ⟨c, hc⟩ := own_ty h hg
    exact hA.nsx hc he
/-- What was put is kept where nothing of it changes. -/
theorem Gd.kp {w w' : World} {q : Q} {S : Nat → Prop} (h : Gd w q) (k : Kp S w w') (h1 : ∀ b, (q.x.v.ownBlock = some b ∨ q.y.v.ownBlock = some b ∨ q.z.v.ownBlock = some b) → ¬ S b)
    (h2 : ∀ (g : Nat) (cur : Array Value) (e : TypeId) (fz : Nat × Nat), q.o g → w.heap[g]? = some (.cells cur e fz) → (e = 3 ∨ e = 9) → ¬ S g) : Gd w' q := by
  have hi : ∀ {v l}, LI w v l → Ow q.V v → LI w' v l := fun hv ho => own_kp hv k fun g hg => by
    obtain ⟨c, hc⟩ := own_ty hv hg
    exact h2 g c _ _ (ho g hg) hc (.inl rfl)
  have ht : ∀ {v l}, LS w v l → Ow q.V v → LS w' v l := fun hv ho => own_kp hv k fun g hg => by
    obtain ⟨c, hc⟩ := own_ty hv hg
    exact h2 g c _ _ (ho g hg) hc (.inr rfl)
  obtain ⟨rx, e1, o1, l1⟩ := h.xs
  obtain ⟨ry, e2, o2, l2⟩ := h.ss
  obtain ⟨rz, e3, o3, l3⟩ := h.fs
  exact ⟨⟨rx, e1, own_kp o1 k fun g hg => h1 g (.inl hg), fun r hr => ⟨hi (l1 r hr).1 (l1 r hr).2, (l1 r hr).2⟩⟩,
    ⟨ry, e2, own_kp o2 k fun g hg => h1 g (.inr (.inl hg)), fun r hr => ⟨⟨hi (l2 r hr).1.1 (l2 r hr).1.2, (l2 r hr).1.2⟩, hi (l2 r hr).2.1 (l2 r hr).2.2, (l2 r hr).2.2⟩⟩,
    ⟨rz, e3, own_kp o3 k fun g hg => h1 g (.inr (.inr hg)), fun r hr => ⟨⟨ht (l3 r hr).1.1 (l3 r hr).1.2, (l3 r hr).1.2⟩, hi (l3 r hr).2.1 (l3 r hr).2.2, (l3 r hr).2.2⟩⟩, h.xl, h.sl, h.fl, fun b hb => Nat.lt_of_lt_of_le (h.ob b hb) k.size⟩
theorem Aq.no {X : Cr} {w w' : World} {q : Q} (h : Aq X w q) (k : Kp No w w') : Aq X w' q := ⟨h.h0, own_kp h.tk k fun _ _ h => h, h.lt, fun hc => (h.gd hc).kp k (fun _ _ h => h) fun _ _ _ _ _ _ _ h => h⟩
/-- A store into a box of another kind. -/
theorem Aq.box {X : Cr} {w w' : World} {q : Q} {b : Nat} {cs : Array Value} {T : TypeId} (h : Aq X w q) (k : Kp (fun i => i = b) w w') (hb : w.heap[b]? = some (.cells cs T (0, 0))) (hs : ¬ Sx q b)
    (hT : (Nat.beq 3 T || Nat.beq 9 T || Nat.beq 64 T) = false) : Aq X w' q := by
  simp only [Bool.or_eq_false_iff] at hT
  obtain ⟨⟨h1, h2⟩, h3⟩ := hT
  refine ⟨h.h0, own_kp h.tk k fun g hg e => ?_, h.lt, fun hc => (h.gd hc).kp k (fun g hg e => hs ⟨hc, e ▸ hg⟩) fun g cur e fz _ hg he e' => ?_⟩
  · obtain ⟨c, hc⟩ := own_ty h.tk hg
    subst e
    exact ty_ne hc hb h3 rfl
  · subst e'
    rcases he with rfl | rfl
    · exact ty_ne hg hb h1 rfl
    · exact ty_ne hg hb h2 rfl
/-- The state, and what changed since the call began. -/
structure Sg (X : Cr) (w0 : World) (q0 : Q) (w : World) (q : Q) : Prop where
  at_ : Aq X w q
  gs : Gs w0 q0 w q
theorem Sg.start {X : Cr} {w : World} {q : Q} (h : Aq X w q) : Sg X w q w q := ⟨h, Gs.refl _ _⟩
theorem Sg.no {X : Cr} {w0 w w' : World} {q0 q : Q} (h : Sg X w0 q0 w q) (k : Kp No w w') : Sg X w0 q0 w' q := ⟨h.at_.no k, h.gs.no k⟩
theorem Sg.call {X : Cr} {w0 w w' : World} {q0 q q' : Q} (h : Sg X w0 q0 w q) (k : Sg X w q w' q') : Sg X w0 q0 w' q' := ⟨k.at_, h.gs.trans k.gs⟩
/-- The state, and boxes of our own. -/
structure Wb (X : Cr) (w0 : World) (q0 : Q) (w : World) (q : Q) (l : List (Nat × List Value × TypeId)) : Prop where
  sg : Sg X w0 q0 w q
  bx : ∀ (i b : Nat) (cs : List Value) (T : TypeId), l[i]? = some (b, cs, T) → w0.heap.size ≤ b ∧ w.heap[b]? = some (.cells cs.toArray T (0, 0)) ∧ ¬ Sx q b
  nd : ∀ (i j b : Nat) (cs cs' : List Value) (T T' : TypeId), l[i]? = some (b, cs, T) → l[j]? = some (b, cs', T') → i = j
section
variable {X : Cr} {w0 w w' : World} {q0 q q' : Q} {l : List (Nat × List Value × TypeId)}
theorem Wb.start (h : Aq X w q) : Wb X w q w q [] := ⟨Sg.start h, fun i b cs T h => by simp at h, fun i j b cs cs' T T' h => by simp at h⟩
theorem Wb.at_ (h : Wb X w0 q0 w q l) : Aq X w q := h.sg.at_
theorem Wb.blk (h : Wb X w0 q0 w q l) (i : Nat) {b : Nat} {cs : List Value} {T : TypeId} (hi : l[i]? = some (b, cs, T)) : w.heap[b]? = some (.cells cs.toArray T (0, 0)) := (h.bx i b cs T hi).2.1
theorem Wb.no (h : Wb X w0 q0 w q l) (k : Kp No w w') : Wb X w0 q0 w' q l := ⟨h.sg.no k, fun i b cs T hi => ⟨(h.bx i b cs T hi).1, k.get0 (h.bx i b cs T hi).2.1, (h.bx i b cs T hi).2.2⟩, h.nd⟩
theorem Sx.lt (h : Aq X w q) {b : Nat} (hs : Sx q b) : b < w.heap.size := by
  obtain ⟨hc, hs⟩ := hs
  have G := h.gd hc
  rcases hs with hs | hs | hs
  · obtain ⟨rx, _, ho, _⟩ := G.xs
    obtain ⟨c, hc⟩ := own_ty ho hs
    exact lt_of_get hc
  · obtain ⟨rx, _, ho, _⟩ := G.ss
    obtain ⟨c, hc⟩ := own_ty ho hs
    exact lt_of_get hc
  · obtain ⟨rx, _, ho, _⟩ := G.fs
    obtain ⟨c, hc⟩ := own_ty ho hs
    exact lt_of_get hc
theorem Wb.new (h : Wb X w0 q0 w q l) {b : Nat} {cs : List Value} {T : TypeId} (n : Nb w b cs T w') : Wb X w0 q0 w' q ((b, cs, T) :: l) := by
  have h' := h.no n.kp
  have hz := h.sg.gs.kp.size
  have old : ∀ {i b' : Nat} {cs' : List Value} {T' : TypeId}, l[i]? = some (b', cs', T') → b' ≠ b := fun hi e => by
    have := lt_of_get (h.bx _ _ _ _ hi).2.1
    have := n.ge
    omega
  refine ⟨h'.sg, fun i b' cs' T' hi => ?_, fun i j b' cs1 cs2 T1 T2 hi hj => ?_⟩
  · cases i with
    | zero =>
      simp at hi
      obtain ⟨rfl, rfl, rfl⟩ := hi
      exact ⟨Nat.le_trans hz n.ge, n.blk, fun hs => by have := Sx.lt h.at_ hs; have := n.ge; omega⟩
    | succ i => exact h'.bx i b' cs' T' (by simpa using hi)
  · cases i with
    | zero =>
      cases j with
      | zero => rfl
      | succ j =>
        simp at hi hj
        exact (old hj hi.1.symm).elim
    | succ i =>
      cases j with
      | zero => simp at hi hj; exact (old hi hj.1.symm).elim
      | succ j => rw [h.nd i j b' cs1 cs2 T1 T2 (by simpa using hi) (by simpa using hj)]
/-- A call that goes on with the state. -/
theorem Wb.call (h : Wb X w0 q0 w q l) (k : Sg X w q w' q') : Wb X w0 q0 w' q' l :=
  ⟨h.sg.call k, fun i b cs T hi => ⟨(h.bx i b cs T hi).1, k.gs.kp.get (h.bx i b cs T hi).2.1 (h.bx i b cs T hi).2.2, fun hs => (h.bx i b cs T hi).2.2 (k.gs.fr b (lt_of_get (h.bx i b cs T hi).2.1) hs)⟩, h.nd⟩
/-- A store into a box. -/
theorem Wb.put (h : Wb X w0 q0 w q l) (i : Nat) {b : Nat} {cs cs' : List Value} {T : TypeId} (hi : l[i]? = some (b, cs, T)) (k : Sb w b cs' T w') (hT : (Nat.beq 3 T || Nat.beq 9 T || Nat.beq 64 T) = false) : Wb X w0 q0 w' q (l.set i (b, cs', T)) := by
  obtain ⟨h1, h2, h3⟩ := h.bx i b cs T hi
  have hl : i < l.length := by
    rcases Nat.lt_or_ge i l.length with h | h
    · exact h
    · rw [List.getElem?_eq_none h] at hi; cases hi
  have at' : ∀ {j b' cs1 T1}, (l.set i (b, cs', T))[j]? = some (b', cs1, T1) → ∃ cs2, l[j]? = some (b', cs2, T1) := fun {j b' cs1 T1} hj => by
    rw [List.getElem?_set] at hj
    split at hj
    · rename_i e
      subst e
      cases hj
      exact ⟨cs, hi⟩
    · exact ⟨cs1, hj⟩
  refine ⟨⟨h.at_.box k.kp h2 h3 hT, h.sg.gs.own k.kp h1⟩, fun j b' cs1 T1 hj => ?_, fun j1 j2 b' cs1 cs2 T1 T2 hj1 hj2 => ?_⟩
  · rw [List.getElem?_set] at hj
    split at hj
    · cases hj
      exact ⟨h1, k.blk, h3⟩
    · rename_i hne
      obtain ⟨k1, k2, k3⟩ := h.bx j b' cs1 T1 hj
      exact ⟨k1, k.kp.get k2 fun e => hne (by subst e; exact h.nd _ _ _ _ _ _ _ hi hj), k3⟩
  · obtain ⟨_, e1⟩ := at' hj1
    obtain ⟨_, e2⟩ := at' hj2
    exact h.nd _ _ _ _ _ _ _ e1 e2
end
def stt (q : Q) : Rs Unit := if q.c = 0 then .ok () q.s else .er q.c q.p
def failQ (X : Cr) (k : Int) (q : Q) : Q := if q.c = 0 then { q with c := k, p := hr X.E q.s } else q
def isQ (X : Cr) (y : List Int) (q : Q) : Bool := decide (q.c = 0 ∧ wd X.E q.s = y)
def wantQ (X : Cr) (y : List Int) (q : Q) : Q := if q.c = 0 ∧ wd X.E q.s = y then { q with s := adv q.s } else failQ X 3 q
def kindQ (X : Cr) (k : Int) (q : Q) : Q := if q.c = 0 ∧ kd X.E q.s = k then { q with s := adv q.s } else failQ X 3 q
def kindW (X : Cr) (k : Int) (q : Q) : List Int := if q.c = 0 ∧ kd X.E q.s = k then wd X.E q.s else []
def deepQ (X : Cr) (d : Int) (q : Q) : Q := if 64 < d then failQ X 4 q else q
/-- What a state tells: it goes on, or something is wrong. -/
def Res {α : Type} (r : Rs α) (q : Q) (a : α) : Prop :=
  match r with
  | .ok x s => q.c = 0 ∧ q.s = s ∧ x = a
  | .er _ _ => q.c ≠ 0
  | .out => False
section
variable {X : Cr} {w0 w w' : World} {q0 q q' : Q} {l : List (Nat × List Value × TypeId)}
theorem failQ_c {k : Int} (hk : k ≠ 0) : (failQ X k q).c ≠ 0 := by
  unfold failQ; split
  · exact hk
  · assumption
theorem failQ_s {k : Int} : (failQ X k q).s = q.s := by unfold failQ; split <;> rfl
theorem failQ_er {k : Int} (h : q.c ≠ 0) : failQ X k q = q := if_neg h
/-- A state that fails, or goes on, changes no memory. -/
theorem Aq.to (h : Aq X w q) (hs : q'.s.i < X.T.length) (hg : q'.c = 0 → Gd w q') : Aq X w q' := ⟨h.h0, h.tk, hs, hg⟩
theorem Sg.fail (h : Aq X w q) {k : Int} (hk : k ≠ 0) : Sg X w q w (failQ X k q) :=
  ⟨h.to (by rw [failQ_s]; exact h.lt) fun hc => (failQ_c hk hc).elim, Kp.refl _ _, fun b _ hs => (failQ_c hk hs.1).elim, fun b _ hc _ => (failQ_c hk hc).elim⟩
theorem tok_lt (h : Aq X w q) (hne : wd X.E q.s ≠ [] ∨ kd X.E q.s ≠ 0) : q.s.i + 1 < X.T.length := by
  have hl := h.lt
  rcases Nat.lt_or_ge (q.s.i + 1) X.T.length with h1 | h1
  · exact h1
  · have h2 : q.s.i + 1 = X.T.length := by omega
    have ht : X.T[q.s.i]? = some X.T[q.s.i] := List.getElem?_eq_getElem hl
    have ok := tok_of h.h0
    rcases hne with hne | hne
    · refine (hne ?_).elim
      have := ok.lastw _ _ ht h2
      unfold tkw at this
      simp only [wd, envOf, List.getElem?_map, ht]
      exact this
    · refine (hne ?_).elim
      have := ok.last _ _ ht h2
      simp only [kd, envOf, ht]
      exact this
theorem Sg.adv (h : Aq X w q) (hne : wd X.E q.s ≠ [] ∨ kd X.E q.s ≠ 0) : Sg X w q w { q with s := Sy.adv q.s } :=
  ⟨h.to (tok_lt h hne) fun hc => by
    obtain ⟨h1, h2, h3, h4, h5, h6, h7⟩ := h.gd hc
    exact ⟨h1, h2, h3, Nat.le_succ_of_le h4, h5, h6, h7⟩, Kp.refl _ _, fun b _ hs => hs, fun b _ hc hs => ⟨hc, hs⟩⟩
theorem Sg.want (h : Aq X w q) {y : List Int} (hy : y ≠ []) : Sg X w q w (wantQ X y q) := by
  unfold wantQ
  split
  · rename_i e; exact Sg.adv h (.inl (by rw [e.2]; exact hy))
  · exact Sg.fail h (by decide)
theorem Sg.kind (h : Aq X w q) {k : Int} (hk : k ≠ 0) : Sg X w q w (kindQ X k q) := by
  unfold kindQ
  split
  · rename_i e; exact Sg.adv h (.inr (by rw [e.2]; exact hk))
  · exact Sg.fail h (by decide)
theorem Sg.deep (h : Aq X w q) {d : Int} : Sg X w q w (deepQ X d q) := by
  unfold deepQ
  split
  · exact Sg.fail h (by decide)
  · exact Sg.start h
theorem stt_c (h : q.c = 0) : stt q = .ok () q.s := if_pos h
theorem stt_e (h : q.c ≠ 0) : stt q = .er q.c q.p := if_neg h
theorem stt_want {y : List Int} : stt (wantQ X y q) = (stt q).bind fun _ s => Sy.want X.E y s := by
  by_cases hc : q.c = 0
  · rw [stt_c hc, bind_ok]
    unfold wantQ Sy.want
    by_cases e : wd X.E q.s = y
    · rw [if_pos ⟨hc, e⟩, if_pos e]; exact stt_c (q := { q with s := Sy.adv q.s }) hc
    · rw [if_neg (fun h => e h.2), if_neg e, failQ, if_pos hc]; rfl
  · rw [stt_e hc, bind_er, wantQ, if_neg (fun h => hc h.1), failQ_er hc, stt_e hc]
theorem stt_deep {d : Int} : stt (deepQ X d q) = (stt q).bind fun _ s => Sy.deep X.E d s := by
  by_cases hc : q.c = 0
  · rw [stt_c hc, bind_ok]
    unfold deepQ Sy.deep
    split
    · rw [failQ, if_pos hc]; rfl
    · rw [stt_c hc]
  · rw [stt_e hc, bind_er, deepQ]
    split
    · rw [failQ_er hc, stt_e hc]
    · rw [stt_e hc]
theorem Res.kind {k : Int} (hk : True) : Res ((stt q).bind fun _ s => knd X.E k s) (kindQ X k q) (kindW X k q) := by
  by_cases hc : q.c = 0
  · rw [stt_c hc, bind_ok]
    by_cases e : kd X.E q.s = k
    · have e1 : kindQ X k q = { q with s := Sy.adv q.s } := if_pos ⟨hc, e⟩
      have e2 : kindW X k q = wd X.E q.s := if_pos ⟨hc, e⟩
      have e3 : knd X.E k q.s = .ok (wd X.E q.s) (Sy.adv q.s) := if_pos e
      rw [e1, e2, e3]; exact ⟨hc, rfl, rfl⟩
    · have e1 : kindQ X k q = failQ X 3 q := if_neg fun h => e h.2
      have e3 : knd X.E k q.s = Sy.er X.E 3 q.s := if_neg e
      rw [e1, e3, failQ, if_pos hc]; show (3 : Int) ≠ 0; decide
  · rw [stt_e hc, bind_er, kindQ, if_neg (fun h => hc h.1), failQ_er hc]; exact hc
theorem Res.stt : Res (stt q) q () := by
  by_cases hc : q.c = 0
  · rw [stt_c hc]; exact ⟨hc, rfl, rfl⟩
  · rw [stt_e hc]; exact hc
theorem Res.bind {α β : Type} {r : Rs α} {g : α → PS → Rs β} {a : α} {b : β} {q1 q2 : Q} (h : Res r q1 a) (h1 : q1.c = 0 → Res (g a q1.s) q2 b) (h2 : q1.c ≠ 0 → q2.c ≠ 0) : Res (r.bind g) q2 b := by
  cases r with
  | ok x s => obtain ⟨e1, rfl, rfl⟩ := h; exact h1 e1
  | er c p => exact h2 h
  | out => exact h.elim
theorem Res.ok {α : Type} {r : Rs α} {a : α} (h : Res r q a) (hc : q.c = 0) : r = .ok a q.s := by
  cases r with
  | ok x s => obtain ⟨_, rfl, rfl⟩ := h; rfl
  | er c p => exact (h hc).elim
  | out => exact h.elim
/-- From a state on. -/
theorem Res.from {α : Type} {g : PS → Rs α} {a : α} (h1 : q.c = 0 → Res (g q.s) q' a) (h2 : q.c ≠ 0 → q'.c ≠ 0) : Res ((Rf.stt q).bind fun _ s => g s) q' a := Res.stt.bind h1 h2
end
end Go.Proofs.YtfnbgbeinmekgaaGreatDoor.Rf
namespace Go.Proofs.YtfnbgbeinmekgaaGreatDoor.Rf
open Go Go.RowKit Fw Sy
set_option linter.unusedVariables false
set_option maxRecDepth 20000
abbrev Tp : TypeId := 89
section
variable {X : Cr} {w : World} {q : Q}
theorem _root_.Go.Proofs.YtfnbgbeinmekgaaGreatDoor.Fw.Kp.from0' {S : Nat → Prop} {a b c : World} (h : Kp No a b) (k : Kp S b c) (hs : ∀ i, i < a.heap.size → ¬ S i) : Kp No a c := h.trans k fun i hi e => hs i hi e
/-- Where the tokens lie. -/
theorem Aq.tokens (h : Aq X w q) : ∀ (i : Nat) (t : Tk.T3), X.T[i]? = some t →
    w.cell? ⟨X.g, 0 + (i : Int).toNat * 3, none⟩ = some (.int .i64 t.1) ∧ w.cell? ⟨X.g, 0 + (i : Int).toNat * 3 + 1, none⟩ = some (.int .i64 t.2.1) ∧ w.cell? ⟨X.g, 0 + (i : Int).toNat * 3 + 2, none⟩ = some (.int .i64 t.2.2) := by
  obtain ⟨a, c, e, hnc, h0, hr⟩ := own_read h.tk
  cases e
  obtain ⟨g, e, _, _, hc⟩ := hr _ rfl
  cases e
  intro i t ht
  obtain ⟨h1, h2, h3⟩ := Tk.tc_get ht
  exact ⟨hc _ _ h1, hc _ _ h2, hc _ _ h3⟩
theorem Aq.tok (h : Aq X w q) : ∃ t, X.T[q.s.i]? = some t ∧ kd X.E q.s = t.1 ∧ hr X.E q.s = t.2.1 ∧ wd X.E q.s = tkw (B X.t) t := by
  have h1 := h.lt
  have ht : X.T[q.s.i]? = some X.T[q.s.i] := List.getElem?_eq_getElem h1
  refine ⟨X.T[q.s.i], ht, ?_, ?_, ?_⟩
  · simp only [kd, envOf, ht]
  · simp only [hr, envOf, ht]
  · simp only [wd, envOf, List.getElem?_map, ht]; rfl
theorem Aq.wd_rng (h : Aq X w q) : ∀ c ∈ wd X.E q.s, 0 ≤ c ∧ c < 256 := by
  obtain ⟨t, ht, e1, e2, e3⟩ := h.tok
  rw [e3]
  exact fun c hc => B_range (List.mem_of_mem_take (List.mem_of_mem_drop hc))
theorem Aq.small (h : Aq X w q) : (q.s.i : Int) + 1 ≤ 20001 := by
  have h1 : q.s.i < (Tk.allT (B X.t)).1.length := h.lt
  have hlen := (tok_of h.h0).len
  have hsz := (tok_of h.h0).size
  omega
theorem hereF (h : Aq X w q) : Ret Tryz.prog 56 [qv X q] w fun v w1 => v = .int .i64 (hr X.E q.s) ∧ Kp No w w1 := by
  obtain ⟨t, ht, e1, e2, e3⟩ := h.tok
  have hl := h.lt
  refine ret_enter Tryz.func56 rfl Tryz.ntmps56 rfl ?_
  (repeat refine Zlr ?_)
  refine s_box (cs := qc X q) rfl rfl (fun b w1 n => ?_)
  have G := (Wb.start h).new n
  have h0 := G.blk 0 rfl
  obtain ⟨c1, c2, c3⟩ := G.at_.tokens _ _ ht
  (repeat refine Zlr ?_)
  refine s_v (r_ia rfl rfl rfl rfl (by omega) (by omega)) ?_
  (repeat refine Zlr ?_)
  exact ret_1 rfl rfl ⟨by rw [e2], n.kp⟩
theorem wordF (h : Aq X w q) : Ret Tryz.prog 90 [qv X q] w fun v w1 => v = sv (wd X.E q.s) ∧ Kp No w w1 := by
  obtain ⟨t, ht, e1, e2, e3⟩ := h.tok
  have hl := h.lt
  obtain ⟨_, r1, r2, r3⟩ := (tok_of h.h0).rng _ _ ht
  have hB : (B X.t).length = X.t.size := B_len X.t
  refine ret_enter Tryz.func90 rfl Tryz.ntmps90 rfl ?_
  (repeat refine Zlr ?_)
  refine s_box (cs := qc X q) rfl rfl (fun b w1 n => ?_)
  have G := (Wb.start h).new n
  have h0 := G.blk 0 rfl
  obtain ⟨c1, c2, c3⟩ := G.at_.tokens _ _ ht
  (repeat refine Zlr ?_)
  refine s_v (r_ia rfl rfl rfl rfl (by omega) (by omega)) ?_
  (repeat refine Zlr ?_)
  refine s_v (r_lda (vs := [.int .i64 t.2.1, .int .i64 t.2.2]) rfl rfl rfl rfl (fun j hj => by
    match j, hj with
    | 0, _ => exact c2
    | 1, _ => exact c3
    | (j + 2), hj => exact absurd hj (by simp)) ) ?_
  (repeat refine Zlr ?_)
  refine s_al rfl (fun b2 w2 n2 => ?_)
  have G := G.new n2
  have h0 := G.blk 0 rfl
  have h1 := G.blk 1 rfl
  (repeat refine Zlr ?_)
  refine s_stw (vs := [.int .i64 t.2.1, .int .i64 t.2.2]) rfl rfl rfl rfl rfl h0 rfl (fun w3 s3 => ?_)
  have G := G.put 0 rfl s3 rfl
  have h0 := G.blk 0 rfl
  have h1 := G.blk 1 rfl
  (repeat refine Zlr ?_)
  refine s_v (r_ss rfl rfl rfl rfl r1 r2 (by omega)) ?_
  (repeat refine Zlr ?_)
  refine ret_1 rfl rfl ⟨?_, (n.kp.no n2.kp).from0' s3.kp fun i hi e => ?_⟩
  · rw [e3, tkw, ← B_extract, sv_B]
  · have := n2.ge; have := n.kp.size; omega
theorem rv_agw {P : Program} {w : World} {n : Nat} {l : Slots} {t : TypeId} {a : Tmp} {b : Nat} {cs : List Value} {T : TypeId} {fz : Nat × Nat} (hx : lk n l a = .pointer (some ⟨b, 0, none⟩)) (hb : w.heap[b]? = some (.cells cs.toArray T fz)) (ht : aggT P t = some true) (hn : szT P t = some cs.length) : Rv P w n l (.cell a t) (.agg cs.toArray) :=
  rv_ag hx ht hn hb (by rw [List.drop_zero, List.take_length]) rfl
theorem failF (k : Int) (h : Aq X w q) : Ret Tryz.prog 58 [qv X q, .int .i64 k] w fun v w1 => v = qv X (failQ X k q) ∧ Kp No w w1 := by
  refine ret_enter Tryz.func58 rfl Tryz.ntmps58 rfl ?_
  (repeat refine Zlr ?_)
  refine s_box (cs := qc X q) rfl rfl (fun b w1 n => ?_)
  have G := (Wb.start h).new n
  (repeat refine Zlr ?_)
  refine s_al rfl (fun b2 w2 n2 => ?_)
  have G := G.new n2
  have h0 := G.blk 0 rfl; try have h1 := G.blk 1 rfl; try have h2 := G.blk 2 rfl; try have h3 := G.blk 3 rfl; try have h4 := G.blk 4 rfl; try have h5 := G.blk 5 rfl
  have k2 := n.kp.no n2.kp
  (repeat refine Zlr ?_)
  refine c_eq rfl (fun hc => ?_) (fun hc => ?_)
  · (repeat refine Zlr ?_)
    refine s_st (vs := [.int .i64 k]) rfl rfl rfl rfl rfl h1 (Nat.le_of_ble_eq_true rfl) (fun w3 s3 => ?_)
    have s3 : Sb w2 b (qc X { q with c := k }) Tp w3 := s3
    have G := G.put 1 rfl s3 rfl
    have h0 := G.blk 0 rfl; try have h1 := G.blk 1 rfl; try have h2 := G.blk 2 rfl; try have h3 := G.blk 3 rfl; try have h4 := G.blk 4 rfl; try have h5 := G.blk 5 rfl
    have k3 := k2.from0' s3.kp fun i hi e => by have := n.ge; omega
    (repeat refine Zlr ?_)
    by_cases hk : k = 0
    · subst hk
      have e0 : ({ q with c := 0 } : Q) = q := by rw [← hc]
      refine s_call (us := []) (zs := []) (by kernel_rfl) rfl rfl (hereF (q := { q with c := 0 }) (by rw [e0]; exact G.at_)) ?_
      rintro _ w4 ⟨rfl, k4⟩
      have G := G.no k4
      have h0 := G.blk 0 rfl; try have h1 := G.blk 1 rfl; try have h2 := G.blk 2 rfl; try have h3 := G.blk 3 rfl; try have h4 := G.blk 4 rfl; try have h5 := G.blk 5 rfl
      (repeat refine Zlr ?_)
      refine s_st (vs := [.int .i64 (hr X.E q.s)]) rfl rfl rfl rfl rfl h1 (Nat.le_of_ble_eq_true rfl) (fun w5 s5 => ?_)
      have s5 : Sb w4 b (qc X (failQ X 0 q)) Tp w5 := by
        rw [failQ, if_pos hc]; exact s5
      have G := G.put 1 rfl s5 rfl
      have h0 := G.blk 0 rfl; try have h1 := G.blk 1 rfl; try have h2 := G.blk 2 rfl; try have h3 := G.blk 3 rfl; try have h4 := G.blk 4 rfl; try have h5 := G.blk 5 rfl
      have k5 := (k3.no k4).from0' s5.kp fun i hi e => by have := n.ge; omega
      (repeat refine Zlr ?_)
      refine s_stw (vs := qc X (failQ X 0 q)) rfl rfl rfl rfl rfl h0 rfl (fun w6 s6 => ?_)
      have G := G.put 0 rfl s6 rfl
      have h0 := G.blk 0 rfl; try have h1 := G.blk 1 rfl; try have h2 := G.blk 2 rfl; try have h3 := G.blk 3 rfl; try have h4 := G.blk 4 rfl; try have h5 := G.blk 5 rfl
      (repeat refine Zlr ?_)
      exact ret_c1 rfl (rv_agw rfl h0 rfl rfl) ⟨rfl, k5.from0' s6.kp fun i hi e => by have := n2.ge; have := n.kp.size; omega⟩
    · have A3 : Aq X w3 { q with c := k } := ⟨G.at_.h0, G.at_.tk, G.at_.lt, fun h => (hk h).elim⟩
      refine s_call (us := []) (zs := []) (by kernel_rfl) rfl rfl (hereF A3) ?_
      rintro _ w4 ⟨rfl, k4⟩
      have G := G.no k4
      have h0 := G.blk 0 rfl; try have h1 := G.blk 1 rfl; try have h2 := G.blk 2 rfl; try have h3 := G.blk 3 rfl; try have h4 := G.blk 4 rfl; try have h5 := G.blk 5 rfl
      (repeat refine Zlr ?_)
      refine s_st (vs := [.int .i64 (hr X.E q.s)]) rfl rfl rfl rfl rfl h1 (Nat.le_of_ble_eq_true rfl) (fun w5 s5 => ?_)
      have s5 : Sb w4 b (qc X (failQ X k q)) Tp w5 := by
        rw [failQ, if_pos hc]; exact s5
      have G := G.put 1 rfl s5 rfl
      have h0 := G.blk 0 rfl; try have h1 := G.blk 1 rfl; try have h2 := G.blk 2 rfl; try have h3 := G.blk 3 rfl; try have h4 := G.blk 4 rfl; try have h5 := G.blk 5 rfl
      have k5 := (k3.no k4).from0' s5.kp fun i hi e => by have := n.ge; omega
      (repeat refine Zlr ?_)
      refine s_stw (vs := qc X (failQ X k q)) rfl rfl rfl rfl rfl h0 rfl (fun w6 s6 => ?_)
      have G := G.put 0 rfl s6 rfl
      have h0 := G.blk 0 rfl; try have h1 := G.blk 1 rfl; try have h2 := G.blk 2 rfl; try have h3 := G.blk 3 rfl; try have h4 := G.blk 4 rfl; try have h5 := G.blk 5 rfl
      (repeat refine Zlr ?_)
      exact ret_c1 rfl (rv_agw rfl h0 rfl rfl) ⟨rfl, k5.from0' s6.kp fun i hi e => by have := n2.ge; have := n.kp.size; omega⟩
  · (repeat refine Zlr ?_)
    refine s_stw (vs := qc X q) rfl rfl rfl rfl rfl h0 rfl (fun w6 s6 => ?_)
    have G := G.put 0 rfl s6 rfl
    have h0 := G.blk 0 rfl; try have h1 := G.blk 1 rfl; try have h2 := G.blk 2 rfl; try have h3 := G.blk 3 rfl; try have h4 := G.blk 4 rfl; try have h5 := G.blk 5 rfl
    (repeat refine Zlr ?_)
    exact ret_c1 rfl (rv_agw rfl h0 rfl rfl) ⟨by rw [failQ, if_neg hc], k2.from0' s6.kp fun i hi e => by have := n2.ge; have := n.kp.size; omega⟩
theorem isF (h : Aq X w q) (y : ByteArray) (hy : B y ≠ []) : Ret Tryz.prog 57 [qv X q, .string y] w fun v w1 => v = .bool (isQ X (B y) q) ∧ Kp No w w1 := by
  obtain ⟨t, ht, e1, e2, e3⟩ := h.tok
  have hl := h.lt
  refine ret_enter Tryz.func57 rfl Tryz.ntmps57 rfl ?_
  (repeat refine Zlr ?_)
  refine s_box (cs := qc X q) rfl rfl (fun b w1 n => ?_)
  have G := (Wb.start h).new n
  have h0 := G.blk 0 rfl; try have h1 := G.blk 1 rfl; try have h2 := G.blk 2 rfl; try have h3 := G.blk 3 rfl; try have h4 := G.blk 4 rfl; try have h5 := G.blk 5 rfl
  obtain ⟨c1, c2, c3⟩ := G.at_.tokens _ _ ht
  (repeat refine Zlr ?_)
  by_cases hc : q.c = 0
  · refine s_set 8 true rfl (beq_iff_eq.2 hc) ?_
    (repeat (first | refine Zlr ?_ | refine Zn ?_ | refine Zu ?_ | refine Zg ?_ | refine Zgl ?_))
    refine s_gv rfl (r_ia rfl rfl rfl rfl (by omega) (by omega)) ?_
    (repeat (first | refine Zlr ?_ | refine Zn ?_ | refine Zu ?_ | refine Zg ?_ | refine Zgl ?_))
    by_cases hk : t.1 = 0
    · refine s_set 18 false rfl (by rw [hk]; rfl) ?_
      (repeat (first | refine Zlr ?_ | refine Zn ?_ | refine Zu ?_ | refine Zg ?_ | refine Zgl ?_))
      refine ret_1 rfl rfl ⟨?_, n.kp⟩
      rw [isQ, decide_eq_false]
      rintro ⟨_, e⟩
      have hlast : wd X.E q.s = [] := by
        have ok := tok_of h.h0
        rw [e3]; exact ok.lastw _ _ ht (ok.k0 _ _ ht hk)
      exact hy (by rw [← e, hlast])
    · refine s_set 18 true rfl (bne_iff_ne.2 hk) ?_
      (repeat (first | refine Zlr ?_ | refine Zn ?_ | refine Zu ?_ | refine Zg ?_ | refine Zgl ?_))
      refine s_gcall (us := []) (zs := []) rfl (by kernel_rfl) rfl rfl (wordF G.at_) ?_
      rintro _ w2 ⟨rfl, k2⟩
      (repeat (first | refine Zlr ?_ | refine Zn ?_ | refine Zu ?_ | refine Zg ?_ | refine Zgl ?_))
      refine ret_1 rfl rfl ⟨?_, n.kp.no k2⟩
      rw [str_eq, B_nums h.wd_rng, isQ]
      simp only [hc, true_and]
  · refine s_set 8 false rfl (beq_eq_false_iff_ne.2 hc) ?_
    (repeat (first | refine Zlr ?_ | refine Zn ?_ | refine Zu ?_ | refine Zg ?_ | refine Zgl ?_))
    refine ret_1 rfl rfl ⟨?_, n.kp⟩
    rw [isQ, decide_eq_false (fun h => hc h.1)]
theorem wantF (h : Aq X w q) (y : ByteArray) (hy : B y ≠ []) : Ret Tryz.prog 60 [qv X q, .string y] w fun v w1 => v = qv X (wantQ X (B y) q) ∧ Kp No w w1 := by
  have hl := h.lt
  have hsm := h.small
  refine ret_enter Tryz.func60 rfl Tryz.ntmps60 rfl ?_
  (repeat refine Zlr ?_)
  refine s_box (cs := qc X q) rfl rfl (fun b w1 n => ?_)
  have G := (Wb.start h).new n
  (repeat refine Zlr ?_)
  refine s_al rfl (fun b2 w2 n2 => ?_)
  have G := G.new n2
  have h0 := G.blk 0 rfl; try have h1 := G.blk 1 rfl; try have h2 := G.blk 2 rfl; try have h3 := G.blk 3 rfl; try have h4 := G.blk 4 rfl; try have h5 := G.blk 5 rfl
  have k2 := n.kp.no n2.kp
  (repeat refine Zlr ?_)
  refine s_call (us := []) (zs := []) (by kernel_rfl) rfl rfl (isF G.at_ y hy) ?_
  rintro _ w3 ⟨rfl, k3⟩
  have G := G.no k3
  have h0 := G.blk 0 rfl; try have h1 := G.blk 1 rfl; try have h2 := G.blk 2 rfl; try have h3 := G.blk 3 rfl; try have h4 := G.blk 4 rfl; try have h5 := G.blk 5 rfl
  have k3 := k2.no k3
  (repeat refine Zlr ?_)
  by_cases hq : q.c = 0 ∧ wd X.E q.s = B y
  · have e : isQ X (B y) q = true := decide_eq_true hq
    refine c_f (by show Value.bool (!isQ X (B y) q) = _; rw [e]; rfl) ?_
    (repeat refine Zlr ?_)
    refine s_st (vs := [.int .i64 ((q.s.i : Int) + 1)]) rfl rfl rfl rfl rfl h1 (Nat.le_of_ble_eq_true rfl) (fun w5 s5 => ?_)
    have s5 : Sb w3 b (qc X (wantQ X (B y) q)) Tp w5 := by
      rw [wantQ, if_pos hq]; exact s5
    have G := G.put 1 rfl s5 rfl
    have h0 := G.blk 0 rfl; try have h1 := G.blk 1 rfl; try have h2 := G.blk 2 rfl; try have h3 := G.blk 3 rfl; try have h4 := G.blk 4 rfl; try have h5 := G.blk 5 rfl
    have k5 := k3.from0' s5.kp fun i hi e => by have := n.ge; omega
    (repeat refine Zlr ?_)
    refine s_stw (vs := qc X (wantQ X (B y) q)) rfl rfl rfl rfl rfl h0 rfl (fun w6 s6 => ?_)
    have G := G.put 0 rfl s6 rfl
    have h0 := G.blk 0 rfl; try have h1 := G.blk 1 rfl; try have h2 := G.blk 2 rfl; try have h3 := G.blk 3 rfl; try have h4 := G.blk 4 rfl; try have h5 := G.blk 5 rfl
    (repeat refine Zlr ?_)
    exact ret_c1 rfl (rv_agw rfl h0 rfl rfl) ⟨rfl, k5.from0' s6.kp fun i hi e => by have := n2.ge; have := n.kp.size; omega⟩
  · have e : isQ X (B y) q = false := decide_eq_false hq
    refine c_t (by show Value.bool (!isQ X (B y) q) = _; rw [e]; rfl) ?_
    (repeat refine Zlr ?_)
    refine s_call (us := []) (zs := []) (by kernel_rfl) rfl rfl (failF 3 G.at_) ?_
    rintro _ w4 ⟨rfl, k4⟩
    have G := G.no k4
    have h0 := G.blk 0 rfl; try have h1 := G.blk 1 rfl; try have h2 := G.blk 2 rfl; try have h3 := G.blk 3 rfl; try have h4 := G.blk 4 rfl; try have h5 := G.blk 5 rfl
    have k4 := k3.no k4
    (repeat refine Zlr ?_)
    refine s_stw (vs := qc X (failQ X 3 q)) rfl rfl rfl rfl rfl h0 rfl (fun w6 s6 => ?_)
    have G := G.put 0 rfl s6 rfl
    have h0 := G.blk 0 rfl; try have h1 := G.blk 1 rfl; try have h2 := G.blk 2 rfl; try have h3 := G.blk 3 rfl; try have h4 := G.blk 4 rfl; try have h5 := G.blk 5 rfl
    (repeat refine Zlr ?_)
    exact ret_c1 rfl (rv_agw rfl h0 rfl rfl) ⟨by rw [wantQ, if_neg hq], k4.from0' s6.kp fun i hi e => by have := n2.ge; have := n.kp.size; omega⟩
theorem deepF (h : Aq X w q) (d : Int) : Ret Tryz.prog 91 [qv X q, .int .i64 d] w fun v w1 => v = qv X (deepQ X d q) ∧ Kp No w w1 := by
  refine ret_enter Tryz.func91 rfl Tryz.ntmps91 rfl ?_
  (repeat refine Zlr ?_)
  refine s_box (cs := qc X q) rfl rfl (fun b w1 n => ?_)
  have G := (Wb.start h).new n
  (repeat refine Zlr ?_)
  refine s_al rfl (fun b2 w2 n2 => ?_)
  have G := G.new n2
  have h0 := G.blk 0 rfl; try have h1 := G.blk 1 rfl; try have h2 := G.blk 2 rfl; try have h3 := G.blk 3 rfl; try have h4 := G.blk 4 rfl; try have h5 := G.blk 5 rfl
  have k2 := n.kp.no n2.kp
  (repeat refine Zlr ?_)
  refine c_dec rfl (fun hd => ?_) (fun hd => ?_)
  · (repeat refine Zlr ?_)
    refine s_call (us := []) (zs := []) (by kernel_rfl) rfl rfl (failF 4 G.at_) ?_
    rintro _ w4 ⟨rfl, k4⟩
    have G := G.no k4
    have h0 := G.blk 0 rfl; try have h1 := G.blk 1 rfl; try have h2 := G.blk 2 rfl; try have h3 := G.blk 3 rfl; try have h4 := G.blk 4 rfl; try have h5 := G.blk 5 rfl
    have k4 := k2.no k4
    (repeat refine Zlr ?_)
    refine s_stw (vs := qc X (failQ X 4 q)) rfl rfl rfl rfl rfl h0 rfl (fun w6 s6 => ?_)
    have G := G.put 0 rfl s6 rfl
    have h0 := G.blk 0 rfl; try have h1 := G.blk 1 rfl; try have h2 := G.blk 2 rfl; try have h3 := G.blk 3 rfl; try have h4 := G.blk 4 rfl; try have h5 := G.blk 5 rfl
    (repeat refine Zlr ?_)
    exact ret_c1 rfl (rv_agw rfl h0 rfl rfl) ⟨by rw [deepQ, if_pos (by omega)], k4.from0' s6.kp fun i hi e => by have := n2.ge; have := n.kp.size; omega⟩
  · (repeat refine Zlr ?_)
    refine s_stw (vs := qc X q) rfl rfl rfl rfl rfl h0 rfl (fun w6 s6 => ?_)
    have G := G.put 0 rfl s6 rfl
    have h0 := G.blk 0 rfl; try have h1 := G.blk 1 rfl; try have h2 := G.blk 2 rfl; try have h3 := G.blk 3 rfl; try have h4 := G.blk 4 rfl; try have h5 := G.blk 5 rfl
    (repeat refine Zlr ?_)
    exact ret_c1 rfl (rv_agw rfl h0 rfl rfl) ⟨by rw [deepQ, if_neg (by omega)], k2.from0' s6.kp fun i hi e => by have := n2.ge; have := n.kp.size; omega⟩
theorem kindF (h : Aq X w q) (k : Int) (hk : k ≠ 0) : Ret Tryz.prog 59 [qv X q, .int .i64 k] w fun v w1 => v = .tuple #[qv X (kindQ X k q), sv (kindW X k q)] ∧ Kp No w w1 := by
  obtain ⟨t, ht, e1, e2, e3⟩ := h.tok
  have hl := h.lt
  have hsm := h.small
  refine ret_enter Tryz.func59 rfl Tryz.ntmps59 rfl ?_
  (repeat refine Zlr ?_)
  refine s_box (cs := qc X q) rfl rfl (fun b w1 n => ?_)
  have G := (Wb.start h).new n
  (repeat refine Zlr ?_)
  refine s_al rfl (fun b2 w2 n2 => ?_)
  have G := G.new n2
  have h0 := G.blk 0 rfl; try have h1 := G.blk 1 rfl; try have h2 := G.blk 2 rfl; try have h3 := G.blk 3 rfl; try have h4 := G.blk 4 rfl; try have h5 := G.blk 5 rfl
  have k2 := n.kp.no n2.kp
  obtain ⟨c1, c2, c3⟩ := G.at_.tokens _ _ ht
  (repeat refine Zlr ?_)
  have bad : ¬ (q.c = 0 ∧ kd X.E q.s = k) → kindQ X k q = failQ X 3 q ∧ kindW X k q = [] := fun h => ⟨if_neg h, if_neg h⟩
  have good : (q.c = 0 ∧ kd X.E q.s = k) → kindQ X k q = { q with s := adv q.s } ∧ kindW X k q = wd X.E q.s := fun h => ⟨if_pos h, if_pos h⟩
  by_cases hc : q.c = 0
  · refine s_set 10 false rfl (bne_eq_false_iff_eq.2 hc) ?_
    (repeat (first | refine Zlr ?_ | refine Zn ?_ | refine Zu ?_ | refine Zg ?_ | refine Zgl ?_))
    refine s_gv rfl (r_ia rfl rfl rfl rfl (by omega) (by omega)) ?_
    (repeat (first | refine Zlr ?_ | refine Zn ?_ | refine Zu ?_ | refine Zg ?_ | refine Zgl ?_))
    refine c_ne rfl (fun hk => ?_) (fun hk => ?_)
    · obtain ⟨b1, b2'⟩ := bad (fun h => hk (by rw [← e1]; exact h.2))
      rw [b1, b2']
      (repeat refine Zlr ?_)
      refine s_call (us := []) (zs := []) (by kernel_rfl) rfl rfl (failF 3 G.at_) ?_
      rintro _ w4 ⟨rfl, k4⟩
      have G := G.no k4
      have h0 := G.blk 0 rfl; try have h1 := G.blk 1 rfl; try have h2 := G.blk 2 rfl; try have h3 := G.blk 3 rfl; try have h4 := G.blk 4 rfl; try have h5 := G.blk 5 rfl
      have k4 := k2.no k4
      (repeat refine Zlr ?_)
      refine s_stw (vs := qc X (failQ X 3 q)) rfl rfl rfl rfl rfl h0 rfl (fun w6 s6 => ?_)
      have G := G.put 0 rfl s6 rfl
      have h0 := G.blk 0 rfl; try have h1 := G.blk 1 rfl; try have h2 := G.blk 2 rfl; try have h3 := G.blk 3 rfl; try have h4 := G.blk 4 rfl; try have h5 := G.blk 5 rfl
      (repeat refine Zlr ?_)
      exact ret_c2 rfl (rv_agw rfl h0 rfl rfl) (rv_t rfl) ⟨rfl, k4.from0' s6.kp fun i hi e => by have := n2.ge; have := n.kp.size; omega⟩
    · obtain ⟨b1, b2'⟩ := good ⟨hc, by rw [e1]; exact hk⟩
      rw [b1, b2']
      (repeat refine Zlr ?_)
      refine s_call (us := []) (zs := []) (by kernel_rfl) rfl rfl (wordF G.at_) ?_
      rintro _ w4 ⟨rfl, k4⟩
      have G := G.no k4
      have h0 := G.blk 0 rfl; try have h1 := G.blk 1 rfl; try have h2 := G.blk 2 rfl; try have h3 := G.blk 3 rfl; try have h4 := G.blk 4 rfl; try have h5 := G.blk 5 rfl
      have k4 := k2.no k4
      (repeat refine Zlr ?_)
      refine s_st (vs := [.int .i64 ((q.s.i : Int) + 1)]) rfl rfl rfl rfl rfl h1 (Nat.le_of_ble_eq_true rfl) (fun w5 s5 => ?_)
      have s5 : Sb w4 b (qc X { q with s := adv q.s }) Tp w5 := s5
      have G := G.put 1 rfl s5 rfl
      have h0 := G.blk 0 rfl; try have h1 := G.blk 1 rfl; try have h2 := G.blk 2 rfl; try have h3 := G.blk 3 rfl; try have h4 := G.blk 4 rfl; try have h5 := G.blk 5 rfl
      have k5 := k4.from0' s5.kp fun i hi e => by have := n.ge; omega
      (repeat refine Zlr ?_)
      refine s_stw (vs := qc X { q with s := adv q.s }) rfl rfl rfl rfl rfl h0 rfl (fun w6 s6 => ?_)
      have G := G.put 0 rfl s6 rfl
      have h0 := G.blk 0 rfl; try have h1 := G.blk 1 rfl; try have h2 := G.blk 2 rfl; try have h3 := G.blk 3 rfl; try have h4 := G.blk 4 rfl; try have h5 := G.blk 5 rfl
      (repeat refine Zlr ?_)
      exact ret_c2 rfl (rv_agw rfl h0 rfl rfl) (rv_t rfl) ⟨rfl, k5.from0' s6.kp fun i hi e => by have := n2.ge; have := n.kp.size; omega⟩
  · obtain ⟨b1, b2'⟩ := bad (fun h => hc h.1)
    rw [b1, b2']
    refine s_set 10 true rfl (bne_iff_ne.2 hc) ?_
    (repeat (first | refine Zlr ?_ | refine Zn ?_ | refine Zu ?_ | refine Zg ?_ | refine Zgl ?_))
    refine c_t rfl ?_
    (repeat refine Zlr ?_)
    refine s_call (us := []) (zs := []) (by kernel_rfl) rfl rfl (failF 3 G.at_) ?_
    rintro _ w4 ⟨rfl, k4⟩
    have G := G.no k4
    have h0 := G.blk 0 rfl; try have h1 := G.blk 1 rfl; try have h2 := G.blk 2 rfl; try have h3 := G.blk 3 rfl; try have h4 := G.blk 4 rfl; try have h5 := G.blk 5 rfl
    have k4 := k2.no k4
    (repeat refine Zlr ?_)
    refine s_stw (vs := qc X (failQ X 3 q)) rfl rfl rfl rfl rfl h0 rfl (fun w6 s6 => ?_)
    have G := G.put 0 rfl s6 rfl
    have h0 := G.blk 0 rfl; try have h1 := G.blk 1 rfl; try have h2 := G.blk 2 rfl; try have h3 := G.blk 3 rfl; try have h4 := G.blk 4 rfl; try have h5 := G.blk 5 rfl
    (repeat refine Zlr ?_)
    exact ret_c2 rfl (rv_agw rfl h0 rfl rfl) (rv_t rfl) ⟨rfl, k4.from0' s6.kp fun i hi e => by have := n2.ge; have := n.kp.size; omega⟩
theorem numberF (x : ByteArray) (w : World) (hs : x.size ≤ 18) (hd : ∀ c ∈ B x, 48 ≤ c ∧ c ≤ 57) : Ret Tryz.prog 112 [.string x] w fun v w1 => v = .int .i64 (num (B x)) ∧ w1 = w := by
  have hlen := B_len x
  refine ret_enter Tryz.func112 rfl Tryz.ntmps112 rfl ?_
  (repeat refine Zr ?_)
  refine k_loop (σ := Nat) (fun i => [(0, .string x), (3, .int .i64 (num ((B x).take i))), (4, .int .i64 (i : Int))]) (fun i w1 => w1 = w ∧ i ≤ x.size) (fun i => x.size - i) 0 ⟨rfl, rfl, rfl, trivial⟩ ⟨rfl, Nat.zero_le _⟩ ?_
  rintro i l w1 ⟨rfl, hi⟩
  (repeat refine Zr ?_)
  refine c_dec rfl (fun q => ?_) (fun q => ?_)
  · have q : i < x.size := by omega
    obtain ⟨c, hc⟩ : ∃ c, (B x)[i]? = some c := ⟨_, List.getElem?_eq_getElem (by omega)⟩
    have hb := B_get hc
    have h2 := hd c (List.mem_of_getElem? hc)
    obtain ⟨h3, h4⟩ := num_tk (B x) hd i (by omega)
    have h5 : (10 : Int) ^ i ≤ 10 ^ 17 := (show ∀ j : Fin 18, (10 : Int) ^ (j : Nat) ≤ 10 ^ 17 by decide) ⟨i, by omega⟩
    have h6 : num ((B x).take i) < 100000000000000000 := by
      have : (10 : Int) ^ 17 = 100000000000000000 := by decide
      omega
    have hst := num_step (B x) i c hc
    (repeat refine Zr ?_)
    refine s_v (r_ix rfl rfl rfl (by omega) (by omega)) ?_
    rw [hb]
    (repeat refine Zr ?_)
    refine l_next (i + 1) ⟨rfl, by
      show Value.int .i64 (IntKind.i64.wrap (num ((B x).take i) * 10 + IntKind.i64.wrap (IntKind.u8.wrap (c - 48)))) = _
      rw [wrap_u8 (n := c - 48) (by omega), show IntKind.i64.wrap (c - 48) = c - 48 from wrap_in (by omega), show IntKind.i64.wrap (num ((B x).take i) * 10 + (c - 48)) = num ((B x).take i) * 10 + (c - 48) from wrap_in (by omega), hst], rfl, trivial⟩ ⟨rfl, by omega⟩ (by omega)
  · (repeat refine Zr ?_)
    have : i = x.size := by omega
    refine ret_1 rfl rfl ⟨?_, rfl⟩
    rw [this, ← hlen, List.take_length]
end
end Go.Proofs.YtfnbgbeinmekgaaGreatDoor.Rf
namespace Go.Proofs.YtfnbgbeinmekgaaGreatDoor.Rf
open Go Go.RowKit Fw Sy
set_option linter.unusedVariables false
set_option maxRecDepth 20000
/-- What a part answers: the state that goes on, and a number. -/
def RecS (X : Cr) (w : World) (q : Q) (r : Rs Int) (v : Value) (w' : World) : Prop := ∃ q' a, v = .tuple #[qv X q', .int .i64 a] ∧ Sg X w q w' q' ∧ Res r q' a
section
variable {X : Cr} {w : World} {q : Q}
theorem own_x {w w' : World} {base0 : Nat} {e0 : TypeId} {size0 : Nat} {v0 : Value} {n0 : Nat} {cs0 : List Value} {k0 : Nat} {xs : List Value} {v : Value} (o0 : w.ownsRow base0 e0 size0 v0 n0 cs0) (ap : Ap w 0 e0 size0 v0 k0 xs v w') {base : Nat} {e : TypeId} {size : Nat} {u : Value} {n : Nat} {cs : List Value} (h : w.ownsRow base e size u n cs) (he : Nat.beq e e0 = false) : w'.ownsRow base e size u n cs :=
  own_kp h ap.kp fun g hg e' => by
    obtain ⟨c, hc⟩ := own_ty h hg
    obtain ⟨c0, hc0⟩ := own_ty o0 e'.symm
    exact ty_ne hc hc0 he rfl
theorem Sg.putx (h : Aq X w q) (hc : q.c = 0) {x : Ex} {a la : Option Addr} {n c ln lc : Nat} {w' : World} {rx : List (Ex × Value)} (e1 : rx.map Prod.fst = q.s.ex) (o1 : w.ownsRow 0 67 9 q.x.v q.s.ex.length (rx.flatMap exC)) (l1 : ∀ r ∈ rx, LI w r.2 r.1.l ∧ Ow q.V r.2)
    (hl : LI w (.slice la ln lc) x.l) (how : Ow q.V (.slice la ln lc)) (hx : q.s.ex.length + 1 ≤ q.s.i) (ap : Ap w 0 67 9 q.x.v (q.s.ex.length + 1) (rx.flatMap exC ++ exC (x, .slice la ln lc)) (.slice a n c) w') :
    Sg X w q w' { q with s := { q.s with ex := q.s.ex ++ [x] }, x := ⟨a, n, c⟩ } := by
  obtain ⟨g1, g2, g3, g4, g5, g6, g7⟩ := h.gd hc
  have P : ∀ {base : Nat} {e : TypeId} {size : Nat} {v : Value} {n : Nat} {cs : List Value}, w.ownsRow base e size v n cs → Nat.beq e 67 = false → w'.ownsRow base e size v n cs := fun ho he => own_x o1 ap ho he
  obtain ⟨ry, a2, o2, l2⟩ := g2
  obtain ⟨rz, a3, o3, l3⟩ := g3
  refine ⟨⟨h.h0, P h.tk rfl, h.lt, fun _ => ⟨⟨rx ++ [(x, .slice la ln lc)], by simp [e1], ?_, ?_⟩, ⟨ry, a2, P o2 rfl, fun r hr => ⟨⟨P (l2 r hr).1.1 rfl, (l2 r hr).1.2⟩, P (l2 r hr).2.1 rfl, (l2 r hr).2.2⟩⟩,
    ⟨rz, a3, P o3 rfl, fun r hr => ⟨⟨P (l3 r hr).1.1 rfl, (l3 r hr).1.2⟩, P (l3 r hr).2.1 rfl, (l3 r hr).2.2⟩⟩, ?_, g5, g6, fun b hb => Nat.lt_of_lt_of_le (g7 b hb) ap.kp.size⟩⟩, ap.kp.mono fun i _ e => ⟨hc, .inl e.symm⟩, fun b hb hs => ?_, fun b _ _ ho => ⟨hc, ho⟩⟩
  · rw [List.flatMap_append]
    simpa using ap.own
  · intro r hr
    rcases List.mem_append.1 hr with hr | hr
    · exact ⟨P (l1 r hr).1 rfl, (l1 r hr).2⟩
    · rw [List.mem_singleton] at hr; subst hr; exact ⟨P hl rfl, how⟩
  · show (q.s.ex ++ [x]).length ≤ q.s.i
    rw [List.length_append, List.length_singleton]; exact hx
  · rcases hs.2 with hs | hs | hs
    · rcases ap.row b hs with h1 | h1
      · exact ⟨hc, .inl h1⟩
      · omega
    · exact ⟨hc, .inr (.inl hs)⟩
    · exact ⟨hc, .inr (.inr hs)⟩
theorem Sg.puty (h : Aq X w q) (hc : q.c = 0) {x : St} {a la ma : Option Addr} {n c ln lc mn mc : Nat} {w' : World} {ry : List (St × Value × Value)} (e1 : ry.map Prod.fst = q.s.st) (o1 : w.ownsRow 0 42 9 q.y.v q.s.st.length (ry.flatMap stC)) (l1 : ∀ r ∈ ry, (LI w r.2.1 r.1.th ∧ Ow q.V r.2.1) ∧ LI w r.2.2 r.1.el ∧ Ow q.V r.2.2)
    (hl : LI w (.slice la ln lc) x.th) (how : Ow q.V (.slice la ln lc)) (hm : LI w (.slice ma mn mc) x.el) (hom : Ow q.V (.slice ma mn mc)) (hx : q.s.st.length + 1 ≤ 1000) (ap : Ap w 0 42 9 q.y.v (q.s.st.length + 1) (ry.flatMap stC ++ stC (x, .slice la ln lc, .slice ma mn mc)) (.slice a n c) w') :
    Sg X w q w' { q with s := { q.s with st := q.s.st ++ [x] }, y := ⟨a, n, c⟩ } := by
  obtain ⟨g1, g2, g3, g4, g5, g6, g7⟩ := h.gd hc
  have P : ∀ {base : Nat} {e : TypeId} {size : Nat} {v : Value} {n : Nat} {cs : List Value}, w.ownsRow base e size v n cs → Nat.beq e 42 = false → w'.ownsRow base e size v n cs := fun ho he => own_x o1 ap ho he
  obtain ⟨rx, a2, o2, l2⟩ := g1
  obtain ⟨rz, a3, o3, l3⟩ := g3
  refine ⟨⟨h.h0, P h.tk rfl, h.lt, fun _ => ⟨⟨rx, a2, P o2 rfl, fun r hr => ⟨P (l2 r hr).1 rfl, (l2 r hr).2⟩⟩, ⟨ry ++ [(x, .slice la ln lc, .slice ma mn mc)], by simp [e1], ?_, ?_⟩,
    ⟨rz, a3, P o3 rfl, fun r hr => ⟨⟨P (l3 r hr).1.1 rfl, (l3 r hr).1.2⟩, P (l3 r hr).2.1 rfl, (l3 r hr).2.2⟩⟩, g4, ?_, g6, fun b hb => Nat.lt_of_lt_of_le (g7 b hb) ap.kp.size⟩⟩, ap.kp.mono fun i _ e => ⟨hc, .inr (.inl e.symm)⟩, fun b hb hs => ?_, fun b _ _ ho => ⟨hc, ho⟩⟩
  · rw [List.flatMap_append]
    simpa using ap.own
  · intro r hr
    rcases List.mem_append.1 hr with hr | hr
    · exact ⟨⟨P (l1 r hr).1.1 rfl, (l1 r hr).1.2⟩, P (l1 r hr).2.1 rfl, (l1 r hr).2.2⟩
    · rw [List.mem_singleton] at hr; subst hr; exact ⟨⟨P hl rfl, how⟩, P hm rfl, hom⟩
  · show (q.s.st ++ [x]).length ≤ 1000
    rw [List.length_append, List.length_singleton]; exact hx
  · rcases hs.2 with hs | hs | hs
    · exact ⟨hc, .inl hs⟩
    · rcases ap.row b hs with h1 | h1
      · exact ⟨hc, .inr (.inl h1)⟩
      · omega
    · exact ⟨hc, .inr (.inr hs)⟩
theorem Sg.putz (h : Aq X w q) (hc : q.c = 0) {x : Sy.Fn} {a la ma : Option Addr} {n c ln lc mn mc : Nat} {w' : World} {rz : List (Sy.Fn × Value × Value)} (e1 : rz.map Prod.fst = q.s.fn) (o1 : w.ownsRow 0 62 6 q.z.v q.s.fn.length (rz.flatMap fnC)) (l1 : ∀ r ∈ rz, (LS w r.2.1 r.1.ps ∧ Ow q.V r.2.1) ∧ LI w r.2.2 r.1.bd ∧ Ow q.V r.2.2)
    (hl : LS w (.slice la ln lc) x.ps) (how : Ow q.V (.slice la ln lc)) (hm : LI w (.slice ma mn mc) x.bd) (hom : Ow q.V (.slice ma mn mc)) (hx : q.s.fn.length + 1 ≤ 32) (ap : Ap w 0 62 6 q.z.v (q.s.fn.length + 1) (rz.flatMap fnC ++ fnC (x, .slice la ln lc, .slice ma mn mc)) (.slice a n c) w') :
    Sg X w q w' { q with s := { q.s with fn := q.s.fn ++ [x] }, z := ⟨a, n, c⟩ } := by
  obtain ⟨g1, g2, g3, g4, g5, g6, g7⟩ := h.gd hc
  have P : ∀ {base : Nat} {e : TypeId} {size : Nat} {v : Value} {n : Nat} {cs : List Value}, w.ownsRow base e size v n cs → Nat.beq e 62 = false → w'.ownsRow base e size v n cs := fun ho he => own_x o1 ap ho he
  obtain ⟨rx, a2, o2, l2⟩ := g1
  obtain ⟨ry, a3, o3, l3⟩ := g2
  refine ⟨⟨h.h0, P h.tk rfl, h.lt, fun _ => ⟨⟨rx, a2, P o2 rfl, fun r hr => ⟨P (l2 r hr).1 rfl, (l2 r hr).2⟩⟩,
    ⟨ry, a3, P o3 rfl, fun r hr => ⟨⟨P (l3 r hr).1.1 rfl, (l3 r hr).1.2⟩, P (l3 r hr).2.1 rfl, (l3 r hr).2.2⟩⟩, ⟨rz ++ [(x, .slice la ln lc, .slice ma mn mc)], by simp [e1], ?_, ?_⟩, g4, g5, ?_, fun b hb => Nat.lt_of_lt_of_le (g7 b hb) ap.kp.size⟩⟩, ap.kp.mono fun i _ e => ⟨hc, .inr (.inr e.symm)⟩, fun b hb hs => ?_, fun b _ _ ho => ⟨hc, ho⟩⟩
  · rw [List.flatMap_append]
    simpa using ap.own
  · intro r hr
    rcases List.mem_append.1 hr with hr | hr
    · exact ⟨⟨P (l1 r hr).1.1 rfl, (l1 r hr).1.2⟩, P (l1 r hr).2.1 rfl, (l1 r hr).2.2⟩
    · rw [List.mem_singleton] at hr; subst hr; exact ⟨⟨P hl rfl, how⟩, P hm rfl, hom⟩
  · show (q.s.fn ++ [x]).length ≤ 32
    rw [List.length_append, List.length_singleton]; exact hx
  · rcases hs.2 with hs | hs | hs
    · exact ⟨hc, .inl hs⟩
    · exact ⟨hc, .inr (.inl hs)⟩
    · rcases ap.row b hs with h1 | h1
      · exact ⟨hc, .inr (.inr h1)⟩
      · omega
theorem Gd.ny {w : World} {q : Q} (h : Gd w q) : q.x.n = q.s.ex.length ∧ q.y.n = q.s.st.length ∧ q.z.n = q.s.fn.length := by
  obtain ⟨_, _, o1, _⟩ := h.xs
  obtain ⟨_, _, o2, _⟩ := h.ss
  obtain ⟨_, _, o3, _⟩ := h.fs
  obtain ⟨_, _, e1, _⟩ := own_read o1
  obtain ⟨_, _, e2, _⟩ := own_read o2
  obtain ⟨_, _, e3, _⟩ := own_read o3
  simp only [Value.slice.injEq] at e1 e2 e3
  exact ⟨e1.2.1, e2.2.1, e3.2.1⟩
theorem Aq.prev (h : Aq X w q) (h1 : 1 ≤ q.s.i) : ∃ t, X.T[q.s.i - 1]? = some t ∧ pe X.E q.s = t.2.2 := by
  have hl := h.lt
  have ht : X.T[q.s.i - 1]? = some X.T[q.s.i - 1] := List.getElem?_eq_getElem (by omega)
  exact ⟨_, ht, by simp only [pe, envOf, ht]⟩
set_option maxHeartbeats 1000000 in
theorem putF (h : Aq X w q) (fr : Int) (x : Ex) (la : Option Addr) (ln lc : Nat) (hl : q.c = 0 → LI w (.slice la ln lc) x.l ∧ Ow q.V (.slice la ln lc) ∧ q.s.ex.length + 1 ≤ q.s.i) :
    Ret Tryz.prog 126 [qv X q, .int .i64 fr, .agg (exC (x, .slice la ln lc)).toArray] w (RecS X w q ((stt q).bind fun _ s => Sy.put X.E fr x s)) := by
  have hsm := h.small
  have hlt := h.lt
  refine ret_enter Tryz.func126 rfl Tryz.ntmps126 rfl ?_
  (repeat refine Zlr ?_)
  refine s_box (cs := qc X q) rfl rfl (fun b w n => ?_)
  have G := (Wb.start h).new n
  (repeat refine Zlr ?_)
  refine s_box (cs := exC (x, .slice la ln lc)) rfl rfl (fun b2 w n2 => ?_)
  have G := G.new n2
  (repeat refine Zlr ?_)
  refine s_al rfl (fun b3 w n3 => ?_)
  have G := G.new n3
  have k3 := (n.kp.no n2.kp).no n3.kp
  have h0 := G.blk 0 rfl; try have h1 := G.blk 1 rfl; try have h2 := G.blk 2 rfl; try have h3 := G.blk 3 rfl; try have h4 := G.blk 4 rfl; try have h5 := G.blk 5 rfl
  (repeat refine Zlr ?_)
  by_cases hc : q.c = 0
  · obtain ⟨hl1, hl2, hl3⟩ := hl hc
    have hl3' := hl3
    refine c_f (by show Value.bool (q.c != 0) = _; rw [bne_eq_false_iff_eq.2 hc]) ?_
    obtain ⟨t, ht, e1⟩ := h.prev (by omega)
    obtain ⟨c1, c2, c3⟩ := G.at_.tokens _ _ ht
    rw [show ((q.s.i - 1 : Nat) : Int) = (q.s.i : Int) - 1 by omega] at c1 c2 c3
    (repeat refine Zlr ?_)
    refine s_v (r_ia rfl rfl rfl rfl (by omega) (by omega)) ?_
    (repeat refine Zlr ?_)
    rw [← e1]
    refine s_st (vs := [.int .i64 fr, .int .i64 (pe X.E q.s)]) rfl rfl rfl rfl rfl h1 (Nat.le_of_ble_eq_true rfl) (fun w s => ?_)
    have s : Sb _ b2 (exC ({ x with f := fr, e := pe X.E q.s }, .slice la ln lc)) _ w := s
    have G := G.put 1 rfl s rfl
    have h0 := G.blk 0 rfl; try have h1 := G.blk 1 rfl; try have h2 := G.blk 2 rfl; try have h3 := G.blk 3 rfl; try have h4 := G.blk 4 rfl; try have h5 := G.blk 5 rfl
    (repeat refine Zlr ?_)
    refine s_bs (cs := exC ({ x with f := fr, e := pe X.E q.s }, .slice la ln lc)) (e := 67) rfl (fun b4 w n4 => ?_)
    have G := G.new n4
    have h0 := G.blk 0 rfl; try have h1 := G.blk 1 rfl; try have h2 := G.blk 2 rfl; try have h3 := G.blk 3 rfl; try have h4 := G.blk 4 rfl; try have h5 := G.blk 5 rfl
    obtain ⟨rx, a1, o1, l1⟩ := (G.at_.gd hc).xs
    have hlw := own_gs h G.sg.gs.kp hl1 rfl
    have hxl : q.s.ex.length ≤ 20001 := by omega
    (repeat refine Zlr ?_)
    refine s_app (v0 := q.x.v) (k := q.s.ex.length) (m := 1) (size := 9) (bytes := 104) (base := 0) (xs := rx.flatMap exC) (news := exC ({ x with f := fr, e := pe X.E q.s }, .slice la ln lc)) rfl rfl rfl rfl rfl rfl rfl rfl o1 rfl (blk_cells h0) rfl rfl (by omega) (by omega) (Nat.zero_le _) ?_
    intro v w ap
    obtain ⟨a9, c9, e9, _⟩ := own_read ap.own
    subst e9
    have G := G.call (Sg.putx (x := { x with f := fr, e := pe X.E q.s }) G.at_ hc a1 o1 l1 hlw hl2 hl3' ap)
    have h0 := G.blk 0 rfl; try have h1 := G.blk 1 rfl; try have h2 := G.blk 2 rfl; try have h3 := G.blk 3 rfl; try have h4 := G.blk 4 rfl; try have h5 := G.blk 5 rfl
    (repeat refine Zlr ?_)
    refine s_st (vs := [.slice a9 (q.s.ex.length + 1) c9]) rfl rfl rfl rfl rfl h3 (Nat.le_of_ble_eq_true rfl) (fun w s => ?_)
    have s : Sb _ b (qc X { q with s := { q.s with ex := q.s.ex ++ [{ x with f := fr, e := pe X.E q.s }] }, x := ⟨a9, q.s.ex.length + 1, c9⟩ }) _ w := s
    have G := G.put 3 rfl s rfl
    have h0 := G.blk 0 rfl; try have h1 := G.blk 1 rfl; try have h2 := G.blk 2 rfl; try have h3 := G.blk 3 rfl; try have h4 := G.blk 4 rfl; try have h5 := G.blk 5 rfl
    generalize hq' : ({ q with s := { q.s with ex := q.s.ex ++ [{ x with f := fr, e := pe X.E q.s }] }, x := ⟨a9, q.s.ex.length + 1, c9⟩ } : Q) = q' at G h0 h1 h2 h3
    have hx' : q'.x.n = q.s.ex.length + 1 ∧ q'.s = { q.s with ex := q.s.ex ++ [{ x with f := fr, e := pe X.E q.s }] } ∧ q'.c = 0 := by rw [← hq']; exact ⟨rfl, rfl, hc⟩
    have hb3 : b ≠ b3 := fun e => by
      have := G.nd 3 1 b _ _ _ _ rfl (by rw [e]; rfl)
      omega
    (repeat refine Zlr ?_)
    refine k_h (fun w' => Kp (fun i => i = b3) w w') [(0, false), (1, false), (2, false), (3, false), (4, false), (5, false), (6, true), (7, false)] 8 (by kernel_rfl) (waits_none) (by kernel_rfl) (by kernel_rfl) (by kernel_rfl) rfl (fun w4 k4 q4 => ?_)
    have k4' : Kp (fun i => i = b3) w w4 := k4.mono fun _ _ h => h.elim
    have G0 := G
    have G := G.no k4
    have h0 := G.blk 0 rfl; try have h1 := G.blk 1 rfl; try have h2 := G.blk 2 rfl; try have h3 := G.blk 3 rfl; try have h4 := G.blk 4 rfl; try have h5 := G.blk 5 rfl
    have hxn := hx'.1
    have hd := fun (w' : World) (hw : Kp (fun i => i = b3) _ w') => hw.get (G0.blk 3 rfl) (fun e => hb3 e)
    refine h_v k4' (fun w' hw => r_ldw rfl (hd w' hw) rfl rfl) ?_
    refine h_v k4' (fun w' hw => r_fa rfl rfl) ?_
    refine h_v k4' (fun w' hw => r_fa rfl rfl) ?_
    refine h_v k4' (fun w' hw => r_ld rfl rfl (cell_of_blk (hd w' hw) rfl)) ?_
    refine h_v k4' (fun w' hw => r_len rfl) ?_
    refine h_v k4' (fun w' hw => r_sub rfl rfl (by omega)) ?_
    refine h_st (vs := qc X q') rfl rfl rfl rfl rfl h1 (Nat.le_of_ble_eq_true rfl) (fun w5 s5 => ⟨fun _ => k4'.trans s5.kp fun _ _ h => h, ?_⟩)
    have s5 : Sb _ b3 (qc X q') _ w5 := s5
    have G := G.put 1 rfl s5 rfl
    have h0 := G.blk 0 rfl; try have h1 := G.blk 1 rfl; try have h2 := G.blk 2 rfl; try have h3 := G.blk 3 rfl; try have h4 := G.blk 4 rfl; try have h5 := G.blk 5 rfl
    have k5' : Kp (fun i => i = b3) _ w5 := k4'.trans s5.kp fun _ _ h => h
    refine h_v k5' (fun w' hw => r_as rfl) ?_
    refine h_nil ?_
    (repeat refine Zlr ?_)
    refine ret_c2 rfl (rv_agw rfl h1 rfl rfl) (rv_t rfl) ⟨q', _, rfl, G.sg, ?_⟩
    rw [stt_c hc, bind_ok]
    exact ⟨hx'.2.2, hx'.2.1, by rw [hxn]; show (q.s.ex.length : Int) = _; omega⟩
  · refine c_t (by show Value.bool (q.c != 0) = _; rw [bne_iff_ne.2 hc]) ?_
    (repeat refine Zlr ?_)
    refine s_stw (vs := qc X q) rfl rfl rfl rfl rfl h0 rfl (fun w6 s6 => ?_)
    have G := G.put 0 rfl s6 rfl
    have h0 := G.blk 0 rfl; try have h1 := G.blk 1 rfl; try have h2 := G.blk 2 rfl; try have h3 := G.blk 3 rfl; try have h4 := G.blk 4 rfl; try have h5 := G.blk 5 rfl
    (repeat refine Zlr ?_)
    exact ret_c2 rfl (rv_agw rfl h0 rfl rfl) (rv_t rfl) ⟨q, 0, rfl, G.sg, by rw [stt_e hc]; exact hc⟩
set_option maxHeartbeats 1000000 in
theorem addF (h : Aq X w q) (fr : Int) (x : St) (la ma : Option Addr) (ln lc mn mc : Nat) (hl : q.c = 0 → (LI w (.slice la ln lc) x.th ∧ Ow q.V (.slice la ln lc)) ∧ (LI w (.slice ma mn mc) x.el ∧ Ow q.V (.slice ma mn mc)) ∧ 1 ≤ q.s.i) :
    Ret Tryz.prog 111 [qv X q, .int .i64 fr, .agg (stC (x, .slice la ln lc, .slice ma mn mc)).toArray] w (RecS X w q ((stt q).bind fun _ s => Sy.add X.E fr x s)) := by
  have hsm := h.small
  have hlt := h.lt
  refine ret_enter Tryz.func111 rfl Tryz.ntmps111 rfl ?_
  (repeat refine Zlr ?_)
  refine s_box (cs := qc X q) rfl rfl (fun b w n => ?_)
  have G := (Wb.start h).new n
  (repeat refine Zlr ?_)
  refine s_box (cs := stC (x, .slice la ln lc, .slice ma mn mc)) rfl rfl (fun b2 w n2 => ?_)
  have G := G.new n2
  (repeat refine Zlr ?_)
  refine s_al rfl (fun b3 w n3 => ?_)
  have G := G.new n3
  have k3 := (n.kp.no n2.kp).no n3.kp
  have h0 := G.blk 0 rfl; try have h1 := G.blk 1 rfl; try have h2 := G.blk 2 rfl; try have h3 := G.blk 3 rfl; try have h4 := G.blk 4 rfl; try have h5 := G.blk 5 rfl
  (repeat refine Zlr ?_)
  by_cases hc : q.c = 0
  · obtain ⟨⟨hl1, hl2⟩, ⟨hm1, hm2⟩, hl3⟩ := hl hc
    obtain ⟨_, hny, _⟩ := (G.at_.gd hc).ny
    refine s_set 11 true rfl (beq_iff_eq.2 hc) ?_
    (repeat (first | refine Zlr ?_ | refine Zn ?_ | refine Zu ?_ | refine Zg ?_ | refine Zgl ?_))
    refine c_dec rfl (fun hge => ?_) (fun hlt' => ?_)
    · have hge : 1000 ≤ q.s.st.length := by omega
      (repeat refine Zlr ?_)
      refine s_call (us := []) (zs := []) (by kernel_rfl) rfl rfl (failF 5 G.at_) ?_
      rintro _ w ⟨rfl, k4⟩
      have G := G.no k4
      have h0 := G.blk 0 rfl; try have h1 := G.blk 1 rfl; try have h2 := G.blk 2 rfl; try have h3 := G.blk 3 rfl; try have h4 := G.blk 4 rfl; try have h5 := G.blk 5 rfl
      (repeat refine Zlr ?_)
      refine s_stw (vs := qc X (failQ X 5 q)) rfl rfl rfl rfl rfl h2 rfl (fun w6 s6 => ?_)
      have G := G.put 2 rfl s6 rfl
      have h0 := G.blk 0 rfl; try have h1 := G.blk 1 rfl; try have h2 := G.blk 2 rfl; try have h3 := G.blk 3 rfl; try have h4 := G.blk 4 rfl; try have h5 := G.blk 5 rfl
      (repeat refine Zlr ?_)
      have hc' : (failQ X 5 q).c ≠ 0 := failQ_c (by decide)
      refine c_t (by show Value.bool ((failQ X 5 q).c != 0) = _; rw [bne_iff_ne.2 hc']) ?_
      (repeat refine Zlr ?_)
      refine s_stw (vs := qc X (failQ X 5 q)) rfl rfl rfl rfl rfl h0 rfl (fun w6 s6 => ?_)
      have G := G.put 0 rfl s6 rfl
      have h0 := G.blk 0 rfl; try have h1 := G.blk 1 rfl; try have h2 := G.blk 2 rfl; try have h3 := G.blk 3 rfl; try have h4 := G.blk 4 rfl; try have h5 := G.blk 5 rfl
      (repeat refine Zlr ?_)
      refine ret_c2 rfl (rv_agw rfl h0 rfl rfl) (rv_t rfl) ⟨failQ X 5 q, 0, rfl, G.sg.call (Sg.fail G.at_ (by decide)), ?_⟩
      rw [stt_c hc, bind_ok, Sy.add, if_pos hge]; exact hc'
    · have hst : q.s.st.length + 1 ≤ 1000 := by omega
      (repeat refine Zlr ?_)
      refine c_f (by show Value.bool (q.c != 0) = _; rw [bne_eq_false_iff_eq.2 hc]) ?_
      obtain ⟨t, ht, e1⟩ := h.prev (by omega)
      obtain ⟨c1, c2, c3⟩ := G.at_.tokens _ _ ht
      rw [show ((q.s.i - 1 : Nat) : Int) = (q.s.i : Int) - 1 by omega] at c1 c2 c3
      (repeat refine Zlr ?_)
      refine s_v (r_ia rfl rfl rfl rfl (by omega) (by omega)) ?_
      (repeat refine Zlr ?_)
      rw [← e1]
      refine s_st (vs := [.int .i64 fr, .int .i64 (pe X.E q.s)]) rfl rfl rfl rfl rfl h1 (Nat.le_of_ble_eq_true rfl) (fun w s => ?_)
      have s : Sb _ b2 (stC ({ x with f := fr, e := pe X.E q.s }, .slice la ln lc, .slice ma mn mc)) _ w := s
      have G := G.put 1 rfl s rfl
      have h0 := G.blk 0 rfl; try have h1 := G.blk 1 rfl; try have h2 := G.blk 2 rfl; try have h3 := G.blk 3 rfl; try have h4 := G.blk 4 rfl; try have h5 := G.blk 5 rfl
      (repeat refine Zlr ?_)
      refine s_bs (cs := stC ({ x with f := fr, e := pe X.E q.s }, .slice la ln lc, .slice ma mn mc)) (e := 42) rfl (fun b4 w n4 => ?_)
      have G := G.new n4
      have h0 := G.blk 0 rfl; try have h1 := G.blk 1 rfl; try have h2 := G.blk 2 rfl; try have h3 := G.blk 3 rfl; try have h4 := G.blk 4 rfl; try have h5 := G.blk 5 rfl
      obtain ⟨rx, a1, o1, l1⟩ := (G.at_.gd hc).ss
      have hlw := own_gs h G.sg.gs.kp hl1 rfl
      have hmw := own_gs h G.sg.gs.kp hm1 rfl
      (repeat refine Zlr ?_)
      refine s_app (v0 := q.y.v) (k := q.s.st.length) (m := 1) (size := 9) (bytes := 112) (base := 0) (xs := rx.flatMap stC) (news := stC ({ x with f := fr, e := pe X.E q.s }, .slice la ln lc, .slice ma mn mc)) rfl rfl rfl rfl rfl rfl rfl rfl o1 rfl (blk_cells h0) rfl rfl (by omega) (by omega) (Nat.zero_le _) ?_
      intro v w ap
      obtain ⟨a9, c9, e9, _⟩ := own_read ap.own
      subst e9
      have G := G.call (Sg.puty (x := { x with f := fr, e := pe X.E q.s }) G.at_ hc a1 o1 l1 hlw hl2 hmw hm2 hst ap)
      have h0 := G.blk 0 rfl; try have h1 := G.blk 1 rfl; try have h2 := G.blk 2 rfl; try have h3 := G.blk 3 rfl; try have h4 := G.blk 4 rfl; try have h5 := G.blk 5 rfl
      (repeat refine Zlr ?_)
      refine s_st (vs := [.slice a9 (q.s.st.length + 1) c9]) rfl rfl rfl rfl rfl h3 (Nat.le_of_ble_eq_true rfl) (fun w s => ?_)
      have s : Sb _ b (qc X { q with s := { q.s with st := q.s.st ++ [{ x with f := fr, e := pe X.E q.s }] }, y := ⟨a9, q.s.st.length + 1, c9⟩ }) _ w := s
      have G := G.put 3 rfl s rfl
      have h0 := G.blk 0 rfl; try have h1 := G.blk 1 rfl; try have h2 := G.blk 2 rfl; try have h3 := G.blk 3 rfl; try have h4 := G.blk 4 rfl; try have h5 := G.blk 5 rfl
      generalize hq' : ({ q with s := { q.s with st := q.s.st ++ [{ x with f := fr, e := pe X.E q.s }] }, y := ⟨a9, q.s.st.length + 1, c9⟩ } : Q) = q' at G h0 h1 h2 h3
      have hx' : q'.y.n = q.s.st.length + 1 ∧ q'.s = { q.s with st := q.s.st ++ [{ x with f := fr, e := pe X.E q.s }] } ∧ q'.c = 0 := by rw [← hq']; exact ⟨rfl, rfl, hc⟩
      have hb3 : b ≠ b3 := fun e => by
        have := G.nd 3 1 b _ _ _ _ rfl (by rw [e]; rfl)
        omega
      (repeat refine Zlr ?_)
      refine k_h (fun w' => Kp (fun i => i = b3) w w') [(0, false), (1, false), (2, false), (3, false), (4, false), (5, false), (6, true), (7, false)] 8 (by kernel_rfl) (waits_none) (by kernel_rfl) (by kernel_rfl) (by kernel_rfl) rfl (fun w4 k4 q4 => ?_)
      have k4' : Kp (fun i => i = b3) w w4 := k4.mono fun _ _ h => h.elim
      have G0 := G
      have G := G.no k4
      have h0 := G.blk 0 rfl; try have h1 := G.blk 1 rfl; try have h2 := G.blk 2 rfl; try have h3 := G.blk 3 rfl; try have h4 := G.blk 4 rfl; try have h5 := G.blk 5 rfl
      have hxn := hx'.1
      have hd := fun (w' : World) (hw : Kp (fun i => i = b3) _ w') => hw.get (G0.blk 3 rfl) (fun e => hb3 e)
      refine h_v k4' (fun w' hw => r_ldw rfl (hd w' hw) rfl rfl) ?_
      refine h_v k4' (fun w' hw => r_fa rfl rfl) ?_
      refine h_v k4' (fun w' hw => r_fa rfl rfl) ?_
      refine h_v k4' (fun w' hw => r_ld rfl rfl (cell_of_blk (hd w' hw) rfl)) ?_
      refine h_v k4' (fun w' hw => r_len rfl) ?_
      refine h_v k4' (fun w' hw => r_sub rfl rfl (by omega)) ?_
      refine h_st (vs := qc X q') rfl rfl rfl rfl rfl h1 (Nat.le_of_ble_eq_true rfl) (fun w5 s5 => ⟨fun _ => k4'.trans s5.kp fun _ _ h => h, ?_⟩)
      have s5 : Sb _ b3 (qc X q') _ w5 := s5
      have G := G.put 1 rfl s5 rfl
      have h0 := G.blk 0 rfl; try have h1 := G.blk 1 rfl; try have h2 := G.blk 2 rfl; try have h3 := G.blk 3 rfl; try have h4 := G.blk 4 rfl; try have h5 := G.blk 5 rfl
      have k5' : Kp (fun i => i = b3) _ w5 := k4'.trans s5.kp fun _ _ h => h
      refine h_v k5' (fun w' hw => r_as rfl) ?_
      refine h_nil ?_
      (repeat refine Zlr ?_)
      refine ret_c2 rfl (rv_agw rfl h1 rfl rfl) (rv_t rfl) ⟨q', _, rfl, G.sg, ?_⟩
      rw [stt_c hc, bind_ok, Sy.add, if_neg (by omega)]
      exact ⟨hx'.2.2, hx'.2.1, by rw [hxn]; show (q.s.st.length : Int) = _; omega⟩
  · refine s_set 11 false rfl (beq_eq_false_iff_ne.2 hc) ?_
    (repeat (first | refine Zlr ?_ | refine Zn ?_ | refine Zu ?_ | refine Zg ?_ | refine Zgl ?_))
    refine c_f rfl ?_
    (repeat refine Zlr ?_)
    refine c_t (by show Value.bool (q.c != 0) = _; rw [bne_iff_ne.2 hc]) ?_
    (repeat refine Zlr ?_)
    refine s_stw (vs := qc X q) rfl rfl rfl rfl rfl h0 rfl (fun w6 s6 => ?_)
    have G := G.put 0 rfl s6 rfl
    have h0 := G.blk 0 rfl; try have h1 := G.blk 1 rfl; try have h2 := G.blk 2 rfl; try have h3 := G.blk 3 rfl; try have h4 := G.blk 4 rfl; try have h5 := G.blk 5 rfl
    (repeat refine Zlr ?_)
    exact ret_c2 rfl (rv_agw rfl h0 rfl rfl) (rv_t rfl) ⟨q, 0, rfl, G.sg, by rw [stt_e hc]; exact hc⟩
end
end Go.Proofs.YtfnbgbeinmekgaaGreatDoor.Rf
namespace Go.Proofs.YtfnbgbeinmekgaaGreatDoor.Rf
open Go Go.RowKit Fw Sy
set_option linter.unusedVariables false
set_option maxRecDepth 20000
/-- A part, from a state on. -/
def On {α : Type} (q : Q) (g : PS → Rs α) : Rs α := (stt q).bind fun _ s => g s
section
variable {α β : Type} {q q1 q2 q' : Q} {g : PS → Rs α} {a : α} {b : β}
theorem On_c (h : q.c = 0) : On q g = g q.s := by rw [On, stt_c h, bind_ok]
theorem On_e (h : q.c ≠ 0) : On q g = .er q.c q.p := by rw [On, stt_e h, bind_er]
theorem On_ne (h : q.c = 0 → g q.s ≠ .out) : On q g ≠ .out := by
  by_cases hc : q.c = 0
  · rw [On_c hc]; exact h hc
  · rw [On_e hc]; exact fun e => by cases e
theorem Res.on (h : Res (On q g) q' a) (hc : q.c = 0) : Res (g q.s) q' a := by rw [On_c hc] at h; exact h
theorem Res.on_er (h : Res (On q g) q' a) (hc : q.c ≠ 0) : q'.c ≠ 0 := by rw [On_e hc] at h; exact h
theorem Res.up (h : Res (On q g) q' a) (hc : q'.c = 0) : q.c = 0 ∧ g q.s = .ok a q'.s := by
  by_cases h1 : q.c = 0
  · exact ⟨h1, (h.on h1).ok hc⟩
  · exact (h.on_er h1 hc).elim
theorem Res.next {r : Rs α} {f : α → PS → Rs β} (h : Res r q1 a) (hr : r.bind f ≠ .out) (hc : q1.c = 0) : f a q1.s ≠ .out := by
  rw [h.ok hc, bind_ok] at hr; exact hr
theorem Res.of_c (hc : q.c = 0) (h : Res (g q.s) q' a) : Res (On q g) q' a := by rw [On_c hc]; exact h
theorem Res.of_er (hc : q.c ≠ 0) (h : q'.c ≠ 0) : Res (On q g) q' a := by rw [On_e hc]; exact h
end
section
variable {X : Cr} {w : World} {q : Q}
theorem want_res (y : List Int) (hc : q.c = 0) : Res (Sy.want X.E y q.s) (wantQ X y q) () := by
  have h : Res (Rf.stt (wantQ X y q)) (wantQ X y q) () := Res.stt
  rw [stt_want, stt_c hc, bind_ok] at h
  exact h
theorem want_er {y : List Int} (h : q.c ≠ 0) : wantQ X y q = q := by rw [wantQ, if_neg (fun e => h e.1), failQ_er h]
theorem want_yes {y : List Int} (hc : q.c = 0) (h : wd X.E q.s = y) : wantQ X y q = { q with s := adv q.s } := if_pos ⟨hc, h⟩
theorem want_c {y : List Int} (h : (wantQ X y q).c = 0) : q.c = 0 ∧ wd X.E q.s = y ∧ wantQ X y q = { q with s := adv q.s } := by
  by_cases e : q.c = 0 ∧ wd X.E q.s = y
  · exact ⟨e.1, e.2, if_pos e⟩
  · rw [wantQ, if_neg e] at h; exact (failQ_c (by decide) h).elim
theorem kind_res (k : Int) (hc : q.c = 0) : Res (knd X.E k q.s) (kindQ X k q) (kindW X k q) := by
  have h := Res.kind (X := X) (q := q) (k := k) trivial
  rw [stt_c hc, bind_ok] at h
  exact h
theorem kind_er {k : Int} (h : q.c ≠ 0) : kindQ X k q = q ∧ kindW X k q = [] := ⟨by rw [kindQ, if_neg (fun e => h e.1), failQ_er h], if_neg fun e => h e.1⟩
theorem kind_c {k : Int} (h : (kindQ X k q).c = 0) : q.c = 0 ∧ kd X.E q.s = k ∧ kindQ X k q = { q with s := adv q.s } ∧ kindW X k q = wd X.E q.s := by
  by_cases e : q.c = 0 ∧ kd X.E q.s = k
  · exact ⟨e.1, e.2, if_pos e, if_pos e⟩
  · rw [kindQ, if_neg e] at h; exact (failQ_c (by decide) h).elim
theorem deep_res (d : Int) (hc : q.c = 0) : Res (Sy.deep X.E d q.s) (deepQ X d q) () := by
  have h : Res (Rf.stt (deepQ X d q)) (deepQ X d q) () := Res.stt
  rw [stt_deep, stt_c hc, bind_ok] at h
  exact h
theorem deep_er {d : Int} (h : q.c ≠ 0) : deepQ X d q = q := by
  rw [deepQ]; split
  · exact failQ_er h
  · rfl
theorem deep_c {d : Int} (h : (deepQ X d q).c = 0) : q.c = 0 ∧ d ≤ 64 ∧ deepQ X d q = q := by
  by_cases e : 64 < d
  · rw [deepQ, if_pos e] at h; exact (failQ_c (by decide) h).elim
  · have e1 : deepQ X d q = q := if_neg e
    rw [e1] at h
    exact ⟨h, by omega, e1⟩
theorem is_yes {y : List Int} (h : isQ X y q = true) : q.c = 0 ∧ wd X.E q.s = y := of_decide_eq_true h
theorem is_no {y : List Int} (h : isQ X y q = false) (hc : q.c = 0) : wd X.E q.s ≠ y := fun e => of_decide_eq_false h ⟨hc, e⟩
end
/-- Calls of small functions in a region that goes on. -/
structure Wk (X : Cr) (L : Lv) : Prop where
  row : ∀ (v : Nat) (d : Int) (q : Q) (w : World), v ≤ 5 → 0 ≤ d ∧ d ≤ 64 → Aq X w q → On q (L.row v d) ≠ .out → Ret Tryz.prog 125 [qv X q, .int .i64 (v : Int), .int .i64 d] w (RecS X w q (On q (L.row v d)))
  expr : ∀ (d : Int) (q : Q) (w : World), 0 ≤ d ∧ d ≤ 65 → Aq X w q → On q (L.expr d) ≠ .out → Ret Tryz.prog 110 [qv X q, .int .i64 d] w (RecS X w q (On q (L.expr d)))
  unary : ∀ (d : Int) (q : Q) (w : World), 0 ≤ d ∧ d ≤ 64 → Aq X w q → On q (L.unary d) ≠ .out → Ret Tryz.prog 135 [qv X q, .int .i64 d] w (RecS X w q (On q (L.unary d)))
  prim : ∀ (d : Int) (q : Q) (w : World), 0 ≤ d ∧ d ≤ 64 → Aq X w q → On q (L.prim d) ≠ .out → Ret Tryz.prog 145 [qv X q, .int .i64 d] w (RecS X w q (On q (L.prim d)))
  stmt : ∀ (d : Int) (q : Q) (w : World), 0 ≤ d ∧ d ≤ 64 → Aq X w q → On q (L.stmt d) ≠ .out → Ret Tryz.prog 92 [qv X q, .int .i64 d] w (RecS X w q (On q (L.stmt d)))
  branch : ∀ (fr d : Int) (q : Q) (w : World), 0 ≤ d ∧ d ≤ 65 → (q.c = 0 → d ≤ 64) → Aq X w q → On q (L.branch fr d) ≠ .out → Ret Tryz.prog 109 [qv X q, .int .i64 fr, .int .i64 d] w (RecS X w q (On q (L.branch fr d)))
def signQ (X : Cr) (v : Nat) (q : Q) : List Int := if q.c = 0 ∧ wd X.E q.s ∈ sgs v then wd X.E q.s else []
section
variable {X : Cr} {w : World} {q : Q} {L : Lv}
theorem signsF (v : Nat) (hv : v < 5) (w : World) : Ret Tryz.prog 146 [.int .i64 (v : Int)] w fun u w1 => ∃ b, u = .slice (some ⟨b, 0, none⟩) (sgB v).length (sgB v).length ∧ Nb w b ((sgB v).map Value.string) 9 w1 := by
  refine ret_enter Tryz.func146 rfl Tryz.ntmps146 rfl ?_
  (repeat refine Zlr ?_)
  match v, hv with
  | 0, _ =>
    refine c_t rfl ?_
    (repeat refine Zlr ?_)
    refine s_bs (cs := (sgB 0).map Value.string) (e := 9) rfl (fun b w n => ?_)
    (repeat refine Zlr ?_)
    exact ret_1 rfl rfl ⟨b, rfl, n⟩
  | 1, _ =>
    refine c_f rfl ?_
    (repeat refine Zlr ?_)
    refine c_t rfl ?_
    (repeat refine Zlr ?_)
    refine s_bs (cs := (sgB 1).map Value.string) (e := 9) rfl (fun b w n => ?_)
    (repeat refine Zlr ?_)
    exact ret_1 rfl rfl ⟨b, rfl, n⟩
  | 2, _ =>
    refine c_f rfl ?_
    (repeat refine Zlr ?_)
    refine c_f rfl ?_
    (repeat refine Zlr ?_)
    refine c_t rfl ?_
    (repeat refine Zlr ?_)
    refine s_bs (cs := (sgB 2).map Value.string) (e := 9) rfl (fun b w n => ?_)
    (repeat refine Zlr ?_)
    exact ret_1 rfl rfl ⟨b, rfl, n⟩
  | 3, _ =>
    refine c_f rfl ?_
    (repeat refine Zlr ?_)
    refine c_f rfl ?_
    (repeat refine Zlr ?_)
    refine c_f rfl ?_
    (repeat refine Zlr ?_)
    refine c_t rfl ?_
    (repeat refine Zlr ?_)
    refine s_bs (cs := (sgB 3).map Value.string) (e := 9) rfl (fun b w n => ?_)
    (repeat refine Zlr ?_)
    exact ret_1 rfl rfl ⟨b, rfl, n⟩
  | 4, _ =>
    refine c_f rfl ?_
    (repeat refine Zlr ?_)
    refine c_f rfl ?_
    (repeat refine Zlr ?_)
    refine c_f rfl ?_
    (repeat refine Zlr ?_)
    refine c_f rfl ?_
    (repeat refine Zlr ?_)
    refine s_bs (cs := (sgB 4).map Value.string) (e := 9) rfl (fun b w n => ?_)
    (repeat refine Zlr ?_)
    exact ret_1 rfl rfl ⟨b, rfl, n⟩
theorem signF (h : Aq X w q) (v : Nat) (hv : v < 5) : Ret Tryz.prog 136 [qv X q, .int .i64 (v : Int)] w fun u w1 => u = sv (signQ X v q) ∧ Kp No w w1 := by
  have hm := sgB_B v hv
  have hne := sgB_ne hv
  have hln := sgB_len hv
  refine ret_enter Tryz.func136 rfl Tryz.ntmps136 rfl ?_
  (repeat refine Zlr ?_)
  refine s_box (cs := qc X q) rfl rfl (fun b w1 n => ?_)
  have G := (Wb.start h).new n
  (repeat refine Zlr ?_)
  refine s_call (us := []) (zs := []) (by kernel_rfl) rfl rfl (signsF v hv w1) ?_
  rintro _ w2 ⟨lb, rfl, n2⟩
  have G := G.no n2.kp
  have k2 := n.kp.no n2.kp
  (repeat refine Zlr ?_)
  refine k_loop (σ := Nat) (fun i => [(2, .pointer (some ⟨b, 0, none⟩)), (5, .slice (some ⟨lb, 0, none⟩) (sgB v).length (sgB v).length), (10, .int .i64 ((sgB v).length : Int)), (11, .int .i64 (i : Int))])
    (fun i w' => i ≤ (sgB v).length ∧ Wb X w q w' q [(b, qc X q, Tp)] ∧ w'.heap[lb]? = some (.cells ((sgB v).map Value.string).toArray 9 (0, 0)) ∧ Kp No w w' ∧ ∀ (j : Nat) y, j < i → (sgB v)[j]? = some y → isQ X (B y) q = false) (fun i => (sgB v).length - i) 0 ⟨rfl, rfl, rfl, rfl, trivial⟩ ⟨Nat.zero_le _, G, n2.blk, k2, fun j y hj => by omega⟩ ?_
  rintro i l w3 ⟨hi, G, hl3, k3, hno⟩
  clear k2 n2
  have h0 := G.blk 0 rfl; try have h1 := G.blk 1 rfl; try have h2 := G.blk 2 rfl; try have h3 := G.blk 3 rfl; try have h4 := G.blk 4 rfl; try have h5 := G.blk 5 rfl
  (repeat refine Zlr ?_)
  refine c_dec rfl (fun hlt => ?_) (fun hge => ?_)
  · have hlt : i < (sgB v).length := by omega
    obtain ⟨y, hy⟩ : ∃ y, (sgB v)[i]? = some y := ⟨_, List.getElem?_eq_getElem hlt⟩
    have hyne : B y ≠ [] := fun e => hne (by rw [← e]; exact List.mem_map_of_mem (List.mem_of_getElem? hy))
    have hcell : ∀ w', Kp No w3 w' → w'.cell? ⟨lb, 0 + (i : Int).toNat * 1, none⟩ = some (.string y) := fun w' hw => by
      refine cell_of_blk (hw.get0 hl3) ?_
      rw [List.getElem?_map, show 0 + (i : Int).toNat * 1 = i by omega, hy]; rfl
    (repeat refine Zlr ?_)
    refine k_q (by kernel_rfl) (by kernel_rfl) ?_
    refine q_v (fun w' hw => r_ldw rfl (hw.get0 h0) rfl rfl) ?_
    (repeat (first | refine Zq ?_ | refine Zqn ?_ | refine Zqu ?_ | refine Zqg ?_))
    refine q_v (fun w' hw => r_ld rfl rfl (hcell w' hw)) ?_
    refine q_call (us := []) (zs := []) (v := .bool (isQ X (B y) q)) (by kernel_rfl) rfl rfl (fun w' hw => (isF (G.at_.no hw) y hyne).mono (by rintro _ w4 ⟨rfl, k4⟩; exact ⟨rfl, hw.no k4⟩)) ?_
    refine q_nil (fun w4 k4 => ?_)
    have G := G.no k4
    have hl4 := k4.get0 hl3
    have k4 := k3.no k4
    (repeat refine Zlr ?_)
    refine c_b rfl (fun hb => ?_) (fun hb => ?_)
    · have hc4 : w4.cell? ⟨lb, 0 + (i : Int).toNat * 1, none⟩ = some (.string y) := by
        refine cell_of_blk hl4 ?_
        rw [List.getElem?_map, show 0 + (i : Int).toNat * 1 = i by omega, hy]; rfl
      (repeat refine Zlr ?_)
      refine s_v (r_ia rfl rfl rfl rfl (by omega) (by omega)) ?_
      (repeat refine Zlr ?_)
      obtain ⟨hc, hw⟩ := is_yes hb
      refine ret_1 rfl rfl ⟨?_, k4⟩
      rw [signQ, if_pos ⟨hc, by rw [hw, ← hm]; exact List.mem_map_of_mem (List.mem_of_getElem? hy)⟩, hw, sv_B]
    · (repeat refine Zlr ?_)
      exact l_next (i + 1) ⟨rfl, rfl, rfl, rfl, trivial⟩ ⟨hlt, G, hl4, k4, fun j z hj hz => by
        rcases Nat.lt_or_ge j i with h1 | h1
        · exact hno j z h1 hz
        · have : j = i := by omega
          subst this
          rw [hy] at hz; cases hz
          exact hb⟩ (by omega)
  · (repeat refine Zlr ?_)
    refine ret_1 rfl rfl ⟨?_, k3⟩
    rw [signQ, if_neg]
    · rfl
    · rintro ⟨hc, hw⟩
      rw [← hm] at hw
      obtain ⟨y, hy, e⟩ := List.mem_map.1 hw
      obtain ⟨j, hj⟩ := List.getElem?_of_mem hy
      have hjl := (List.getElem?_eq_some_iff.1 hj).1
      exact is_no (hno j y (by omega) hj) hc e.symm
end
end Go.Proofs.YtfnbgbeinmekgaaGreatDoor.Rf
namespace Go.Proofs.YtfnbgbeinmekgaaGreatDoor.Rf
open Go Go.RowKit Fw Sy
set_option linter.unusedVariables false
set_option maxRecDepth 20000
section
variable {X : Cr} {w : World} {q : Q} {L : Lv}
theorem nz_sv {l : List Int} (hl : ∀ c ∈ l, 0 ≤ c ∧ c < 256) (hn : l ≠ []) : (!((strOfNums l).toList == (⟨#[]⟩ : ByteArray).toList)) = true := by
  rw [str_eq, B_nums hl, decide_eq_false (show ¬ l = B ⟨#[]⟩ from fun e => hn e)]; rfl
theorem ez_sv : (!((strOfNums []).toList == (⟨#[]⟩ : ByteArray).toList)) = false := by
  rw [str_eq, B_nums (fun c hc => by cases hc)]; rfl
theorem isW (h : Aq X w q) (l : List Int) (hl : l.all (fun c => decide (0 ≤ c) && decide (c < 256)) = true) (hn : l ≠ []) : Ret Tryz.prog 57 [qv X q, .string (Tk.strOf l)] w fun v w1 => v = .bool (isQ X l q) ∧ Kp No w w1 := by
  have e := B_of hl
  have := isF h (Tk.strOf l) (by rw [e]; exact hn)
  rwa [e] at this
theorem wantW (h : Aq X w q) (l : List Int) (hl : l.all (fun c => decide (0 ≤ c) && decide (c < 256)) = true) (hn : l ≠ []) : Ret Tryz.prog 60 [qv X q, .string (Tk.strOf l)] w fun v w1 => v = qv X (wantQ X l q) ∧ Kp No w w1 := by
  have e := B_of hl
  have := wantF h (Tk.strOf l) (by rw [e]; exact hn)
  rwa [e] at this
theorem bind_ne' {α β : Type} {r : Rs α} {g : α → PS → Rs β} (h : r.bind g ≠ .out) : r ≠ .out := by
  rintro rfl; exact h rfl
theorem Wb.mv {w0 : World} {q0 q' : Q} {l : List (Nat × List Value × TypeId)} (G : Wb X w0 q0 w q l) (k : Sg X w q w q') : Wb X w0 q0 w q' l := G.call k
theorem Wb.drop {w0 : World} {q0 : Q} {l : List (Nat × List Value × TypeId)} (G : Wb X w0 q0 w q l) (k : Nat) : Wb X w0 q0 w q (l.drop k) :=
  ⟨G.sg, fun i b cs T h => G.bx (k + i) b cs T (by rw [← List.getElem?_drop]; exact h), fun i j b cs cs' T T' h h' => by
    have := G.nd (k + i) (k + j) b cs cs' T T' (by rw [← List.getElem?_drop]; exact h) (by rw [← List.getElem?_drop]; exact h')
    omega⟩
theorem exprF (hL : Wk X L) (d : Int) (hd : 0 ≤ d ∧ d ≤ 65) (h : Aq X w q) (hr : On q (sExpr X.E L d) ≠ .out) : Ret Tryz.prog 110 [qv X q, .int .i64 d] w (RecS X w q (On q (sExpr X.E L d))) := by
  refine ret_enter Tryz.func110 rfl Tryz.ntmps110 rfl ?_
  (repeat refine Zlr ?_)
  refine s_box (cs := qc X q) rfl rfl (fun b w n => ?_)
  have G := (Wb.start h).new n
  (repeat refine Zlr ?_)
  refine s_al rfl (fun b2 w n2 => ?_)
  have G := G.new n2
  have h0 := G.blk 0 rfl; try have h1 := G.blk 1 rfl; try have h2 := G.blk 2 rfl; try have h3 := G.blk 3 rfl; try have h4 := G.blk 4 rfl; try have h5 := G.blk 5 rfl
  (repeat refine Zlr ?_)
  refine s_call (us := []) (zs := []) (by kernel_rfl) rfl rfl (deepF G.at_ d) ?_
  rintro _ w ⟨rfl, k⟩
  have G := (G.no k).mv (Sg.deep (G.no k).at_ (d := d))
  have h0 := G.blk 0 rfl; try have h1 := G.blk 1 rfl; try have h2 := G.blk 2 rfl; try have h3 := G.blk 3 rfl; try have h4 := G.blk 4 rfl; try have h5 := G.blk 5 rfl
  (repeat refine Zlr ?_)
  refine s_stw (vs := qc X (deepQ X d q)) rfl rfl rfl rfl rfl h1 rfl (fun w s => ?_)
  have G := G.put 1 rfl s rfl
  have h0 := G.blk 0 rfl; try have h1 := G.blk 1 rfl; try have h2 := G.blk 2 rfl; try have h3 := G.blk 3 rfl; try have h4 := G.blk 4 rfl; try have h5 := G.blk 5 rfl
  (repeat refine Zlr ?_)
  by_cases hc : (deepQ X d q).c = 0
  · obtain ⟨hc0, hd64, e⟩ := deep_c hc
    refine c_f (by show Value.bool ((deepQ X d q).c != 0) = _; rw [bne_eq_false_iff_eq.2 hc]) ?_
    (repeat refine Zlr ?_)
    have hne : On (deepQ X d q) (L.row 0 d) ≠ .out := On_ne fun _ => by
      rw [On_c hc0] at hr
      exact (deep_res d hc0).next hr hc
    refine s_call (us := []) (zs := []) (by kernel_rfl) rfl rfl (hL.row 0 d _ _ (by omega) ⟨hd.1, hd64⟩ G.at_ hne) ?_
    rintro _ w ⟨q2, a, rfl, g2, r2⟩
    have G := G.call g2
    have h0 := G.blk 0 rfl; try have h1 := G.blk 1 rfl; try have h2 := G.blk 2 rfl; try have h3 := G.blk 3 rfl; try have h4 := G.blk 4 rfl; try have h5 := G.blk 5 rfl
    (repeat refine Zlr ?_)
    refine s_stw (vs := qc X q2) rfl rfl rfl rfl rfl h0 rfl (fun w s => ?_)
    have G := G.put 0 rfl s rfl
    have h0 := G.blk 0 rfl; try have h1 := G.blk 1 rfl; try have h2 := G.blk 2 rfl; try have h3 := G.blk 3 rfl; try have h4 := G.blk 4 rfl; try have h5 := G.blk 5 rfl
    (repeat refine Zlr ?_)
    refine ret_c2 rfl (rv_agw rfl h0 rfl rfl) (rv_t rfl) ⟨q2, a, rfl, G.sg, ?_⟩
    refine Res.of_c hc0 ?_
    refine (deep_res d hc0).bind (fun hc => r2.on hc) fun hc' => (hc' hc).elim
  · refine c_t (by show Value.bool ((deepQ X d q).c != 0) = _; rw [bne_iff_ne.2 hc]) ?_
    (repeat refine Zlr ?_)
    refine s_stw (vs := qc X (deepQ X d q)) rfl rfl rfl rfl rfl h0 rfl (fun w s => ?_)
    have G := G.put 0 rfl s rfl
    have h0 := G.blk 0 rfl; try have h1 := G.blk 1 rfl; try have h2 := G.blk 2 rfl; try have h3 := G.blk 3 rfl; try have h4 := G.blk 4 rfl; try have h5 := G.blk 5 rfl
    (repeat refine Zlr ?_)
    refine ret_c2 rfl (rv_agw rfl h0 rfl rfl) (rv_t rfl) ⟨deepQ X d q, 0, rfl, G.sg, ?_⟩
    by_cases hc0 : q.c = 0
    · refine Res.of_c hc0 ?_
      exact (deep_res d hc0).bind (fun h => (hc h).elim) fun h => h
    · exact Res.of_er hc0 hc
structure RowS where
  m : Nat
  a : Int
  q : Q
set_option maxHeartbeats 1000000 in
theorem rowF {w0 : World} {N : Nat} (hW : ∀ m, m ≤ N → Wk X (lv X.E m)) (v : Nat) (d : Int) (hv : v ≤ 5) (hd : 0 ≤ d ∧ d ≤ 64) (h : Aq X w0 q) (hr : On q (sRow X.E (lv X.E N) v d) ≠ .out) : Ret Tryz.prog 125 [qv X q, .int .i64 (v : Int), .int .i64 d] w0 (RecS X w0 q (On q (sRow X.E (lv X.E N) v d))) := by
  refine ret_enter Tryz.func125 rfl Tryz.ntmps125 rfl ?_
  (repeat refine Zlr ?_)
  refine s_box (cs := qc X q) rfl rfl (fun b w n => ?_)
  have G := (Wb.start h).new n
  (repeat refine Zlr ?_)
  refine s_al rfl (fun b2 w n2 => ?_)
  have G := G.new n2
  have h0 := G.blk 0 rfl; try have h1 := G.blk 1 rfl; try have h2 := G.blk 2 rfl; try have h3 := G.blk 3 rfl; try have h4 := G.blk 4 rfl; try have h5 := G.blk 5 rfl
  (repeat refine Zlr ?_)
  refine c_eq rfl (fun hv5 => ?_) (fun hv5 => ?_)
  · have e : v = 5 := by omega
    have es : sRow X.E (lv X.E N) v d = (lv X.E N).unary d := by funext s; unfold sRow; rw [if_pos e]
    rw [es] at hr ⊢
    (repeat refine Zlr ?_)
    refine s_call (us := []) (zs := []) (by kernel_rfl) rfl rfl ((hW N (Nat.le_refl _)).unary d q _ hd G.at_ hr) ?_
    rintro _ w ⟨q2, a, rfl, g2, r2⟩
    have G := G.call g2
    have h0 := G.blk 0 rfl; try have h1 := G.blk 1 rfl; try have h2 := G.blk 2 rfl; try have h3 := G.blk 3 rfl; try have h4 := G.blk 4 rfl; try have h5 := G.blk 5 rfl
    (repeat refine Zlr ?_)
    refine s_stw (vs := qc X q2) rfl rfl rfl rfl rfl h0 rfl (fun w s => ?_)
    have G := G.put 0 rfl s rfl
    have h0 := G.blk 0 rfl; try have h1 := G.blk 1 rfl; try have h2 := G.blk 2 rfl; try have h3 := G.blk 3 rfl; try have h4 := G.blk 4 rfl; try have h5 := G.blk 5 rfl
    (repeat refine Zlr ?_)
    exact ret_c2 rfl (rv_agw rfl h0 rfl rfl) (rv_t rfl) ⟨q2, a, rfl, G.sg, r2⟩
  · have hv5 : v < 5 := by omega
    have es : sRow X.E (lv X.E N) v d = fun s => ((lv X.E N).row (v + 1) d s).bind fun a s1 => (lv X.E N).rows v d (Sy.hr X.E s) a s1 := by funext s; unfold sRow; rw [if_neg (by omega)]
    rw [es] at hr ⊢
    (repeat refine Zlr ?_)
    refine s_call (us := []) (zs := []) (by kernel_rfl) rfl rfl (hereF G.at_) ?_
    rintro _ w ⟨rfl, k⟩
    have G := G.no k
    have h0 := G.blk 0 rfl; try have h1 := G.blk 1 rfl; try have h2 := G.blk 2 rfl; try have h3 := G.blk 3 rfl; try have h4 := G.blk 4 rfl; try have h5 := G.blk 5 rfl
    obtain ⟨fr, hfr⟩ : ∃ fr, Sy.hr X.E q.s = fr := ⟨_, rfl⟩
    (repeat refine Zlr ?_)
    have hne : On q ((lv X.E N).row (v + 1) d) ≠ .out := On_ne fun hc => by
      rw [On_c hc] at hr
      exact bind_ne' hr
    refine s_call (us := []) (zs := []) (by kernel_rfl) rfl rfl ((hW N (Nat.le_refl _)).row (v + 1) d q _ (by omega) hd G.at_ hne) ?_
    rintro _ w ⟨q2, a, rfl, g2, r2⟩
    have G := G.call g2
    have h0 := G.blk 0 rfl; try have h1 := G.blk 1 rfl; try have h2 := G.blk 2 rfl; try have h3 := G.blk 3 rfl; try have h4 := G.blk 4 rfl; try have h5 := G.blk 5 rfl
    obtain ⟨R, hR⟩ : ∃ R, On q (fun s => ((lv X.E N).row (v + 1) d s).bind fun a s1 => (lv X.E N).rows v d (Sy.hr X.E s) a s1) = R := ⟨_, rfl⟩
    have hI : ∀ q' a', Res (On q2 ((lv X.E N).rows v d fr a)) q' a' → Res R q' a' := fun q' a' r => by
      rw [← hR]
      by_cases hc : q.c = 0
      · refine Res.of_c hc ?_
        rw [hfr]
        exact (r2.on hc).bind (fun hc2 => r.on hc2) fun hc2 => r.on_er hc2
      · exact Res.of_er hc (r.on_er (r2.on_er hc))
    have hN : On q2 ((lv X.E N).rows v d fr a) ≠ .out := On_ne fun hc2 => by
      obtain ⟨hc, e⟩ := r2.up hc2
      rw [On_c hc, hfr] at hr
      exact (r2.on hc).next hr hc2
    rw [hR]
    clear hr hR r2 g2 hne es
    (repeat refine Zlr ?_)
    refine s_stw (vs := qc X q2) rfl rfl rfl rfl rfl h1 rfl (fun w s => ?_)
    have G := G.put 1 rfl s rfl
    have h0 := G.blk 0 rfl; try have h1 := G.blk 1 rfl; try have h2 := G.blk 2 rfl; try have h3 := G.blk 3 rfl; try have h4 := G.blk 4 rfl; try have h5 := G.blk 5 rfl
    (repeat refine Zlr ?_)
    refine k_loop (σ := RowS) (fun x => [(1, .int .i64 (v : Int)), (2, .int .i64 d), (3, .pointer (some ⟨b, 0, none⟩)), (6, .pointer (some ⟨b2, 0, none⟩)), (8, .int .i64 fr), (9, .int .i64 x.a)])
      (fun x w' => x.m ≤ N ∧ (∃ cs, cs.length = 8 ∧ Wb X w0 q w' x.q [(b2, cs, Tp), (b, qc X x.q, Tp)]) ∧ (∀ q' a', Res (On x.q ((lv X.E x.m).rows v d fr x.a)) q' a' → Res R q' a') ∧ On x.q ((lv X.E x.m).rows v d fr x.a) ≠ .out) (fun x => x.m) ⟨N, a, q2⟩ ⟨rfl, rfl, rfl, rfl, (by rw [← hfr]; rfl), rfl, trivial⟩ ⟨Nat.le_refl _, ⟨_, rfl, G⟩, hI, hN⟩ ?_
    clear hI hN G h0 h1
    rintro ⟨m, a, q3⟩ l w ⟨hm, ⟨cs, hcs, G⟩, hI, hN⟩
    simp only at hm G hI hN
    have h0 := G.blk 0 rfl; try have h1 := G.blk 1 rfl; try have h2 := G.blk 2 rfl; try have h3 := G.blk 3 rfl; try have h4 := G.blk 4 rfl; try have h5 := G.blk 5 rfl
    (repeat refine Zlr ?_)
    refine s_call (us := []) (zs := []) (by kernel_rfl) rfl rfl (signF G.at_ v hv5) ?_
    rintro _ w ⟨rfl, k⟩
    have G := G.no k
    have h0 := G.blk 0 rfl; try have h1 := G.blk 1 rfl; try have h2 := G.blk 2 rfl; try have h3 := G.blk 3 rfl; try have h4 := G.blk 4 rfl; try have h5 := G.blk 5 rfl
    (repeat refine Zlr ?_)
    by_cases hs : q3.c = 0 ∧ wd X.E q3.s ∈ sgs v
    · have es : signQ X v q3 = wd X.E q3.s := if_pos hs
      have hnn : wd X.E q3.s ≠ [] := fun e => sgB_ne hv5 (by rw [sgB_B v hv5, ← e]; exact hs.2)
      rw [es]
      refine c_t (congrArg Value.bool (nz_sv G.at_.wd_rng hnn)) ?_
      (repeat refine Zlr ?_)
      refine s_call (us := []) (zs := []) (by kernel_rfl) rfl rfl (signF G.at_ v hv5) ?_
      rintro _ w ⟨rfl, k⟩
      rw [es]
      have G := G.no k
      have h0 := G.blk 0 rfl; try have h1 := G.blk 1 rfl; try have h2 := G.blk 2 rfl; try have h3 := G.blk 3 rfl; try have h4 := G.blk 4 rfl; try have h5 := G.blk 5 rfl
      have hsm := G.at_.small
      have hxl := (G.at_.gd hs.1).xl
      (repeat refine Zlr ?_)
      refine s_st (vs := [.int .i64 ((q3.s.i : Int) + 1)]) rfl rfl rfl rfl rfl h1 (Nat.le_of_ble_eq_true rfl) (fun w s => ?_)
      have s : Sb _ b (qc X { q3 with s := adv q3.s }) Tp w := s
      have G := (G.put 1 rfl s rfl).mv (Sg.adv (G.put 1 rfl s rfl).at_ (.inl hnn))
      have h0 := G.blk 0 rfl; try have h1 := G.blk 1 rfl; try have h2 := G.blk 2 rfl; try have h3 := G.blk 3 rfl; try have h4 := G.blk 4 rfl; try have h5 := G.blk 5 rfl
      (repeat refine Zlr ?_)
      cases m with
      | zero => exact (hN (by rw [On_c hs.1]; rfl)).elim
      | succ m =>
      have eR : ∀ s, (lv X.E (m + 1)).rows v d fr a s = sRows X.E (lv X.E m) v d fr a s := fun _ => rfl
      rw [On_c hs.1, eR, sRows, if_pos hs.2] at hN
      have hne : On { q3 with s := adv q3.s } ((lv X.E m).row (v + 1) d) ≠ .out := On_ne fun _ => bind_ne' hN
      refine s_call (us := []) (zs := []) (by kernel_rfl) rfl rfl ((hW m (by omega)).row (v + 1) d _ _ (by omega) hd G.at_ hne) ?_
      rintro _ w ⟨q4, b4, rfl, g4, r4⟩
      have G := G.call g4
      (repeat refine Zlr ?_)
      refine s_al rfl (fun b5 w n5 => ?_)
      have G := G.new n5
      have h0 := G.blk 0 rfl; try have h1 := G.blk 1 rfl; try have h2 := G.blk 2 rfl; try have h3 := G.blk 3 rfl; try have h4 := G.blk 4 rfl; try have h5 := G.blk 5 rfl
      (repeat refine Zlr ?_)
      refine s_stw (vs := qc X q4) rfl rfl rfl rfl rfl h0 rfl (fun w s => ?_)
      have G := G.put 0 rfl s rfl
      have h0 := G.blk 0 rfl; try have h1 := G.blk 1 rfl; try have h2 := G.blk 2 rfl; try have h3 := G.blk 3 rfl; try have h4 := G.blk 4 rfl; try have h5 := G.blk 5 rfl
      (repeat refine Zlr ?_)
      have r4' := r4.on (q := { q3 with s := adv q3.s }) hs.1
      have hP : On q4 (Sy.put X.E fr { k := 9, op := wd X.E q3.s, a := a, b := b4 }) ≠ .out := On_ne fun _ => put_no
      refine s_call (us := []) (zs := []) (by kernel_rfl) rfl rfl (putF G.at_ fr { k := 9, op := wd X.E q3.s, a := a, b := b4 } none 0 0 fun hc4 => ⟨LI.nil, Ow.nil, by
        have u := (bd_lv (E := X.E) m).row _ _ _ _ _ (r4'.ok hc4)
        have e1 : (adv q3.s).i = q3.s.i + 1 := rfl
        have e2 : (adv q3.s).ex = q3.s.ex := rfl
        unfold Up at u
        rw [e1, e2] at u
        omega⟩) ?_
      rintro _ w ⟨q5, c5, rfl, g5, r5⟩
      have G := G.call g5
      (repeat refine Zlr ?_)
      refine s_al rfl (fun b6 w n6 => ?_)
      have G := G.new n6
      have h0 := G.blk 0 rfl; try have h1 := G.blk 1 rfl; try have h2 := G.blk 2 rfl; try have h3 := G.blk 3 rfl; try have h4 := G.blk 4 rfl; try have h5 := G.blk 5 rfl
      (repeat refine Zlr ?_)
      refine s_stw (vs := qc X q5) rfl rfl rfl rfl rfl h0 rfl (fun w s => ?_)
      have G := G.put 0 rfl s rfl
      have h0 := G.blk 0 rfl; try have h1 := G.blk 1 rfl; try have h2 := G.blk 2 rfl; try have h3 := G.blk 3 rfl; try have h4 := G.blk 4 rfl; try have h5 := G.blk 5 rfl
      (repeat refine Zlr ?_)
      refine s_stw (vs := qc X q5) rfl rfl rfl rfl rfl h3 rfl (fun w s => ?_)
      have G := G.put 3 rfl s rfl
      have h0 := G.blk 0 rfl; try have h1 := G.blk 1 rfl; try have h2 := G.blk 2 rfl; try have h3 := G.blk 3 rfl; try have h4 := G.blk 4 rfl; try have h5 := G.blk 5 rfl
      (repeat refine Zlr ?_)
      refine c_eq rfl (fun hv2 => ?_) (fun hv2 => ?_)
      · have hv2 : v = 2 := by omega
        (repeat refine Zlr ?_)
        refine s_stw (vs := qc X q5) rfl rfl rfl rfl rfl h2 hcs (fun w s => ?_)
        have G := G.put 2 rfl s rfl
        have h0 := G.blk 0 rfl; try have h1 := G.blk 1 rfl; try have h2 := G.blk 2 rfl; try have h3 := G.blk 3 rfl; try have h4 := G.blk 4 rfl; try have h5 := G.blk 5 rfl
        (repeat refine Zlr ?_)
        refine ret_c2 rfl (rv_agw rfl h2 rfl rfl) (rv_t rfl) ⟨q5, c5, rfl, G.sg, hI _ _ ?_⟩
        refine Res.of_c hs.1 ?_
        rw [eR, sRows, if_pos hs.2]
        refine r4'.bind (fun hc4 => (r5.on hc4).bind (fun hc5 => ?_) fun h => h) fun hc4 => r5.on_er hc4
        rw [if_pos hv2]; exact ⟨hc5, rfl, rfl⟩
      · have hv2 : v ≠ 2 := by omega
        (repeat refine Zlr ?_)
        refine l_next ⟨m, c5, q5⟩ ⟨rfl, rfl, rfl, rfl, rfl, rfl, trivial⟩ ⟨by simp only; omega, ⟨cs, hcs, ?_⟩, fun q' a' r => hI _ _ ?_, ?_⟩ (by simp)
        · exact G.drop 2
        · refine Res.of_c hs.1 ?_
          rw [eR, sRows, if_pos hs.2]
          refine r4'.bind (fun hc4 => (r5.on hc4).bind (fun hc5 => ?_) fun h => r.on_er h) fun hc4 => r.on_er (r5.on_er hc4)
          rw [if_neg hv2]; exact r.on hc5
        · refine On_ne fun hc5 => ?_
          obtain ⟨hc4, _⟩ := r5.up hc5
          have h1 := (r5.on hc4).next (r4'.next hN hc4) hc5
          rw [if_neg hv2] at h1
          exact h1
    · have es : signQ X v q3 = [] := if_neg hs
      rw [es]
      refine c_f (congrArg Value.bool ez_sv) ?_
      (repeat refine Zlr ?_)
      refine s_stw (vs := qc X q3) rfl rfl rfl rfl rfl h0 hcs (fun w s => ?_)
      have G := G.put 0 rfl s rfl
      have h0 := G.blk 0 rfl; try have h1 := G.blk 1 rfl; try have h2 := G.blk 2 rfl; try have h3 := G.blk 3 rfl; try have h4 := G.blk 4 rfl; try have h5 := G.blk 5 rfl
      (repeat refine Zlr ?_)
      refine ret_c2 rfl (rv_agw rfl h0 rfl rfl) (rv_t rfl) ⟨q3, a, rfl, G.sg, hI _ _ ?_⟩
      by_cases hc : q3.c = 0
      · refine Res.of_c hc ?_
        cases m with
        | zero => exact (hN (by rw [On_c hc]; rfl)).elim
        | succ m =>
          show Res (sRows X.E (lv X.E m) v d fr a q3.s) q3 a
          rw [sRows, if_neg (fun e => hs ⟨hc, e⟩)]
          exact ⟨hc, rfl, rfl⟩
      · exact Res.of_er hc hc
set_option maxHeartbeats 1000000 in
theorem unaryF (hB : Bd L) (hL : Wk X L) (d : Int) (hd : 0 ≤ d ∧ d ≤ 64) (h : Aq X w q) (hr : On q (sUnary X.E L d) ≠ .out) : Ret Tryz.prog 135 [qv X q, .int .i64 d] w (RecS X w q (On q (sUnary X.E L d))) := by
  refine ret_enter Tryz.func135 rfl Tryz.ntmps135 rfl ?_
  (repeat refine Zlr ?_)
  refine s_box (cs := qc X q) rfl rfl (fun b w n => ?_)
  have G := (Wb.start h).new n
  (repeat refine Zlr ?_)
  refine s_al rfl (fun b2 w n2 => ?_)
  have G := G.new n2
  have h0 := G.blk 0 rfl; try have h1 := G.blk 1 rfl; try have h2 := G.blk 2 rfl; try have h3 := G.blk 3 rfl; try have h4 := G.blk 4 rfl; try have h5 := G.blk 5 rfl
  (repeat refine Zlr ?_)
  refine s_call (us := []) (zs := []) (by kernel_rfl) rfl rfl (hereF G.at_) ?_
  rintro _ w ⟨rfl, k⟩
  have G := G.no k
  have h0 := G.blk 0 rfl; try have h1 := G.blk 1 rfl; try have h2 := G.blk 2 rfl; try have h3 := G.blk 3 rfl; try have h4 := G.blk 4 rfl; try have h5 := G.blk 5 rfl
  (repeat refine Zlr ?_)
  by_cases hc : q.c = 0
  · refine s_set 15 false rfl (bne_eq_false_iff_eq.2 hc) ?_
    (repeat (first | refine Zlr ?_ | refine Zn ?_ | refine Zu ?_ | refine Zg ?_ | refine Zgl ?_))
    refine s_gcall (us := []) (zs := []) rfl (by kernel_rfl) rfl rfl (isW G.at_ wMinus (by decide) (by decide)) ?_
    rintro _ w ⟨rfl, k⟩
    have G := G.no k
    have h0 := G.blk 0 rfl; try have h1 := G.blk 1 rfl; try have h2 := G.blk 2 rfl; try have h3 := G.blk 3 rfl; try have h4 := G.blk 4 rfl; try have h5 := G.blk 5 rfl
    (repeat (first | refine Zlr ?_ | refine Zn ?_ | refine Zu ?_ | refine Zg ?_ | refine Zgl ?_))
    cases hm : isQ X wMinus q with
    | true =>
      refine s_set 19 false rfl rfl ?_
      (repeat (first | refine Zlr ?_ | refine Zn ?_ | refine Zu ?_ | refine Zg ?_ | refine Zgl ?_))
      refine c_f rfl ?_
      have hw := (is_yes hm).2
      have hnn : wd X.E q.s ≠ [] := by rw [hw]; decide
      have hor : wd X.E q.s = wMinus ∨ wd X.E q.s = wNot := .inl hw
      have eU : On q (sUnary X.E L d) = (Sy.deep X.E (d + 1) (adv q.s)).bind fun _ s1 => (L.unary (d + 1) s1).bind fun a s2 => Sy.put X.E (Sy.hr X.E q.s) { k := 8, op := wd X.E q.s, a := a } s2 := by
        rw [On_c hc, sUnary, if_pos hor]
      rw [eU] at hr ⊢
      (repeat refine Zlr ?_)
      refine s_call (us := []) (zs := []) (by kernel_rfl) rfl rfl (wordF G.at_) ?_
      rintro _ w ⟨rfl, k⟩
      have G := G.no k
      have h0 := G.blk 0 rfl; try have h1 := G.blk 1 rfl; try have h2 := G.blk 2 rfl; try have h3 := G.blk 3 rfl; try have h4 := G.blk 4 rfl; try have h5 := G.blk 5 rfl
      have hsm := G.at_.small
      have hxl := (G.at_.gd hc).xl
      (repeat refine Zlr ?_)
      refine s_st (vs := [.int .i64 ((q.s.i : Int) + 1)]) rfl rfl rfl rfl rfl h1 (Nat.le_of_ble_eq_true rfl) (fun w s => ?_)
      have s : Sb _ b (qc X { q with s := adv q.s }) Tp w := s
      have G := (G.put 1 rfl s rfl).mv (Sg.adv (G.put 1 rfl s rfl).at_ (.inl hnn))
      have h0 := G.blk 0 rfl; try have h1 := G.blk 1 rfl; try have h2 := G.blk 2 rfl; try have h3 := G.blk 3 rfl; try have h4 := G.blk 4 rfl; try have h5 := G.blk 5 rfl
      (repeat refine Zlr ?_)
      obtain ⟨q1, hq1⟩ : ∃ q1 : Q, { q with s := adv q.s } = q1 := ⟨_, rfl⟩
      have hc1 : q1.c = 0 := by rw [← hq1]; exact hc
      have hs1 : q1.s = adv q.s := by rw [← hq1]
      rw [hq1] at G h1 ⊢
      rw [← hs1] at hr ⊢
      refine s_call (us := []) (zs := []) (by kernel_rfl) rfl rfl (deepF G.at_ (d + 1)) ?_
      rintro _ w ⟨rfl, k⟩
      have G := (G.no k).mv (Sg.deep (G.no k).at_ (d := d + 1))
      have h0 := G.blk 0 rfl; try have h1 := G.blk 1 rfl; try have h2 := G.blk 2 rfl; try have h3 := G.blk 3 rfl; try have h4 := G.blk 4 rfl; try have h5 := G.blk 5 rfl
      (repeat refine Zlr ?_)
      refine s_stw (vs := qc X (deepQ X (d + 1) q1)) rfl rfl rfl rfl rfl h1 rfl (fun w s => ?_)
      have G := G.put 1 rfl s rfl
      have h0 := G.blk 0 rfl; try have h1 := G.blk 1 rfl; try have h2 := G.blk 2 rfl; try have h3 := G.blk 3 rfl; try have h4 := G.blk 4 rfl; try have h5 := G.blk 5 rfl
      (repeat refine Zlr ?_)
      by_cases hc2 : (deepQ X (d + 1) q1).c = 0
      · obtain ⟨_, hd64, e2⟩ := deep_c hc2
        have hN := (deep_res (d + 1) hc1).next hr hc2
        refine c_f (by show Value.bool ((deepQ X (d + 1) q1).c != 0) = _; rw [bne_eq_false_iff_eq.2 hc2]) ?_
        (repeat refine Zlr ?_)
        refine s_call (us := []) (zs := []) (by kernel_rfl) rfl rfl (hL.unary (d + 1) _ _ ⟨by omega, hd64⟩ G.at_ (On_ne fun _ => bind_ne' hN)) ?_
        rintro _ w ⟨q2, a, rfl, g2, r2⟩
        have G := G.call g2
        (repeat refine Zlr ?_)
        refine s_al rfl (fun b5 w n5 => ?_)
        have G := G.new n5
        have h0 := G.blk 0 rfl; try have h1 := G.blk 1 rfl; try have h2 := G.blk 2 rfl; try have h3 := G.blk 3 rfl; try have h4 := G.blk 4 rfl; try have h5 := G.blk 5 rfl
        (repeat refine Zlr ?_)
        refine s_stw (vs := qc X q2) rfl rfl rfl rfl rfl h0 rfl (fun w s => ?_)
        have G := G.put 0 rfl s rfl
        have h0 := G.blk 0 rfl; try have h1 := G.blk 1 rfl; try have h2 := G.blk 2 rfl; try have h3 := G.blk 3 rfl; try have h4 := G.blk 4 rfl; try have h5 := G.blk 5 rfl
        (repeat refine Zlr ?_)
        refine s_call (us := []) (zs := []) (by kernel_rfl) rfl rfl (putF G.at_ (Sy.hr X.E q.s) { k := 8, op := wd X.E q.s, a := a } none 0 0 fun hc4 => ⟨LI.nil, Ow.nil, by
          have u := hB.unary _ _ _ _ ((r2.on hc2).ok hc4)
          rw [e2, hs1] at u
          have e1 : (adv q.s).i = q.s.i + 1 := rfl
          have e2 : (adv q.s).ex = q.s.ex := rfl
          unfold Up at u
          rw [e1, e2] at u
          omega⟩) ?_
        rintro _ w ⟨q3, c3, rfl, g3, r3⟩
        have G := G.call g3
        have h0 := G.blk 0 rfl; try have h1 := G.blk 1 rfl; try have h2 := G.blk 2 rfl; try have h3 := G.blk 3 rfl; try have h4 := G.blk 4 rfl; try have h5 := G.blk 5 rfl
        (repeat refine Zlr ?_)
        refine s_stw (vs := qc X q3) rfl rfl rfl rfl rfl h1 rfl (fun w s => ?_)
        have G := G.put 1 rfl s rfl
        have h0 := G.blk 0 rfl; try have h1 := G.blk 1 rfl; try have h2 := G.blk 2 rfl; try have h3 := G.blk 3 rfl; try have h4 := G.blk 4 rfl; try have h5 := G.blk 5 rfl
        (repeat refine Zlr ?_)
        refine ret_c2 rfl (rv_agw rfl h1 rfl rfl) (rv_t rfl) ⟨q3, c3, rfl, G.sg, ?_⟩
        exact (deep_res (d + 1) hc1).bind (fun h => (r2.on h).bind (fun h' => r3.on h') fun h' => r3.on_er h') fun h => (h hc2).elim
      · refine c_t (by show Value.bool ((deepQ X (d + 1) q1).c != 0) = _; rw [bne_iff_ne.2 hc2]) ?_
        (repeat refine Zlr ?_)
        refine s_stw (vs := qc X (deepQ X (d + 1) q1)) rfl rfl rfl rfl rfl h0 rfl (fun w s => ?_)
        have G := G.put 0 rfl s rfl
        have h0 := G.blk 0 rfl; try have h1 := G.blk 1 rfl; try have h2 := G.blk 2 rfl; try have h3 := G.blk 3 rfl; try have h4 := G.blk 4 rfl; try have h5 := G.blk 5 rfl
        (repeat refine Zlr ?_)
        refine ret_c2 rfl (rv_agw rfl h0 rfl rfl) (rv_t rfl) ⟨deepQ X (d + 1) q1, 0, rfl, G.sg, ?_⟩
        exact (deep_res (d + 1) hc1).bind (fun h => (hc2 h).elim) fun h => h
    | false =>
      refine s_set 19 true rfl rfl ?_
      (repeat (first | refine Zlr ?_ | refine Zn ?_ | refine Zu ?_ | refine Zg ?_ | refine Zgl ?_))
      refine s_gcall (us := []) (zs := []) rfl (by kernel_rfl) rfl rfl (isW G.at_ wNot (by decide) (by decide)) ?_
      rintro _ w ⟨rfl, k⟩
      have G := G.no k
      have h0 := G.blk 0 rfl; try have h1 := G.blk 1 rfl; try have h2 := G.blk 2 rfl; try have h3 := G.blk 3 rfl; try have h4 := G.blk 4 rfl; try have h5 := G.blk 5 rfl
      (repeat (first | refine Zlr ?_ | refine Zn ?_ | refine Zu ?_ | refine Zg ?_ | refine Zgl ?_))
      cases hm2 : isQ X wNot q with
      | true =>
        refine c_f rfl ?_
        have hw := (is_yes hm2).2
        have hnn : wd X.E q.s ≠ [] := by rw [hw]; decide
        have hor : wd X.E q.s = wMinus ∨ wd X.E q.s = wNot := .inr hw
        have eU : On q (sUnary X.E L d) = (Sy.deep X.E (d + 1) (adv q.s)).bind fun _ s1 => (L.unary (d + 1) s1).bind fun a s2 => Sy.put X.E (Sy.hr X.E q.s) { k := 8, op := wd X.E q.s, a := a } s2 := by
          rw [On_c hc, sUnary, if_pos hor]
        rw [eU] at hr ⊢
        (repeat refine Zlr ?_)
        refine s_call (us := []) (zs := []) (by kernel_rfl) rfl rfl (wordF G.at_) ?_
        rintro _ w ⟨rfl, k⟩
        have G := G.no k
        have h0 := G.blk 0 rfl; try have h1 := G.blk 1 rfl; try have h2 := G.blk 2 rfl; try have h3 := G.blk 3 rfl; try have h4 := G.blk 4 rfl; try have h5 := G.blk 5 rfl
        have hsm := G.at_.small
        have hxl := (G.at_.gd hc).xl
        (repeat refine Zlr ?_)
        refine s_st (vs := [.int .i64 ((q.s.i : Int) + 1)]) rfl rfl rfl rfl rfl h1 (Nat.le_of_ble_eq_true rfl) (fun w s => ?_)
        have s : Sb _ b (qc X { q with s := adv q.s }) Tp w := s
        have G := (G.put 1 rfl s rfl).mv (Sg.adv (G.put 1 rfl s rfl).at_ (.inl hnn))
        have h0 := G.blk 0 rfl; try have h1 := G.blk 1 rfl; try have h2 := G.blk 2 rfl; try have h3 := G.blk 3 rfl; try have h4 := G.blk 4 rfl; try have h5 := G.blk 5 rfl
        (repeat refine Zlr ?_)
        obtain ⟨q1, hq1⟩ : ∃ q1 : Q, { q with s := adv q.s } = q1 := ⟨_, rfl⟩
        have hc1 : q1.c = 0 := by rw [← hq1]; exact hc
        have hs1 : q1.s = adv q.s := by rw [← hq1]
        rw [hq1] at G h1 ⊢
        rw [← hs1] at hr ⊢
        refine s_call (us := []) (zs := []) (by kernel_rfl) rfl rfl (deepF G.at_ (d + 1)) ?_
        rintro _ w ⟨rfl, k⟩
        have G := (G.no k).mv (Sg.deep (G.no k).at_ (d := d + 1))
        have h0 := G.blk 0 rfl; try have h1 := G.blk 1 rfl; try have h2 := G.blk 2 rfl; try have h3 := G.blk 3 rfl; try have h4 := G.blk 4 rfl; try have h5 := G.blk 5 rfl
        (repeat refine Zlr ?_)
        refine s_stw (vs := qc X (deepQ X (d + 1) q1)) rfl rfl rfl rfl rfl h1 rfl (fun w s => ?_)
        have G := G.put 1 rfl s rfl
        have h0 := G.blk 0 rfl; try have h1 := G.blk 1 rfl; try have h2 := G.blk 2 rfl; try have h3 := G.blk 3 rfl; try have h4 := G.blk 4 rfl; try have h5 := G.blk 5 rfl
        (repeat refine Zlr ?_)
        by_cases hc2 : (deepQ X (d + 1) q1).c = 0
        · obtain ⟨_, hd64, e2⟩ := deep_c hc2
          have hN := (deep_res (d + 1) hc1).next hr hc2
          refine c_f (by show Value.bool ((deepQ X (d + 1) q1).c != 0) = _; rw [bne_eq_false_iff_eq.2 hc2]) ?_
          (repeat refine Zlr ?_)
          refine s_call (us := []) (zs := []) (by kernel_rfl) rfl rfl (hL.unary (d + 1) _ _ ⟨by omega, hd64⟩ G.at_ (On_ne fun _ => bind_ne' hN)) ?_
          rintro _ w ⟨q2, a, rfl, g2, r2⟩
          have G := G.call g2
          (repeat refine Zlr ?_)
          refine s_al rfl (fun b5 w n5 => ?_)
          have G := G.new n5
          have h0 := G.blk 0 rfl; try have h1 := G.blk 1 rfl; try have h2 := G.blk 2 rfl; try have h3 := G.blk 3 rfl; try have h4 := G.blk 4 rfl; try have h5 := G.blk 5 rfl
          (repeat refine Zlr ?_)
          refine s_stw (vs := qc X q2) rfl rfl rfl rfl rfl h0 rfl (fun w s => ?_)
          have G := G.put 0 rfl s rfl
          have h0 := G.blk 0 rfl; try have h1 := G.blk 1 rfl; try have h2 := G.blk 2 rfl; try have h3 := G.blk 3 rfl; try have h4 := G.blk 4 rfl; try have h5 := G.blk 5 rfl
          (repeat refine Zlr ?_)
          refine s_call (us := []) (zs := []) (by kernel_rfl) rfl rfl (putF G.at_ (Sy.hr X.E q.s) { k := 8, op := wd X.E q.s, a := a } none 0 0 fun hc4 => ⟨LI.nil, Ow.nil, by
            have u := hB.unary _ _ _ _ ((r2.on hc2).ok hc4)
            rw [e2, hs1] at u
            have e1 : (adv q.s).i = q.s.i + 1 := rfl
            have e2 : (adv q.s).ex = q.s.ex := rfl
            unfold Up at u
            rw [e1, e2] at u
            omega⟩) ?_
          rintro _ w ⟨q3, c3, rfl, g3, r3⟩
          have G := G.call g3
          have h0 := G.blk 0 rfl; try have h1 := G.blk 1 rfl; try have h2 := G.blk 2 rfl; try have h3 := G.blk 3 rfl; try have h4 := G.blk 4 rfl; try have h5 := G.blk 5 rfl
          (repeat refine Zlr ?_)
          refine s_stw (vs := qc X q3) rfl rfl rfl rfl rfl h1 rfl (fun w s => ?_)
          have G := G.put 1 rfl s rfl
          have h0 := G.blk 0 rfl; try have h1 := G.blk 1 rfl; try have h2 := G.blk 2 rfl; try have h3 := G.blk 3 rfl; try have h4 := G.blk 4 rfl; try have h5 := G.blk 5 rfl
          (repeat refine Zlr ?_)
          refine ret_c2 rfl (rv_agw rfl h1 rfl rfl) (rv_t rfl) ⟨q3, c3, rfl, G.sg, ?_⟩
          exact (deep_res (d + 1) hc1).bind (fun h => (r2.on h).bind (fun h' => r3.on h') fun h' => r3.on_er h') fun h => (h hc2).elim
        · refine c_t (by show Value.bool ((deepQ X (d + 1) q1).c != 0) = _; rw [bne_iff_ne.2 hc2]) ?_
          (repeat refine Zlr ?_)
          refine s_stw (vs := qc X (deepQ X (d + 1) q1)) rfl rfl rfl rfl rfl h0 rfl (fun w s => ?_)
          have G := G.put 0 rfl s rfl
          have h0 := G.blk 0 rfl; try have h1 := G.blk 1 rfl; try have h2 := G.blk 2 rfl; try have h3 := G.blk 3 rfl; try have h4 := G.blk 4 rfl; try have h5 := G.blk 5 rfl
          (repeat refine Zlr ?_)
          refine ret_c2 rfl (rv_agw rfl h0 rfl rfl) (rv_t rfl) ⟨deepQ X (d + 1) q1, 0, rfl, G.sg, ?_⟩
          exact (deep_res (d + 1) hc1).bind (fun h => (hc2 h).elim) fun h => h
      | false =>
        refine c_t rfl ?_
        have eP : On q (sUnary X.E L d) = On q (L.prim d) := by rw [On_c hc, On_c hc, sUnary, if_neg (fun e => e.elim (is_no hm hc) (is_no hm2 hc))]
        (repeat refine Zlr ?_)
        refine s_call (us := []) (zs := []) (by kernel_rfl) rfl rfl (hL.prim d q _ hd G.at_ (by rw [← eP]; exact hr)) ?_
        rintro _ w ⟨q2, a, rfl, g2, r2⟩
        have G := G.call g2
        have h0 := G.blk 0 rfl; try have h1 := G.blk 1 rfl; try have h2 := G.blk 2 rfl; try have h3 := G.blk 3 rfl; try have h4 := G.blk 4 rfl; try have h5 := G.blk 5 rfl
        (repeat refine Zlr ?_)
        refine s_stw (vs := qc X q2) rfl rfl rfl rfl rfl h0 rfl (fun w s => ?_)
        have G := G.put 0 rfl s rfl
        have h0 := G.blk 0 rfl; try have h1 := G.blk 1 rfl; try have h2 := G.blk 2 rfl; try have h3 := G.blk 3 rfl; try have h4 := G.blk 4 rfl; try have h5 := G.blk 5 rfl
        (repeat refine Zlr ?_)
        exact ret_c2 rfl (rv_agw rfl h0 rfl rfl) (rv_t rfl) ⟨q2, a, rfl, G.sg, by rw [eP]; exact r2⟩
  · refine s_set 15 true rfl (bne_iff_ne.2 hc) ?_
    (repeat (first | refine Zlr ?_ | refine Zn ?_ | refine Zu ?_ | refine Zg ?_ | refine Zgl ?_))
    refine c_t rfl ?_
    have eP : On q (sUnary X.E L d) = On q (L.prim d) := by rw [On_e hc, On_e hc]
    (repeat refine Zlr ?_)
    refine s_call (us := []) (zs := []) (by kernel_rfl) rfl rfl (hL.prim d q _ hd G.at_ (by rw [← eP]; exact hr)) ?_
    rintro _ w ⟨q2, a, rfl, g2, r2⟩
    have G := G.call g2
    have h0 := G.blk 0 rfl; try have h1 := G.blk 1 rfl; try have h2 := G.blk 2 rfl; try have h3 := G.blk 3 rfl; try have h4 := G.blk 4 rfl; try have h5 := G.blk 5 rfl
    (repeat refine Zlr ?_)
    refine s_stw (vs := qc X q2) rfl rfl rfl rfl rfl h0 rfl (fun w s => ?_)
    have G := G.put 0 rfl s rfl
    have h0 := G.blk 0 rfl; try have h1 := G.blk 1 rfl; try have h2 := G.blk 2 rfl; try have h3 := G.blk 3 rfl; try have h4 := G.blk 4 rfl; try have h5 := G.blk 5 rfl
    (repeat refine Zlr ?_)
    exact ret_c2 rfl (rv_agw rfl h0 rfl rfl) (rv_t rfl) ⟨q2, a, rfl, G.sg, by rw [eP]; exact r2⟩
end
end Go.Proofs.YtfnbgbeinmekgaaGreatDoor.Rf
namespace Go.Proofs.YtfnbgbeinmekgaaGreatDoor.Rf
open Go Go.RowKit Fw Sy
set_option linter.unusedVariables false
set_option maxRecDepth 20000
section
variable {X : Cr} {w : World} {q : Q} {L : Lv}
theorem want_ok {y : List Int} (hc : q.c = 0) (h : wd X.E q.s = y) : (wantQ X y q).c = 0 ∧ (wantQ X y q).s = adv q.s := by
  rw [want_yes hc h]; exact ⟨hc, rfl⟩
theorem kind_ok {k : Int} (hc : q.c = 0) (h : kd X.E q.s = k) : (kindQ X k q).c = 0 ∧ (kindQ X k q).s = adv q.s ∧ kindW X k q = wd X.E q.s := by
  have e1 : kindQ X k q = { q with s := adv q.s } := if_pos ⟨hc, h⟩
  have e2 : kindW X k q = wd X.E q.s := if_pos ⟨hc, h⟩
  rw [e1, e2]; exact ⟨hc, rfl, rfl⟩
theorem numW (h : Aq X w q) (hk : kd X.E q.s = 2) (w' : World) : Ret Tryz.prog 112 [sv (wd X.E q.s)] w' fun v w1 => v = .int .i64 (num (wd X.E q.s)) ∧ w1 = w' := by
  obtain ⟨t, ht, e1, e2, e3⟩ := h.tok
  have ok := (tok_of h.h0).num _ _ ht (by rw [← e1]; exact hk)
  have hB := B_nums h.wd_rng
  have := numberF (strOfNums (wd X.E q.s)) w' (by rw [← B_len, hB, e3]; exact ok.1) (by rw [hB, e3]; exact ok.2)
  rw [hB] at this
  exact this
/-- More blocks may be ours. -/
def Q.add (q : Q) (v : Value) : Q := { q with o := fun b => q.o b ∨ v.ownBlock = some b }
theorem Sg.more {w0 : World} {q0 : Q} (h : Sg X w0 q0 w q) (v : Value) (hv : ∀ g, v.ownBlock = some g → w0.heap.size ≤ g ∧ g < w.heap.size) : Sg X w0 q0 w (q.add v) := by
  have up : ∀ {u}, Ow q.V u → Ow (q.add v).V u := fun ho g hg => .inl (ho g hg)
  refine ⟨⟨h.at_.h0, h.at_.tk, h.at_.lt, fun hc => ?_⟩, h.gs.kp, h.gs.fr, fun b hb hc ho => ?_⟩
  · obtain ⟨⟨rx, e1, o1, l1⟩, ⟨ry, e2, o2, l2⟩, ⟨rz, e3, o3, l3⟩, g4, g5, g6, g7⟩ := h.at_.gd hc
    exact ⟨⟨rx, e1, o1, fun r hr => ⟨(l1 r hr).1, up (l1 r hr).2⟩⟩, ⟨ry, e2, o2, fun r hr => ⟨⟨(l2 r hr).1.1, up (l2 r hr).1.2⟩, (l2 r hr).2.1, up (l2 r hr).2.2⟩⟩, ⟨rz, e3, o3, fun r hr => ⟨⟨(l3 r hr).1.1, up (l3 r hr).1.2⟩, (l3 r hr).2.1, up (l3 r hr).2.2⟩⟩, g4, g5, g6,
      fun b hb => hb.elim (g7 b) fun hb => (hv b hb).2⟩
  · rcases ho with ho | ho
    · exact h.gs.fo b hb hc ho
    · have := (hv b ho).1; omega
theorem Wb.more {w0 : World} {q0 : Q} {l : List (Nat × List Value × TypeId)} (G : Wb X w0 q0 w q l) (v : Value) (hv : ∀ g, v.ownBlock = some g → w0.heap.size ≤ g ∧ g < w.heap.size) : Wb X w0 q0 w (q.add v) l :=
  ⟨G.sg.more v hv, G.bx, G.nd⟩
/-- A list of our own, that isn't among what was put. -/
structure Ls (w0 w : World) (q : Q) (e : TypeId) (v : Value) (n : Nat) (cs : List Value) : Prop where
  own : w.ownsRow 0 e 1 v n cs
  nw : ∀ g, v.ownBlock = some g → w0.heap.size ≤ g ∧ (q.c = 0 → ¬ q.o g)
theorem Ls.no {w0 w' : World} {e : TypeId} {v : Value} {n : Nat} {cs : List Value} (h : Ls w0 w q e v n cs) (k : Kp No w w') : Ls w0 w' q e v n cs := ⟨own_kp h.own k fun _ _ h => h, h.nw⟩
theorem Ls.gs {w0 w' : World} {q' : Q} {e : TypeId} {v : Value} {n : Nat} {cs : List Value} (h : Ls w0 w q e v n cs) (hA : Aq X w q) (k : Gs w q w' q') (he : okT e = true) : Ls w0 w' q' e v n cs :=
  ⟨own_gs hA k.kp h.own he, fun g hg => ⟨(h.nw g hg).1, fun hc ho => by
    obtain ⟨c, hc'⟩ := own_ty h.own hg
    obtain ⟨h1, h2⟩ := k.fo g (lt_of_get hc') hc ho
    exact (h.nw g hg).2 h1 h2⟩⟩
theorem Ls.box {w0 w' : World} {e : TypeId} {v : Value} {n : Nat} {cs : List Value} {b : Nat} {cs' vs : List Value} {T : TypeId} (h : Ls w0 w q e v n cs) (k : Sb w b vs T w') (hb : w.heap[b]? = some (.cells cs'.toArray T (0, 0))) (he : Nat.beq e T = false) : Ls w0 w' q e v n cs :=
  ⟨own_kp h.own k.kp fun g hg e' => by
    obtain ⟨c, hc⟩ := own_ty h.own hg
    exact ty_ne hc hb he e', h.nw⟩
theorem Ls.nil {w0 : World} {e : TypeId} : Ls w0 w q e nilS 0 [] := ⟨⟨rfl, .inl ⟨rfl, rfl⟩⟩, fun g hg => by cases hg⟩
theorem Ls.rng {w0 : World} {e : TypeId} {v : Value} {n : Nat} {cs : List Value} (h : Ls w0 w q e v n cs) : ∀ g, v.ownBlock = some g → w0.heap.size ≤ g ∧ g < w.heap.size := fun g hg => by
  obtain ⟨c, hc⟩ := own_ty h.own hg
  exact ⟨(h.nw g hg).1, lt_of_get hc⟩
/-- What is appended to a list of our own changes nothing else. -/
theorem Wb.lst {w0 w' : World} {q0 : Q} {l : List (Nat × List Value × TypeId)} (G : Wb X w0 q0 w q l) (A0 : Aq X w0 q0) {e : TypeId} {v v' : Value} {n k : Nat} {cs xs : List Value} (hl : Ls w0 w q e v n cs) (a : Ap w 0 e 1 v k xs v' w') (he : okT e = true)
    (hb : ∀ (i b : Nat) (cs : List Value) (T : TypeId), l[i]? = some (b, cs, T) → Nat.beq e T = false) : Wb X w0 q0 w' q l ∧ Ls w0 w' q e v' k xs := by
  have nb : ∀ {g : Nat} {cur : Array Value} {T : TypeId} {fz : Nat × Nat}, w.heap[g]? = some (.cells cur T fz) → Nat.beq e T = false → ¬ some g = v.ownBlock := fun hg hT e' => by
    obtain ⟨c, hc⟩ := own_ty hl.own e'.symm
    exact ty_ne hc hg hT rfl
  have old : ∀ {base : Nat} {e : TypeId} {size : Nat} {u : Value} {n : Nat} {cs : List Value}, w0.ownsRow base e size u n cs → ∀ g, u.ownBlock = some g → ¬ some g = v.ownBlock := fun hu g hg e => by
    obtain ⟨c, hc⟩ := own_ty hu hg
    have := lt_of_get hc
    have := (hl.nw g e.symm).1
    omega
  have hA := G.sg.at_
  refine ⟨⟨⟨⟨hA.h0, own_kp hA.tk a.kp (old A0.tk), hA.lt, fun hc => (hA.gd hc).kp a.kp (fun b hs e' => ?_) fun g cur T fz ho hg _ e' => ?_⟩, ⟨G.sg.gs.kp.trans a.kp fun i hi e => (by have := (hl.nw i e.symm).1; omega), G.sg.gs.fr, G.sg.gs.fo⟩⟩, fun i b cs T hi => ⟨(G.bx i b cs T hi).1, a.kp.get (G.bx i b cs T hi).2.1 (nb (G.bx i b cs T hi).2.1 (hb i b cs T hi)), (G.bx i b cs T hi).2.2⟩, G.nd⟩, a.own, fun g hg => ?_⟩
  · obtain ⟨c, hc'⟩ := own_ty hl.own e'.symm
    exact hA.nsx hc' he ⟨hc, hs⟩
  · exact (hl.nw g e'.symm).2 hc ho
  · rcases a.row g hg with h1 | h1
    · exact hl.nw g h1
    · exact ⟨Nat.le_trans G.sg.gs.kp.size h1, fun hc ho => by have := (hA.gd hc).ob g ho; omega⟩
def CallD (X : Cr) (L : Lv) : Prop := ∀ (fr : Int) (nm : List Int) (d : Int) (q : Q) (w : World), 0 ≤ d ∧ d ≤ 64 → Aq X w q → On q (call X.E L fr nm d) ≠ .out → Ret Tryz.prog 113 [qv X q, .int .i64 fr, sv nm, .int .i64 d] w (RecS X w q (On q (call X.E L fr nm d)))
set_option maxHeartbeats 4000000 in
theorem primF (hB : Bd L) (hL : Wk X L) (hC : CallD X L) (d : Int) (hd : 0 ≤ d ∧ d ≤ 64) (h : Aq X w q) (hr : On q (sPrim X.E L d) ≠ .out) : Ret Tryz.prog 145 [qv X q, .int .i64 d] w (RecS X w q (On q (sPrim X.E L d))) := by
  obtain ⟨t, ht, e1, e2, e3⟩ := h.tok
  have hlt := h.lt
  refine ret_enter Tryz.func145 rfl Tryz.ntmps145 rfl ?_
  (repeat refine Zlr ?_)
  refine s_box (cs := qc X q) rfl rfl (fun b w n => ?_)
  have G := (Wb.start h).new n
  (repeat refine Zlr ?_)
  refine s_al rfl (fun b2 w n2 => ?_)
  have G := G.new n2
  have h0 := G.blk 0 rfl; try have h1 := G.blk 1 rfl; try have h2 := G.blk 2 rfl; try have h3 := G.blk 3 rfl; try have h4 := G.blk 4 rfl; try have h5 := G.blk 5 rfl
  (repeat refine Zlr ?_)
  by_cases hc : q.c = 0
  · refine c_f (by show Value.bool (q.c != 0) = _; rw [bne_eq_false_iff_eq.2 hc]) ?_
    have hxl := (h.gd hc).xl
    (repeat refine Zlr ?_)
    refine s_call (us := []) (zs := []) (by kernel_rfl) rfl rfl (hereF G.at_) ?_
    rintro _ w ⟨rfl, k⟩
    have G := G.no k
    have h0 := G.blk 0 rfl; try have h1 := G.blk 1 rfl; try have h2 := G.blk 2 rfl; try have h3 := G.blk 3 rfl; try have h4 := G.blk 4 rfl; try have h5 := G.blk 5 rfl
    (repeat refine Zlr ?_)
    obtain ⟨c1, c2, c3⟩ := G.at_.tokens _ _ ht
    refine s_v (r_ia rfl rfl rfl rfl (by omega) (by omega)) ?_
    (repeat refine Zlr ?_)
    refine c_eq rfl (fun hk => ?_) (fun hk => ?_)
    · have hk : kd X.E q.s = 2 := by rw [e1]; exact hk
      obtain ⟨hc1, hs1, hw1⟩ := kind_ok (X := X) hc hk
      (repeat refine Zlr ?_)
      refine s_call (us := []) (zs := []) (by kernel_rfl) rfl rfl (kindF G.at_ 2 (by decide)) ?_
      rintro _ w ⟨rfl, k⟩
      have G := (G.no k).mv (Sg.kind (G.no k).at_ (show (2 : Int) ≠ 0 by decide))
      have h0 := G.blk 0 rfl; try have h1 := G.blk 1 rfl; try have h2 := G.blk 2 rfl; try have h3 := G.blk 3 rfl; try have h4 := G.blk 4 rfl; try have h5 := G.blk 5 rfl
      (repeat refine Zlr ?_)
      refine s_al rfl (fun b7 w n' => ?_)
      have G := G.new n'
      have h0 := G.blk 0 rfl; try have h1 := G.blk 1 rfl; try have h2 := G.blk 2 rfl; try have h3 := G.blk 3 rfl; try have h4 := G.blk 4 rfl; try have h5 := G.blk 5 rfl
      (repeat refine Zlr ?_)
      refine s_stw (vs := qc X (kindQ X 2 q)) rfl rfl rfl rfl rfl h0 rfl (fun w s => ?_)
      have G := G.put 0 rfl s rfl
      have h0 := G.blk 0 rfl; try have h1 := G.blk 1 rfl; try have h2 := G.blk 2 rfl; try have h3 := G.blk 3 rfl; try have h4 := G.blk 4 rfl; try have h5 := G.blk 5 rfl
      (repeat refine Zlr ?_)
      have hb7 := G.bx 0 _ _ _ rfl
      have h72 : b7 ≠ b2 := fun e => by
        have := G.nd 0 1 b7 _ _ _ _ rfl (by rw [e]; rfl)
        omega
      (repeat refine Zlr ?_)
      refine k_h (fun w' => Kp (fun i => Sx (kindQ X 2 q) i ∨ i = b2) w w') [(0, false), (1, false), (2, false), (3, true), (4, false), (5, true), (6, false), (7, false), (8, true), (9, false)] 10 (by kernel_rfl) (waits_none) (by kernel_rfl) (by kernel_rfl) (by kernel_rfl) rfl (fun w4 k4 q4 => ?_)
      have k4' : Kp (fun i => Sx (kindQ X 2 q) i ∨ i = b2) w w4 := k4.mono fun _ _ h => h.elim
      have G := G.no k4
      have h0 := G.blk 0 rfl; try have h1 := G.blk 1 rfl; try have h2 := G.blk 2 rfl; try have h3 := G.blk 3 rfl; try have h4 := G.blk 4 rfl; try have h5 := G.blk 5 rfl
      refine h_v k4' (fun w' hw => r_ldw rfl (hw.get hb7.2.1 (fun e => e.elim hb7.2.2 h72)) rfl rfl) ?_
      refine h_v k4' (fun w' hw => r_mv rfl) ?_
      refine h_v k4' (fun w' hw => r_mv rfl) ?_
      rw [hw1]
      refine h_call (us := []) (zs := []) (by kernel_rfl) rfl rfl (numW h hk _) ?_
      rintro _ _ ⟨rfl, rfl⟩
      refine ⟨fun _ => k4', ?_⟩
      refine h_v k4' (fun w' hw => r_bd rfl) ?_
      refine h_call (us := []) (zs := []) (by kernel_rfl) rfl rfl (putF G.at_ (Sy.hr X.E q.s) { k := 1, n := num (wd X.E q.s) } none 0 0 fun _ => ⟨LI.nil, Ow.nil, by rw [hs1]; exact Nat.succ_le_succ hxl⟩) ?_
      rintro _ w5 ⟨q2, a, rfl, g2, r2⟩
      have G := G.call g2
      have h0 := G.blk 0 rfl; try have h1 := G.blk 1 rfl; try have h2 := G.blk 2 rfl; try have h3 := G.blk 3 rfl; try have h4 := G.blk 4 rfl; try have h5 := G.blk 5 rfl
      have k5 : Kp (fun i => Sx (kindQ X 2 q) i ∨ i = b2) _ w5 := k4'.trans (g2.gs.kp.mono fun _ _ h => .inl h) fun _ _ h => h
      refine ⟨fun _ => k5, ?_⟩
      refine h_v k5 (fun w' hw => r_ex rfl) ?_
      refine h_v k5 (fun w' hw => r_ex rfl) ?_
      refine h_st (vs := qc X q2) rfl rfl rfl rfl rfl h1 (Nat.le_of_ble_eq_true rfl) (fun w6 s6 => ⟨fun _ => k5.trans s6.kp fun _ _ h => .inr h, ?_⟩)
      have s6 : Sb _ b2 (qc X q2) _ w6 := s6
      have G := G.put 1 rfl s6 rfl
      have h0 := G.blk 0 rfl; try have h1 := G.blk 1 rfl; try have h2 := G.blk 2 rfl; try have h3 := G.blk 3 rfl; try have h4 := G.blk 4 rfl; try have h5 := G.blk 5 rfl
      have k6 : Kp (fun i => Sx (kindQ X 2 q) i ∨ i = b2) _ w6 := k5.trans s6.kp fun _ _ h => .inr h
      refine h_v k6 (fun w' hw => r_as rfl) ?_
      refine h_nil ?_
      (repeat refine Zlr ?_)
      refine ret_c2 rfl (rv_agw rfl h1 rfl rfl) (rv_t rfl) ⟨q2, a, rfl, G.sg, ?_⟩
      rw [On_c hc, sPrim, if_pos hk, ← hs1]
      exact r2.on hc1
    · have hk : kd X.E q.s ≠ 2 := by rw [e1]; exact hk
      have n0 := hk
      (repeat refine Zlr ?_)
      refine s_call (us := []) (zs := []) (by kernel_rfl) rfl rfl (isW G.at_ wTrue (by decide) (by decide)) ?_
      rintro _ w ⟨rfl, k⟩
      have G := G.no k
      have h0 := G.blk 0 rfl; try have h1 := G.blk 1 rfl; try have h2 := G.blk 2 rfl; try have h3 := G.blk 3 rfl; try have h4 := G.blk 4 rfl; try have h5 := G.blk 5 rfl
      (repeat refine Zlr ?_)
      cases hi : isQ X wTrue q with
      | true =>
        obtain ⟨_, hw⟩ := is_yes hi
        obtain ⟨hc1, hs1⟩ := want_ok (X := X) hc hw
        refine c_t rfl ?_
        (repeat refine Zlr ?_)
        refine s_call (us := []) (zs := []) (by kernel_rfl) rfl rfl (wantW G.at_ wTrue (by decide) (by decide)) ?_
        rintro _ w ⟨rfl, k⟩
        have G := (G.no k).mv (Sg.want (G.no k).at_ (show wTrue ≠ [] by decide))
        have h0 := G.blk 0 rfl; try have h1 := G.blk 1 rfl; try have h2 := G.blk 2 rfl; try have h3 := G.blk 3 rfl; try have h4 := G.blk 4 rfl; try have h5 := G.blk 5 rfl
        (repeat refine Zlr ?_)
        refine s_call (us := []) (zs := []) (by kernel_rfl) rfl rfl (putF G.at_ (Sy.hr X.E q.s) { k := 2 } none 0 0 fun _ => ⟨LI.nil, Ow.nil, by rw [hs1]; exact Nat.succ_le_succ hxl⟩) ?_
        rintro _ w ⟨q2, a, rfl, g, r2⟩
        have G := G.call g
        have h0 := G.blk 0 rfl; try have h1 := G.blk 1 rfl; try have h2 := G.blk 2 rfl; try have h3 := G.blk 3 rfl; try have h4 := G.blk 4 rfl; try have h5 := G.blk 5 rfl
        (repeat refine Zlr ?_)
        refine s_stw (vs := qc X (q2)) rfl rfl rfl rfl rfl h0 rfl (fun w s => ?_)
        have G := G.put 0 rfl s rfl
        have h0 := G.blk 0 rfl; try have h1 := G.blk 1 rfl; try have h2 := G.blk 2 rfl; try have h3 := G.blk 3 rfl; try have h4 := G.blk 4 rfl; try have h5 := G.blk 5 rfl
        (repeat refine Zlr ?_)
        refine ret_c2 rfl (rv_agw rfl h0 rfl rfl) (rv_t rfl) ⟨q2, a, rfl, G.sg, ?_⟩
        rw [On_c hc, sPrim, if_neg n0, if_pos hw, ← hs1]
        exact r2.on hc1
      | false =>
        have n1 := is_no hi hc
        clear hi
        refine c_f rfl ?_
        (repeat refine Zlr ?_)
        refine s_call (us := []) (zs := []) (by kernel_rfl) rfl rfl (isW G.at_ wFalse (by decide) (by decide)) ?_
        rintro _ w ⟨rfl, k⟩
        have G := G.no k
        have h0 := G.blk 0 rfl; try have h1 := G.blk 1 rfl; try have h2 := G.blk 2 rfl; try have h3 := G.blk 3 rfl; try have h4 := G.blk 4 rfl; try have h5 := G.blk 5 rfl
        (repeat refine Zlr ?_)
        cases hi : isQ X wFalse q with
        | true =>
          obtain ⟨_, hw⟩ := is_yes hi
          obtain ⟨hc1, hs1⟩ := want_ok (X := X) hc hw
          refine c_t rfl ?_
          (repeat refine Zlr ?_)
          refine s_call (us := []) (zs := []) (by kernel_rfl) rfl rfl (wantW G.at_ wFalse (by decide) (by decide)) ?_
          rintro _ w ⟨rfl, k⟩
          have G := (G.no k).mv (Sg.want (G.no k).at_ (show wFalse ≠ [] by decide))
          have h0 := G.blk 0 rfl; try have h1 := G.blk 1 rfl; try have h2 := G.blk 2 rfl; try have h3 := G.blk 3 rfl; try have h4 := G.blk 4 rfl; try have h5 := G.blk 5 rfl
          (repeat refine Zlr ?_)
          refine s_call (us := []) (zs := []) (by kernel_rfl) rfl rfl (putF G.at_ (Sy.hr X.E q.s) { k := 3 } none 0 0 fun _ => ⟨LI.nil, Ow.nil, by rw [hs1]; exact Nat.succ_le_succ hxl⟩) ?_
          rintro _ w ⟨q2, a, rfl, g, r2⟩
          have G := G.call g
          have h0 := G.blk 0 rfl; try have h1 := G.blk 1 rfl; try have h2 := G.blk 2 rfl; try have h3 := G.blk 3 rfl; try have h4 := G.blk 4 rfl; try have h5 := G.blk 5 rfl
          (repeat refine Zlr ?_)
          refine s_stw (vs := qc X (q2)) rfl rfl rfl rfl rfl h0 rfl (fun w s => ?_)
          have G := G.put 0 rfl s rfl
          have h0 := G.blk 0 rfl; try have h1 := G.blk 1 rfl; try have h2 := G.blk 2 rfl; try have h3 := G.blk 3 rfl; try have h4 := G.blk 4 rfl; try have h5 := G.blk 5 rfl
          (repeat refine Zlr ?_)
          refine ret_c2 rfl (rv_agw rfl h0 rfl rfl) (rv_t rfl) ⟨q2, a, rfl, G.sg, ?_⟩
          rw [On_c hc, sPrim, if_neg n0, if_neg n1, if_pos hw, ← hs1]
          exact r2.on hc1
        | false =>
          have n2 := is_no hi hc
          clear hi
          refine c_f rfl ?_
          (repeat refine Zlr ?_)
          refine s_call (us := []) (zs := []) (by kernel_rfl) rfl rfl (isW G.at_ wRead (by decide) (by decide)) ?_
          rintro _ w ⟨rfl, k⟩
          have G := G.no k
          have h0 := G.blk 0 rfl; try have h1 := G.blk 1 rfl; try have h2 := G.blk 2 rfl; try have h3 := G.blk 3 rfl; try have h4 := G.blk 4 rfl; try have h5 := G.blk 5 rfl
          (repeat refine Zlr ?_)
          cases hi : isQ X wRead q with
          | true =>
            obtain ⟨_, hw⟩ := is_yes hi
            obtain ⟨hc1, hs1⟩ := want_ok (X := X) hc hw
            refine c_t rfl ?_
            (repeat refine Zlr ?_)
            refine s_call (us := []) (zs := []) (by kernel_rfl) rfl rfl (wantW G.at_ wRead (by decide) (by decide)) ?_
            rintro _ w ⟨rfl, k⟩
            have G := (G.no k).mv (Sg.want (G.no k).at_ (show wRead ≠ [] by decide))
            have h0 := G.blk 0 rfl; try have h1 := G.blk 1 rfl; try have h2 := G.blk 2 rfl; try have h3 := G.blk 3 rfl; try have h4 := G.blk 4 rfl; try have h5 := G.blk 5 rfl
            (repeat refine Zlr ?_)
            refine s_call (us := []) (zs := []) (by kernel_rfl) rfl rfl (putF G.at_ (Sy.hr X.E q.s) { k := 7 } none 0 0 fun _ => ⟨LI.nil, Ow.nil, by rw [hs1]; exact Nat.succ_le_succ hxl⟩) ?_
            rintro _ w ⟨q2, a, rfl, g, r2⟩
            have G := G.call g
            have h0 := G.blk 0 rfl; try have h1 := G.blk 1 rfl; try have h2 := G.blk 2 rfl; try have h3 := G.blk 3 rfl; try have h4 := G.blk 4 rfl; try have h5 := G.blk 5 rfl
            (repeat refine Zlr ?_)
            refine s_stw (vs := qc X (q2)) rfl rfl rfl rfl rfl h0 rfl (fun w s => ?_)
            have G := G.put 0 rfl s rfl
            have h0 := G.blk 0 rfl; try have h1 := G.blk 1 rfl; try have h2 := G.blk 2 rfl; try have h3 := G.blk 3 rfl; try have h4 := G.blk 4 rfl; try have h5 := G.blk 5 rfl
            (repeat refine Zlr ?_)
            refine ret_c2 rfl (rv_agw rfl h0 rfl rfl) (rv_t rfl) ⟨q2, a, rfl, G.sg, ?_⟩
            rw [On_c hc, sPrim, if_neg n0, if_neg n1, if_neg n2, if_pos hw, ← hs1]
            exact r2.on hc1
          | false =>
            have n3 := is_no hi hc
            clear hi
            refine c_f rfl ?_
            (repeat refine Zlr ?_)
            refine s_call (us := []) (zs := []) (by kernel_rfl) rfl rfl (isW G.at_ wLpar (by decide) (by decide)) ?_
            rintro _ w ⟨rfl, k⟩
            have G := G.no k
            have h0 := G.blk 0 rfl; try have h1 := G.blk 1 rfl; try have h2 := G.blk 2 rfl; try have h3 := G.blk 3 rfl; try have h4 := G.blk 4 rfl; try have h5 := G.blk 5 rfl
            (repeat refine Zlr ?_)
            cases hi : isQ X wLpar q with
            | true =>
              obtain ⟨_, hw⟩ := is_yes hi
              obtain ⟨hc1, hs1⟩ := want_ok (X := X) hc hw
              have eP : On q (sPrim X.E L d) = (L.expr (d + 1) (adv q.s)).bind fun a s1 => (Sy.want X.E wRpar s1).bind fun _ s2 => .ok a s2 := by
                rw [On_c hc, sPrim, if_neg n0, if_neg n1, if_neg n2, if_neg n3, if_pos hw]
              rw [eP, ← hs1] at hr ⊢
              refine c_t rfl ?_
              (repeat refine Zlr ?_)
              refine s_call (us := []) (zs := []) (by kernel_rfl) rfl rfl (wantW G.at_ wLpar (by decide) (by decide)) ?_
              rintro _ w ⟨rfl, k⟩
              have G := (G.no k).mv (Sg.want (G.no k).at_ (show wLpar ≠ [] by decide))
              have h0 := G.blk 0 rfl; try have h1 := G.blk 1 rfl; try have h2 := G.blk 2 rfl; try have h3 := G.blk 3 rfl; try have h4 := G.blk 4 rfl; try have h5 := G.blk 5 rfl
              (repeat refine Zlr ?_)
              refine s_call (us := []) (zs := []) (by kernel_rfl) rfl rfl (hL.expr (d + 1) (wantQ X wLpar q) _ (by omega) G.at_ (On_ne fun _ => bind_ne' hr)) ?_
              rintro _ w ⟨q2, a, rfl, g, r2⟩
              have G := G.call g
              have h0 := G.blk 0 rfl; try have h1 := G.blk 1 rfl; try have h2 := G.blk 2 rfl; try have h3 := G.blk 3 rfl; try have h4 := G.blk 4 rfl; try have h5 := G.blk 5 rfl
              (repeat refine Zlr ?_)
              refine s_al rfl (fun b' w n' => ?_)
              have G := G.new n'
              have h0 := G.blk 0 rfl; try have h1 := G.blk 1 rfl; try have h2 := G.blk 2 rfl; try have h3 := G.blk 3 rfl; try have h4 := G.blk 4 rfl; try have h5 := G.blk 5 rfl
              (repeat refine Zlr ?_)
              refine s_stw (vs := qc X (q2)) rfl rfl rfl rfl rfl h0 rfl (fun w s => ?_)
              have G := G.put 0 rfl s rfl
              have h0 := G.blk 0 rfl; try have h1 := G.blk 1 rfl; try have h2 := G.blk 2 rfl; try have h3 := G.blk 3 rfl; try have h4 := G.blk 4 rfl; try have h5 := G.blk 5 rfl
              (repeat refine Zlr ?_)
              refine s_call (us := []) (zs := []) (by kernel_rfl) rfl rfl (wantW G.at_ wRpar (by decide) (by decide)) ?_
              rintro _ w ⟨rfl, k⟩
              have G := (G.no k).mv (Sg.want (G.no k).at_ (show wRpar ≠ [] by decide))
              have h0 := G.blk 0 rfl; try have h1 := G.blk 1 rfl; try have h2 := G.blk 2 rfl; try have h3 := G.blk 3 rfl; try have h4 := G.blk 4 rfl; try have h5 := G.blk 5 rfl
              (repeat refine Zlr ?_)
              refine s_stw (vs := qc X (wantQ X wRpar q2)) rfl rfl rfl rfl rfl h1 rfl (fun w s => ?_)
              have G := G.put 1 rfl s rfl
              have h0 := G.blk 0 rfl; try have h1 := G.blk 1 rfl; try have h2 := G.blk 2 rfl; try have h3 := G.blk 3 rfl; try have h4 := G.blk 4 rfl; try have h5 := G.blk 5 rfl
              (repeat refine Zlr ?_)
              refine ret_c2 rfl (rv_agw rfl h1 rfl rfl) (rv_t rfl) ⟨wantQ X wRpar q2, a, rfl, G.sg, ?_⟩
              exact (r2.on hc1).bind (fun h2 => (want_res wRpar h2).bind (fun h3 => ⟨h3, rfl, rfl⟩) fun h => h) fun h => by rw [want_er h]; exact h
            | false =>
              have n4 := is_no hi hc
              clear hi
              refine c_f rfl ?_
              (repeat refine Zlr ?_)
              have eP : On q (sPrim X.E L d) = (knd X.E 1 q.s).bind fun nm s1 =>
                  if wd X.E s1 = wLbra then (L.expr (d + 1) (adv s1)).bind fun a s2 => (Sy.want X.E wRbra s2).bind fun _ s3 => Sy.put X.E (Sy.hr X.E q.s) { k := 5, nm := nm, a := a } s3
                  else if wd X.E s1 = wLpar then Sy.call X.E L (Sy.hr X.E q.s) nm d s1
                  else Sy.put X.E (Sy.hr X.E q.s) { k := 4, nm := nm } s1 := by
                rw [On_c hc, sPrim, if_neg n0, if_neg n1, if_neg n2, if_neg n3, if_neg n4]
              rw [eP] at hr ⊢
              refine s_call (us := []) (zs := []) (by kernel_rfl) rfl rfl (kindF G.at_ 1 (by decide)) ?_
              rintro _ w ⟨rfl, k⟩
              have G := (G.no k).mv (Sg.kind (G.no k).at_ (show (1 : Int) ≠ 0 by decide))
              have h0 := G.blk 0 rfl; try have h1 := G.blk 1 rfl; try have h2 := G.blk 2 rfl; try have h3 := G.blk 3 rfl; try have h4 := G.blk 4 rfl; try have h5 := G.blk 5 rfl
              (repeat refine Zlr ?_)
              have r1 := kind_res (X := X) 1 hc
              have u1 : (kindQ X 1 q).c = 0 → (kindQ X 1 q).s = adv q.s := fun h => by rw [(kind_c h).2.2.1]
              generalize kindQ X 1 q = q1 at *
              generalize kindW X 1 q = nm at *
              refine s_al rfl (fun b' w n' => ?_)
              have G := G.new n'
              have h0 := G.blk 0 rfl; try have h1 := G.blk 1 rfl; try have h2 := G.blk 2 rfl; try have h3 := G.blk 3 rfl; try have h4 := G.blk 4 rfl; try have h5 := G.blk 5 rfl
              (repeat refine Zlr ?_)
              refine s_stw (vs := qc X (q1)) rfl rfl rfl rfl rfl h0 rfl (fun w s => ?_)
              have G := G.put 0 rfl s rfl
              have h0 := G.blk 0 rfl; try have h1 := G.blk 1 rfl; try have h2 := G.blk 2 rfl; try have h3 := G.blk 3 rfl; try have h4 := G.blk 4 rfl; try have h5 := G.blk 5 rfl
              (repeat refine Zlr ?_)
              refine s_call (us := []) (zs := []) (by kernel_rfl) rfl rfl (isW G.at_ wLbra (by decide) (by decide)) ?_
              rintro _ w ⟨rfl, k⟩
              have G := G.no k
              have h0 := G.blk 0 rfl; try have h1 := G.blk 1 rfl; try have h2 := G.blk 2 rfl; try have h3 := G.blk 3 rfl; try have h4 := G.blk 4 rfl; try have h5 := G.blk 5 rfl
              (repeat refine Zlr ?_)
              cases hi : isQ X wLbra q1 with
              | true =>
                obtain ⟨hc1, hw⟩ := is_yes hi
                obtain ⟨hc2, hs2⟩ := want_ok (X := X) hc1 hw
                have hr1 := r1.next hr hc1
                simp only [if_pos hw, ← hs2] at hr1
                refine c_t rfl ?_
                (repeat refine Zlr ?_)
                refine s_call (us := []) (zs := []) (by kernel_rfl) rfl rfl (wantW G.at_ wLbra (by decide) (by decide)) ?_
                rintro _ w ⟨rfl, k⟩
                have G := (G.no k).mv (Sg.want (G.no k).at_ (show wLbra ≠ [] by decide))
                have h0 := G.blk 0 rfl; try have h1 := G.blk 1 rfl; try have h2 := G.blk 2 rfl; try have h3 := G.blk 3 rfl; try have h4 := G.blk 4 rfl; try have h5 := G.blk 5 rfl
                (repeat refine Zlr ?_)
                refine s_call (us := []) (zs := []) (by kernel_rfl) rfl rfl (hL.expr (d + 1) (wantQ X wLbra q1) _ (by omega) G.at_ (On_ne fun _ => bind_ne' hr1)) ?_
                rintro _ w ⟨q3, a, rfl, g, r3⟩
                have G := G.call g
                have h0 := G.blk 0 rfl; try have h1 := G.blk 1 rfl; try have h2 := G.blk 2 rfl; try have h3 := G.blk 3 rfl; try have h4 := G.blk 4 rfl; try have h5 := G.blk 5 rfl
                (repeat refine Zlr ?_)
                refine s_al rfl (fun b' w n' => ?_)
                have G := G.new n'
                have h0 := G.blk 0 rfl; try have h1 := G.blk 1 rfl; try have h2 := G.blk 2 rfl; try have h3 := G.blk 3 rfl; try have h4 := G.blk 4 rfl; try have h5 := G.blk 5 rfl
                (repeat refine Zlr ?_)
                refine s_stw (vs := qc X (q3)) rfl rfl rfl rfl rfl h0 rfl (fun w s => ?_)
                have G := G.put 0 rfl s rfl
                have h0 := G.blk 0 rfl; try have h1 := G.blk 1 rfl; try have h2 := G.blk 2 rfl; try have h3 := G.blk 3 rfl; try have h4 := G.blk 4 rfl; try have h5 := G.blk 5 rfl
                (repeat refine Zlr ?_)
                refine s_call (us := []) (zs := []) (by kernel_rfl) rfl rfl (wantW G.at_ wRbra (by decide) (by decide)) ?_
                rintro _ w ⟨rfl, k⟩
                have G := (G.no k).mv (Sg.want (G.no k).at_ (show wRbra ≠ [] by decide))
                have h0 := G.blk 0 rfl; try have h1 := G.blk 1 rfl; try have h2 := G.blk 2 rfl; try have h3 := G.blk 3 rfl; try have h4 := G.blk 4 rfl; try have h5 := G.blk 5 rfl
                (repeat refine Zlr ?_)
                refine s_call (us := []) (zs := []) (by kernel_rfl) rfl rfl (putF G.at_ (Sy.hr X.E q.s) { k := 5, nm := nm, a := a } none 0 0 fun h4 => ⟨LI.nil, Ow.nil, by
                  obtain ⟨h3, _, e3⟩ := want_c h4
                  have u := hB.expr _ _ _ _ ((r3.on hc2).ok h3)
                  rw [hs2] at u
                  rw [e3]
                  have e4 : (adv q1.s).i = q1.s.i + 1 := rfl
                  have e5 : (adv q1.s).ex = q1.s.ex := rfl
                  have e6 : (adv q3.s).i = q3.s.i + 1 := rfl
                  have e7 : (adv q3.s).ex = q3.s.ex := rfl
                  have e8 := u1 hc1
                  have e9 : (adv q.s).i = q.s.i + 1 := rfl
                  have e10 : (adv q.s).ex = q.s.ex := rfl
                  unfold Up at u
                  rw [e4, e5, e8, e9, e10] at u
                  rw [e6, e7]
                  omega⟩) ?_
                rintro _ w ⟨q4, c4, rfl, g, r4⟩
                have G := G.call g
                have h0 := G.blk 0 rfl; try have h1 := G.blk 1 rfl; try have h2 := G.blk 2 rfl; try have h3 := G.blk 3 rfl; try have h4 := G.blk 4 rfl; try have h5 := G.blk 5 rfl
                (repeat refine Zlr ?_)
                refine s_stw (vs := qc X (q4)) rfl rfl rfl rfl rfl h2 rfl (fun w s => ?_)
                have G := G.put 2 rfl s rfl
                have h0 := G.blk 0 rfl; try have h1 := G.blk 1 rfl; try have h2 := G.blk 2 rfl; try have h3 := G.blk 3 rfl; try have h4 := G.blk 4 rfl; try have h5 := G.blk 5 rfl
                (repeat refine Zlr ?_)
                refine ret_c2 rfl (rv_agw rfl h2 rfl rfl) (rv_t rfl) ⟨q4, c4, rfl, G.sg, ?_⟩
                refine r1.bind (fun _ => ?_) fun h => (h hc1).elim
                simp only [if_pos hw, ← hs2]
                refine (r3.on hc2).bind (fun h3 => (want_res wRbra h3).bind (fun h4 => r4.on h4) fun h => r4.on_er h) fun h => ?_
                rw [want_er h] at r4
                exact r4.on_er h
              | false =>
                refine c_f rfl ?_
                (repeat refine Zlr ?_)
                refine s_call (us := []) (zs := []) (by kernel_rfl) rfl rfl (isW G.at_ wLpar (by decide) (by decide)) ?_
                rintro _ w ⟨rfl, k⟩
                have G := G.no k
                have h0 := G.blk 0 rfl; try have h1 := G.blk 1 rfl; try have h2 := G.blk 2 rfl; try have h3 := G.blk 3 rfl; try have h4 := G.blk 4 rfl; try have h5 := G.blk 5 rfl
                (repeat refine Zlr ?_)
                cases hi2 : isQ X wLpar q1 with
                | true =>
                  obtain ⟨hc1, hw⟩ := is_yes hi2
                  have n5 := is_no hi hc1
                  have hr1 := r1.next hr hc1
                  simp only [if_neg n5, if_pos hw] at hr1
                  refine c_t rfl ?_
                  (repeat refine Zlr ?_)
                  refine s_call (us := []) (zs := []) (by kernel_rfl) rfl rfl (hC (Sy.hr X.E q.s) nm d q1 _ hd G.at_ (On_ne fun _ => hr1)) ?_
                  rintro _ w ⟨q3, a, rfl, g, r3⟩
                  have G := G.call g
                  have h0 := G.blk 0 rfl; try have h1 := G.blk 1 rfl; try have h2 := G.blk 2 rfl; try have h3 := G.blk 3 rfl; try have h4 := G.blk 4 rfl; try have h5 := G.blk 5 rfl
                  (repeat refine Zlr ?_)
                  refine s_stw (vs := qc X (q3)) rfl rfl rfl rfl rfl h1 rfl (fun w s => ?_)
                  have G := G.put 1 rfl s rfl
                  have h0 := G.blk 0 rfl; try have h1 := G.blk 1 rfl; try have h2 := G.blk 2 rfl; try have h3 := G.blk 3 rfl; try have h4 := G.blk 4 rfl; try have h5 := G.blk 5 rfl
                  (repeat refine Zlr ?_)
                  refine ret_c2 rfl (rv_agw rfl h1 rfl rfl) (rv_t rfl) ⟨q3, a, rfl, G.sg, ?_⟩
                  refine r1.bind (fun _ => ?_) fun h => (h hc1).elim
                  simp only [if_neg n5, if_pos hw]
                  exact r3.on hc1
                | false =>
                  refine c_f rfl ?_
                  (repeat refine Zlr ?_)
                  refine s_call (us := []) (zs := []) (by kernel_rfl) rfl rfl (putF G.at_ (Sy.hr X.E q.s) { k := 4, nm := nm } none 0 0 fun h4 => ⟨LI.nil, Ow.nil, by rw [u1 h4]; exact Nat.succ_le_succ hxl⟩) ?_
                  rintro _ w ⟨q4, c4, rfl, g, r4⟩
                  have G := G.call g
                  have h0 := G.blk 0 rfl; try have h1 := G.blk 1 rfl; try have h2 := G.blk 2 rfl; try have h3 := G.blk 3 rfl; try have h4 := G.blk 4 rfl; try have h5 := G.blk 5 rfl
                  (repeat refine Zlr ?_)
                  refine s_stw (vs := qc X (q4)) rfl rfl rfl rfl rfl h1 rfl (fun w s => ?_)
                  have G := G.put 1 rfl s rfl
                  have h0 := G.blk 0 rfl; try have h1 := G.blk 1 rfl; try have h2 := G.blk 2 rfl; try have h3 := G.blk 3 rfl; try have h4 := G.blk 4 rfl; try have h5 := G.blk 5 rfl
                  (repeat refine Zlr ?_)
                  refine ret_c2 rfl (rv_agw rfl h1 rfl rfl) (rv_t rfl) ⟨q4, c4, rfl, G.sg, ?_⟩
                  refine r1.bind (fun hc1 => ?_) fun h => r4.on_er h
                  simp only [if_neg (is_no hi hc1), if_neg (is_no hi2 hc1)]
                  exact r4.on hc1
  · refine c_t (by show Value.bool (q.c != 0) = _; rw [bne_iff_ne.2 hc]) ?_
    (repeat refine Zlr ?_)
    refine s_stw (vs := qc X (q)) rfl rfl rfl rfl rfl h0 rfl (fun w s => ?_)
    have G := G.put 0 rfl s rfl
    have h0 := G.blk 0 rfl; try have h1 := G.blk 1 rfl; try have h2 := G.blk 2 rfl; try have h3 := G.blk 3 rfl; try have h4 := G.blk 4 rfl; try have h5 := G.blk 5 rfl
    (repeat refine Zlr ?_)
    refine ret_c2 rfl (rv_agw rfl h0 rfl rfl) (rv_t rfl) ⟨q, 0, rfl, G.sg, ?_⟩
    exact Res.of_er hc hc
end
end Go.Proofs.YtfnbgbeinmekgaaGreatDoor.Rf
