/- Code: strings.Split at a blank. -/
import Derived.Test.YtpamkidcmjfieaaDoorCn
namespace Go.Proofs.YtpamkidcmjfieaaDoor
open Go Go.RowKit Fw Nu
set_option linter.unusedVariables false
set_option maxRecDepth 20000
namespace Cd
def sv (p : List Int) : Value := .string (strOfNums p)
/-- Texts in a row. -/
def RS (w : World) (a : Option Addr) (ps : List (List Int)) : Prop := ps = [] ∨ ∃ b o, a = some ⟨b, o, none⟩ ∧ b < w.heap.size ∧ ∀ (j : Nat) p, ps[j]? = some p → w.cell? ⟨b, o + j, none⟩ = some (sv p)
theorem RS.kp {S : Nat → Prop} {w w' : World} {a : Option Addr} {ps : List (List Int)} (h : RS w a ps) (k : Kp S w w') (hS : ∀ q, q < w.heap.size → ¬ S q) : RS w' a ps := by
  rcases h with h | ⟨b, o, rfl, hb, h⟩
  · exact .inl h
  · exact .inr ⟨b, o, rfl, Nat.lt_of_lt_of_le hb k.size, fun j p hj => k.cell (h j p hj) (hS _ hb)⟩
theorem RS.kp0 {w w' : World} {a : Option Addr} {ps : List (List Int)} (h : RS w a ps) (k : Kp No w w') : RS w' a ps := h.kp k fun _ _ h => h
theorem RS.at {w : World} {a : Option Addr} {ps : List (List Int)} (h : RS w a ps) {j : Nat} {p : List Int} (hj : ps[j]? = some p) : ∃ b o, a = some ⟨b, o, none⟩ ∧ b < w.heap.size ∧ w.cell? ⟨b, o + (j : Int).toNat * 1, none⟩ = some (sv p) := by
  rcases h with rfl | ⟨b, o, rfl, hb, h⟩
  · cases hj
  · exact ⟨b, o, rfl, hb, by rw [Int.toNat_natCast, Nat.mul_one]; exact h j p hj⟩
theorem RS.sub {w : World} {a : Option Addr} {ps : List (List Int)} (h : RS w a ps) {k c : Nat} (hc : ps.length ≤ c) : RS w (subA a k c 1) (ps.drop k) := by
  rcases h with rfl | ⟨b, o, rfl, hb, h⟩
  · exact .inl (by simp)
  · by_cases hk : k < ps.length
    · rw [subA_at (by omega)]
      refine .inr ⟨b, o + k * 1, rfl, hb, fun j p hj => ?_⟩
      rw [List.getElem?_drop] at hj
      have := h _ _ hj
      rw [Nat.mul_one, Nat.add_assoc]; exact this
    · exact .inl (List.drop_eq_nil_of_le (by omega))
theorem nums_B (s : ByteArray) : strOfNums (B s) = s := B_inj (B_nums fun c hc => B_range hc)
theorem spl_cut {c : Int} {L : List Int} {i : Nat} (h : Sp.fst c L = some i) : Sp.spl c L = L.take i :: Sp.spl c (L.drop (i + 1)) := by
  obtain ⟨_, h2, h3⟩ := Sp.fst_some h
  conv => lhs; rw [h2]
  exact Sp.spl_at c _ _ h3
theorem spl_end {c : Int} {L : List Int} (h : Sp.fst c L = none) : Sp.spl c L = [L] := Sp.spl_no c L (Sp.fst_none h)
theorem spl_len (c : UInt8) : ∀ l : List UInt8, (Sp.spl (c.toNat : Int) (l.map fun b => (b.toNat : Int))).length = Lib.countByte l c + 1 := by
  intro l
  induction l with
  | nil => rfl
  | cons b l ih =>
    rw [List.map_cons, Sp.spl]
    by_cases h : b = c
    · subst h
      rw [if_pos rfl, List.length_cons, ih]
      simp [Lib.countByte]
    · have h1 : ¬ (b.toNat : Int) = c.toNat := fun e => h (UInt8.toNat_inj.1 (by omega))
      rw [if_neg h1]
      have hc : Lib.countByte (b :: l) c = Lib.countByte l c := by simp [Lib.countByte, h]
      rw [hc]
      cases hs : Sp.spl (c.toNat : Int) (l.map fun b => (b.toNat : Int)) with
      | nil => exact (Sp.spl_ne _ _ hs).elim
      | cons v t => rw [hs] at ih; exact ih
theorem idx32 (s : ByteArray) (w : World) : Ret Tryd.prog 35 [.string s, .string ⟨#[32]⟩] w fun v w1 => v = .int .i64 (match Sp.fst 32 (B s) with | some i => (i : Int) | none => -1) ∧ w1 = w := by
  refine Calls.mono (Tryd.stringslite_Index_one s 32 w) ?_
  rintro e w1 ⟨rfl, rfl⟩
  exact ⟨_, rfl, congrArg _ (Sp.index_B s 32 (by decide) (by decide)), rfl⟩
theorem index32 (s : ByteArray) (w : World) : Ret Tryd.prog 46 [.string s, .string ⟨#[32]⟩] w fun v w1 => v = .int .i64 (match Sp.fst 32 (B s) with | some i => (i : Int) | none => -1) ∧ w1 = w := by
  refine ret_enter Tryd.func46 rfl Tryd.ntmps46 rfl ?_
  (repeat (first | refine k_nil ?_ | refine k_n ?_ | refine k_r ?_ | refine k_x ?_ | refine b_n ?_ | refine b_r ?_ | refine b_y rfl ?_ | refine b_z rfl ?_ | refine l_r ?_ | refine l_x ?_ | refine k_seq ?_ | refine k_blk ?_ | refine k_reg ?_ | refine k_ret ?_ | refine k_exit ?_ | refine k_skip ?_ | refine Zs ?_))
  refine s_call (us := []) (zs := []) (by kernel_rfl) rfl rfl (idx32 s w) ?_
  rintro _ w1 ⟨rfl, rfl⟩
  (repeat (first | refine k_nil ?_ | refine k_n ?_ | refine k_r ?_ | refine k_x ?_ | refine b_n ?_ | refine b_r ?_ | refine b_y rfl ?_ | refine b_z rfl ?_ | refine l_r ?_ | refine l_x ?_ | refine k_seq ?_ | refine k_blk ?_ | refine k_reg ?_ | refine k_ret ?_ | refine k_exit ?_ | refine k_skip ?_ | refine Zs ?_))
  exact ret_1 rfl rfl ⟨rfl, rfl⟩
theorem count32 (s : ByteArray) (w : World) : Ret Tryd.prog 45 [.string s, .string ⟨#[32]⟩] w fun v w1 => v = .int .i64 (((Sp.spl 32 (B s)).length : Int) - 1) ∧ w1 = w := by
  refine Calls.mono (Tryd.strings_Count_one s 32 w) ?_
  rintro e w1 ⟨rfl, rfl⟩
  have : (Sp.spl 32 (B s)).length = Lib.countByte s.data.toList 32 + 1 := spl_len 32 s.data.toList
  exact ⟨_, rfl, by rw [this]; congr 1; omega, rfl⟩
set_option maxHeartbeats 4000000 in
theorem genSplit (s : ByteArray) (w : World) (hs : s.size ≤ 1000000) : Ret Tryd.prog 36 [.string s, .string ⟨#[32]⟩, .int .i64 0, .int .i64 (-1)] w fun v w1 =>
    ∃ g, v = .slice (some ⟨g, 0, none⟩) (Sp.spl 32 (B s)).length (Sp.spl 32 (B s)).length ∧ w1.heap[g]? = some (.cells ((Sp.spl 32 (B s)).map sv).toArray 9 (0, 0)) ∧ w.heap.size ≤ g ∧ Kp No w w1 := by
  refine ret_enter Tryd.func36 rfl Tryd.ntmps36 rfl ?_
  obtain ⟨N, hN⟩ : ∃ N, (Sp.spl 32 (B s)).length = N := ⟨_, rfl⟩
  have hN0 : 1 ≤ N := by
    cases h : Sp.spl 32 (B s) with
    | nil => exact (Sp.spl_ne _ _ h).elim
    | cons a r => rw [h] at hN; simp at hN; omega
  have hN1 : N ≤ s.size + 1 := by have := Sp.spl_length 32 (B s); rw [B_len] at this; omega
  (repeat (first | refine k_nil ?_ | refine k_n ?_ | refine k_r ?_ | refine k_x ?_ | refine b_n ?_ | refine b_r ?_ | refine b_y rfl ?_ | refine b_z rfl ?_ | refine l_r ?_ | refine l_x ?_ | refine k_seq ?_ | refine k_blk ?_ | refine k_reg ?_ | refine k_ret ?_ | refine k_exit ?_ | refine k_skip ?_ | refine Zs ?_))
  refine c_eq rfl (fun h => absurd h (by decide)) (fun _ => ?_)
  (repeat (first | refine k_nil ?_ | refine k_n ?_ | refine k_r ?_ | refine k_x ?_ | refine b_n ?_ | refine b_r ?_ | refine b_y rfl ?_ | refine b_z rfl ?_ | refine l_r ?_ | refine l_x ?_ | refine k_seq ?_ | refine k_blk ?_ | refine k_reg ?_ | refine k_ret ?_ | refine k_exit ?_ | refine k_skip ?_ | refine Zs ?_))
  refine c_b rfl (fun he => by rw [str_eq] at he; have he := of_decide_eq_true he; simp [B] at he) (fun _ => ?_)
  (repeat (first | refine k_nil ?_ | refine k_n ?_ | refine k_r ?_ | refine k_x ?_ | refine b_n ?_ | refine b_r ?_ | refine b_y rfl ?_ | refine b_z rfl ?_ | refine l_r ?_ | refine l_x ?_ | refine k_seq ?_ | refine k_blk ?_ | refine k_reg ?_ | refine k_ret ?_ | refine k_exit ?_ | refine k_skip ?_ | refine Zs ?_))
  refine c_dec rfl (fun _ => ?_) (fun h => absurd (by decide) h)
  (repeat (first | refine k_nil ?_ | refine k_n ?_ | refine k_r ?_ | refine k_x ?_ | refine b_n ?_ | refine b_r ?_ | refine b_y rfl ?_ | refine b_z rfl ?_ | refine l_r ?_ | refine l_x ?_ | refine k_seq ?_ | refine k_blk ?_ | refine k_reg ?_ | refine k_ret ?_ | refine k_exit ?_ | refine k_skip ?_ | refine Zs ?_))
  refine s_call (us := []) (zs := []) (by kernel_rfl) rfl rfl (count32 s w) ?_
  rintro _ w1 ⟨rfl, rfl⟩
  rw [hN]
  (repeat (first | refine k_nil ?_ | refine k_n ?_ | refine k_r ?_ | refine k_x ?_ | refine b_n ?_ | refine b_r ?_ | refine b_y rfl ?_ | refine b_z rfl ?_ | refine l_r ?_ | refine l_x ?_ | refine k_seq ?_ | refine k_blk ?_ | refine k_reg ?_ | refine k_ret ?_ | refine k_exit ?_ | refine k_skip ?_ | refine Zs ?_))
  rw [show min ((N : Int) - 1 + 1) ((s.size : Int) + 1) = N from by omega]
  refine s_ms1 (m := N) (c := N) rfl rfl rfl rfl rfl rfl rfl (Nat.le_refl _) (by show 16 * N ≤ _; omega) (by omega) (fun g w2 n2 => ?_)
  have g2 := n2.ge
  (repeat (first | refine k_nil ?_ | refine k_n ?_ | refine k_r ?_ | refine k_x ?_ | refine b_n ?_ | refine b_r ?_ | refine b_y rfl ?_ | refine b_z rfl ?_ | refine l_r ?_ | refine l_x ?_ | refine k_seq ?_ | refine k_blk ?_ | refine k_reg ?_ | refine k_ret ?_ | refine k_exit ?_ | refine k_skip ?_ | refine Zs ?_))
  refine k_loop (σ := Nat × ByteArray) (fun t => [(0, .string t.2), (1, .string ⟨#[32]⟩), (2, .int .i64 0), (3, .int .i64 ((N : Int) - 1)), (9, .slice (some ⟨g, 0, none⟩) N N), (10, .int .i64 t.1)])
    (fun t m => t.1 + 1 ≤ N ∧ Kp No w1 m ∧ t.2.size ≤ s.size ∧ ∃ dn : List (List Int), dn.length = t.1 ∧ Sp.spl 32 (B s) = dn ++ Sp.spl 32 (B t.2) ∧ m.heap[g]? = some (.cells (dn.map sv ++ List.replicate (N - t.1) (Value.string ⟨#[]⟩)).toArray 9 (0, 0))) (fun t => N - t.1) (0, s)
    ⟨rfl, rfl, rfl, rfl, rfl, rfl, trivial⟩ ⟨by show 0 + 1 ≤ N; omega, n2.kp, Nat.le_refl _, [], rfl, rfl, n2.blk⟩ ?_
  rintro ⟨i, rs⟩ l m ⟨hi, km, hrs, dn, hdl, hsp, hrow⟩
  simp only at hi hrs hdl hsp hrow
  try dsimp only
  have hrl : (Sp.spl 32 (B rs)).length = N - i := by have := congrArg List.length hsp; rw [hN, List.length_append] at this; omega
  have hset : ∀ p : List Int, (dn.map sv ++ List.replicate (N - i) (Value.string ⟨#[]⟩)).set i (sv p) = (dn ++ [p]).map sv ++ List.replicate (N - (i + 1)) (Value.string ⟨#[]⟩) := fun p => by
    rw [List.set_append_right _ _ (by rw [List.length_map]; omega), List.length_map, hdl, Nat.sub_self, show N - i = (N - (i + 1)) + 1 from by omega, List.replicate_succ, List.set_cons_zero, List.map_append, List.append_assoc]
    rfl
  have hrlen : (dn.map sv ++ List.replicate (N - i) (Value.string ⟨#[]⟩)).length = N := by rw [List.length_append, List.length_map, List.length_replicate]; omega
  have hz : 0 + (i : Int).toNat * 1 = i := by omega
  (repeat (first | refine k_nil ?_ | refine k_n ?_ | refine k_r ?_ | refine k_x ?_ | refine b_n ?_ | refine b_r ?_ | refine b_y rfl ?_ | refine b_z rfl ?_ | refine l_r ?_ | refine l_x ?_ | refine k_seq ?_ | refine k_blk ?_ | refine k_reg ?_ | refine k_ret ?_ | refine k_exit ?_ | refine k_skip ?_ | refine Zs ?_))
  refine c_dec rfl (fun hlt => ?_) (fun hge => ?_)
  · (repeat (first | refine k_nil ?_ | refine k_n ?_ | refine k_r ?_ | refine k_x ?_ | refine b_n ?_ | refine b_r ?_ | refine b_y rfl ?_ | refine b_z rfl ?_ | refine l_r ?_ | refine l_x ?_ | refine k_seq ?_ | refine k_blk ?_ | refine k_reg ?_ | refine k_ret ?_ | refine k_exit ?_ | refine k_skip ?_ | refine Zs ?_))
    refine s_call (us := []) (zs := []) (by kernel_rfl) rfl rfl (index32 rs m) ?_
    rintro _ m1 ⟨rfl, rfl⟩
    cases hk : Sp.fst 32 (B rs) with
    | none => rw [spl_end hk] at hrl; simp at hrl; omega
    | some k =>
      have hkl := (Sp.fst_some hk).1
      rw [B_len] at hkl
      have hcut := spl_cut hk
      have h32 : (ByteArray.mk #[32]).size = 1 := rfl
      simp only
      (repeat (first | refine k_nil ?_ | refine k_n ?_ | refine k_r ?_ | refine k_x ?_ | refine b_n ?_ | refine b_r ?_ | refine b_y rfl ?_ | refine b_z rfl ?_ | refine l_r ?_ | refine l_x ?_ | refine k_seq ?_ | refine k_blk ?_ | refine k_reg ?_ | refine k_ret ?_ | refine k_exit ?_ | refine k_skip ?_ | refine Zs ?_))
      refine c_dec rfl (fun h0 => (by omega : False).elim) (fun _ => ?_)
      (repeat (first | refine k_nil ?_ | refine k_n ?_ | refine k_r ?_ | refine k_x ?_ | refine b_n ?_ | refine b_r ?_ | refine b_y rfl ?_ | refine b_z rfl ?_ | refine l_r ?_ | refine l_x ?_ | refine k_seq ?_ | refine k_blk ?_ | refine k_reg ?_ | refine k_ret ?_ | refine k_exit ?_ | refine k_skip ?_ | refine Zs ?_))
      refine s_v (r_sh rfl rfl rfl (by omega) (by omega)) ?_
      refine s_v (r_ia (i := i) rfl rfl rfl rfl (by omega) (by omega)) ?_
      refine s_st (vs := [.string (rs.extract 0 ((k : Int) + 0).toNat)]) rfl rfl rfl rfl rfl hrow (by rw [hz, hrlen]; show i + 1 ≤ N; omega) (fun m2 s2 => ?_)
      have s2' : Sb m1 g ((dn.map sv ++ List.replicate (N - i) (Value.string ⟨#[]⟩)).set (0 + (i : Int).toNat * 1) (.string (rs.extract 0 ((k : Int) + 0).toNat))) 9 m2 := s2
      have hp : Value.string (rs.extract 0 ((k : Int) + 0).toNat) = sv ((B rs).take k) := by
        rw [sv, ← nums_B (rs.extract 0 ((k : Int) + 0).toNat), B_extract, List.drop_zero, show ((k : Int) + 0).toNat = k from by omega]
      rw [hz, hp, hset] at s2'
      (repeat (first | refine k_nil ?_ | refine k_n ?_ | refine k_r ?_ | refine k_x ?_ | refine b_n ?_ | refine b_r ?_ | refine b_y rfl ?_ | refine b_z rfl ?_ | refine l_r ?_ | refine l_x ?_ | refine k_seq ?_ | refine k_blk ?_ | refine k_reg ?_ | refine k_ret ?_ | refine k_exit ?_ | refine k_skip ?_ | refine Zs ?_))
      refine s_v (r_sl rfl rfl rfl (by omega) (by omega)) ?_
      (repeat (first | refine k_nil ?_ | refine k_n ?_ | refine k_r ?_ | refine k_x ?_ | refine b_n ?_ | refine b_r ?_ | refine b_y rfl ?_ | refine b_z rfl ?_ | refine l_r ?_ | refine l_x ?_ | refine k_seq ?_ | refine k_blk ?_ | refine k_reg ?_ | refine k_ret ?_ | refine k_exit ?_ | refine k_skip ?_ | refine Zs ?_))
      have hB2 : B (rs.extract ((k : Int) + 1).toNat rs.size) = (B rs).drop (k + 1) := by
        rw [B_extract, List.take_of_length_le (by rw [B_len]; omega), show ((k : Int) + 1).toNat = k + 1 from by omega]
      refine l_next (i + 1, rs.extract ((k : Int) + 1).toNat rs.size) ⟨rfl, rfl, rfl, rfl, rfl, rfl, trivial⟩ ⟨by show i + 1 + 1 ≤ N; omega, km.trans s2'.kp (fun q hq e => by have e : q = g := e; omega), ?_, dn ++ [(B rs).take k], ?_, ?_, s2'.blk⟩ (by show N - (i + 1) < N - i; omega)
      · show (rs.extract ((k : Int) + 1).toNat rs.size).size ≤ s.size
        rw [← B_len, hB2, List.length_drop, B_len]
        omega
      · show (dn ++ [(B rs).take k]).length = i + 1
        rw [List.length_append, hdl]; rfl
      · show Sp.spl 32 (B s) = _ ++ Sp.spl 32 (B (rs.extract ((k : Int) + 1).toNat rs.size))
        rw [hB2, hsp, hcut, List.append_assoc]
        rfl
  · have hiN : i + 1 = N := by omega
    have hend : Sp.spl 32 (B rs) = [B rs] := by
      cases hk : Sp.fst 32 (B rs) with
      | none => exact spl_end hk
      | some k =>
        have := congrArg List.length (spl_cut hk)
        rw [hrl, List.length_cons] at this
        have h2 := Sp.spl_ne 32 ((B rs).drop (k + 1))
        have h3 : (Sp.spl 32 ((B rs).drop (k + 1))).length = 0 := by omega
        exact (h2 (List.length_eq_zero_iff.1 h3)).elim
    (repeat (first | refine k_nil ?_ | refine k_n ?_ | refine k_r ?_ | refine k_x ?_ | refine b_n ?_ | refine b_r ?_ | refine b_y rfl ?_ | refine b_z rfl ?_ | refine l_r ?_ | refine l_x ?_ | refine k_seq ?_ | refine k_blk ?_ | refine k_reg ?_ | refine k_ret ?_ | refine k_exit ?_ | refine k_skip ?_ | refine Zs ?_))
    refine s_v (r_ia (i := i) rfl rfl rfl rfl (by omega) (by omega)) ?_
    refine s_st (vs := [.string rs]) rfl rfl rfl rfl rfl hrow (by rw [hz, hrlen]; show i + 1 ≤ N; omega) (fun m2 s2 => ?_)
    have s2' : Sb m g ((dn.map sv ++ List.replicate (N - i) (Value.string ⟨#[]⟩)).set (0 + (i : Int).toNat * 1) (.string rs)) 9 m2 := s2
    have hp : Value.string rs = sv (B rs) := by rw [sv, nums_B]
    rw [hz, hp, hset] at s2'
    have hall : (dn ++ [B rs]).map sv ++ List.replicate (N - (i + 1)) (Value.string ⟨#[]⟩) = (Sp.spl 32 (B s)).map sv := by
      rw [hsp, hend, show N - (i + 1) = 0 from by omega]
      simp
    rw [hall] at s2'
    (repeat (first | refine k_nil ?_ | refine k_n ?_ | refine k_r ?_ | refine k_x ?_ | refine b_n ?_ | refine b_r ?_ | refine b_y rfl ?_ | refine b_z rfl ?_ | refine l_r ?_ | refine l_x ?_ | refine k_seq ?_ | refine k_blk ?_ | refine k_reg ?_ | refine k_ret ?_ | refine k_exit ?_ | refine k_skip ?_ | refine Zs ?_))
    refine s_v (r_slx (a' := some ⟨g, 0, none⟩) (n' := N) (c' := N) rfl rfl rfl rfl rfl (by omega) (by omega) (by omega) (by omega) subA_0 (by omega) (by omega)) ?_
    (repeat (first | refine k_nil ?_ | refine k_n ?_ | refine k_r ?_ | refine k_x ?_ | refine b_n ?_ | refine b_r ?_ | refine b_y rfl ?_ | refine b_z rfl ?_ | refine l_r ?_ | refine l_x ?_ | refine k_seq ?_ | refine k_blk ?_ | refine k_reg ?_ | refine k_ret ?_ | refine k_exit ?_ | refine k_skip ?_ | refine Zs ?_))
    exact ret_1 rfl rfl ⟨g, rfl, s2'.blk, g2, km.trans s2'.kp (fun q hq e => by have e : q = g := e; omega)⟩
theorem Split (s : ByteArray) (w : World) (hs : s.size ≤ 1000000) : Ret Tryd.prog 24 [.string s, .string ⟨#[32]⟩] w fun v w1 =>
    ∃ g, v = .slice (some ⟨g, 0, none⟩) (Sp.spl 32 (B s)).length (Sp.spl 32 (B s)).length ∧ w1.heap[g]? = some (.cells ((Sp.spl 32 (B s)).map sv).toArray 9 (0, 0)) ∧ w.heap.size ≤ g ∧ Kp No w w1 := by
  refine ret_enter Tryd.func24 rfl Tryd.ntmps24 rfl ?_
  (repeat (first | refine k_nil ?_ | refine k_n ?_ | refine k_r ?_ | refine k_x ?_ | refine b_n ?_ | refine b_r ?_ | refine b_y rfl ?_ | refine b_z rfl ?_ | refine l_r ?_ | refine l_x ?_ | refine k_seq ?_ | refine k_blk ?_ | refine k_reg ?_ | refine k_ret ?_ | refine k_exit ?_ | refine k_skip ?_ | refine Zs ?_))
  refine s_call (us := []) (zs := []) (by kernel_rfl) rfl rfl (genSplit s w hs) ?_
  rintro _ w1 ⟨g, rfl, h1, h2, h3⟩
  (repeat (first | refine k_nil ?_ | refine k_n ?_ | refine k_r ?_ | refine k_x ?_ | refine b_n ?_ | refine b_r ?_ | refine b_y rfl ?_ | refine b_z rfl ?_ | refine l_r ?_ | refine l_x ?_ | refine k_seq ?_ | refine k_blk ?_ | refine k_reg ?_ | refine k_ret ?_ | refine k_exit ?_ | refine k_skip ?_ | refine Zs ?_))
  exact ret_1 rfl rfl ⟨g, rfl, h1, h2, h3⟩
end Cd
end Go.Proofs.YtpamkidcmjfieaaDoor
