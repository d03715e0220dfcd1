/- Tokens, by definition over a text's bytes: no program. Tokens: what the small functions answer. Tokens: the next one. Tokens: the program's Next. Tokens: a text's all, their bytes, the words. Tokens: a row of tokens that is read. -/
import Derived.Test.YtgnkdeapifbgeaaDoorFz
import Derived.Test.YtgnkdeapifbgeaaDoorProg
namespace Go.Proofs.YtgnkdeapifbgeaaDoor.Tk
open Go Fw
set_option linter.unusedVariables false
def lett (c : Int) : Bool := c == 95 || (decide (97 ≤ c) && decide (c ≤ 122)) || (decide (65 ≤ c) && decide (c ≤ 90))
def digi (c : Int) : Bool := decide (48 ≤ c) && decide (c ≤ 57)
def eith (c : Int) : Bool := lett c || digi c
def blan (c : Int) : Bool := c == 32 || c == 9 || c == 10 || c == 13
def not10 (c : Int) : Bool := c != 10
/-- How many bytes are blanks, comments among them; true: within a comment. -/
def sk : Bool → List Int → Nat
  | _, [] => 0
  | false, c :: r => if blan c then sk false r + 1 else if c = 35 then sk true r + 1 else 0
  | true, c :: r => if c = 10 then sk false r + 1 else sk true r + 1
/-- How many bytes of a kind stand ahead. -/
def rn (p : Int → Bool) : List Int → Nat
  | [] => 0
  | c :: r => if p c then rn p r + 1 else 0
def pairsL : List (List Int) := [[61, 61], [33, 61], [60, 61], [62, 61], [38, 38], [124, 124]]
def signsL : List Int := [43, 45, 42, 47, 37, 60, 62, 33, 61, 40, 41, 123, 125, 91, 93, 44, 59]
def wordsL : List (List Int) := [[98, 114, 101, 97, 107], [99, 111, 110, 116, 105, 110, 117, 101], [101, 108, 115, 101], [102, 97, 108, 115, 101], [102, 117, 110, 99], [105, 102], [105, 110, 116], [112, 114, 105, 110, 116], [114, 101, 97, 100], [114, 101, 116, 117, 114, 110], [116, 114, 117, 101], [118, 97, 114], [119, 104, 105, 108, 101]]
def strOf (l : List Int) : ByteArray := ⟨(l.map fun c => c.toNat.toUInt8).toArray⟩
def wordsB : List ByteArray := wordsL.map strOf
def pairsB : List ByteArray := pairsL.map strOf
def sg (L : List Int) : Nat := if pairsL.any (fun p => p.isPrefixOf L) then 2 else match L with | [] => 0 | c :: _ => if signsL.contains c then 1 else 0
/-- The token at a text's beginning: is it one; its kind; how many bytes. -/
def body : List Int → Bool × Int × Nat
  | [] => (true, 0, 0)
  | c :: r =>
    if lett c then (true, (if wordsL.contains ((c :: r).take (rn eith (c :: r))) then 3 else 1), rn eith (c :: r))
    else if digi c then
      if rn digi (c :: r) ≤ 18 ∧ (rn digi (c :: r) = 1 ∨ c ≠ 48) ∧ rn lett ((c :: r).drop (rn digi (c :: r))) = 0 then (true, 2, rn digi (c :: r)) else (false, 0, 0)
    else if sg (c :: r) = 0 then (false, 0, 0) else (true, 4, sg (c :: r))
structure Tok where
  ok : Bool
  k : Int
  n : Nat
  m : Nat
def nx (L : List Int) : Tok := let b := body (L.drop (sk false L)); ⟨b.1, b.2.1, sk false L, b.2.2⟩
theorem sk_le : ∀ (L : List Int) (b : Bool), sk b L ≤ L.length := by
  intro L
  induction L with
  | nil => intro b; cases b <;> simp [sk]
  | cons c r ih =>
    intro b
    have h1 := ih true
    have h2 := ih false
    cases b <;> simp only [sk, List.length_cons] <;> split <;> (try split) <;> omega
theorem rn_le (p : Int → Bool) : ∀ L : List Int, rn p L ≤ L.length := by
  intro L
  induction L with
  | nil => simp [rn]
  | cons c r ih => simp only [rn, List.length_cons]; split <;> omega
theorem sk_true : ∀ L : List Int, sk true L = rn not10 L + sk false (L.drop (rn not10 L)) := by
  intro L
  induction L with
  | nil => simp [sk, rn]
  | cons c r ih =>
    by_cases h : c = 10
    · subst h; simp [sk, rn, not10, blan]
    · have : not10 c = true := by simp [not10, h]
      rw [sk, if_neg h, rn, if_pos this, ih, List.drop_succ_cons]; omega
theorem sg_2 {L : List Int} (h : pairsL.any (fun p => p.isPrefixOf L) = true) : sg L = 2 := by unfold sg; rw [if_pos h]
theorem sg_1 {c : Int} {r : List Int} (h : pairsL.any (fun p => p.isPrefixOf (c :: r)) = false) (h1 : signsL.contains c = true) : sg (c :: r) = 1 := by
  unfold sg; rw [if_neg (by rw [h]; exact Bool.false_ne_true)]; simp only; rw [if_pos h1]
theorem sg_0 {c : Int} {r : List Int} (h : pairsL.any (fun p => p.isPrefixOf (c :: r)) = false) (h1 : signsL.contains c = false) : sg (c :: r) = 0 := by
  unfold sg; rw [if_neg (by rw [h]; exact Bool.false_ne_true)]; simp only; rw [if_neg (by rw [h1]; exact Bool.false_ne_true)]
theorem sg_le (L : List Int) : sg L ≤ L.length := by
  unfold sg
  split
  · rename_i h
    obtain ⟨p, hp, hq⟩ := List.any_eq_true.1 h
    have h1 := (List.isPrefixOf_iff_prefix.1 hq).length_le
    have h2 : ∀ p ∈ pairsL, p.length = 2 := by decide
    have := h2 p hp
    omega
  · split
    · simp
    · rename_i c r
      split <;> simp
theorem body_le (L : List Int) : (body L).2.2 ≤ L.length := by
  unfold body
  split
  · simp
  · rename_i c r
    split
    · exact rn_le _ _
    · split
      · split
        · exact rn_le _ _
        · simp
      · split
        · simp
        · exact sg_le _
theorem nx_le (L : List Int) : (nx L).n + (nx L).m ≤ L.length := by
  have h1 := body_le (L.drop (sk false L))
  have h2 := sk_le L false
  rw [List.length_drop] at h1
  show sk false L + (body (L.drop (sk false L))).2.2 ≤ L.length
  omega
theorem rn_pos {p : Int → Bool} {c : Int} {r : List Int} (h : p c = true) : 0 < rn p (c :: r) := by rw [rn, if_pos h]; omega
theorem body_pos {L : List Int} (h1 : (body L).1 = true) (h0 : L ≠ []) : 0 < (body L).2.2 ∧ (body L).2.1 ≠ 0 := by
  revert h1
  unfold body
  cases L with
  | nil => exact absurd rfl h0
  | cons c r =>
    simp only
    split
    · rename_i h
      intro _
      refine ⟨rn_pos (by simp [eith, h]), ?_⟩
      simp only
      split <;> decide
    · split
      · rename_i h
        split
        · intro _; exact ⟨rn_pos h, (by show (2 : Int) ≠ 0; decide)⟩
        · intro h1; cases h1
      · split
        · intro h1; cases h1
        · intro _; exact ⟨by simp only; omega, (by show (4 : Int) ≠ 0; decide)⟩
theorem drop_at (s : ByteArray) (i : Nat) (h : i < s.size) : (B s).drop i = bt s i :: (B s).drop (i + 1) := by
  have := B_at s i h
  rw [List.drop_eq_getElem_cons (by rw [B_len]; exact h)]
  rw [List.getElem?_eq_getElem (by rw [B_len]; exact h)] at this
  rw [Option.some.inj this]
theorem drop_end (s : ByteArray) (i : Nat) (h : s.size ≤ i) : (B s).drop i = [] := List.drop_eq_nil_of_le (by rw [B_len]; exact h)
theorem or32 (c : Int) (h0 : 0 ≤ c) (h1 : c < 256) : ibits .or .u8 c 32 = if (c / 32) % 2 = 0 then c + 32 else c := by
  have key : ∀ n : Fin 256, ibits .or .u8 (n.val : Int) 32 = if ((n.val : Int) / 32) % 2 = 0 then (n.val : Int) + 32 else (n.val : Int) := by decide +kernel
  have := key ⟨c.toNat, by omega⟩
  simp only at this
  rw [show ((c.toNat : Nat) : Int) = c from by omega] at this
  exact this
theorem ib_blank (c : Int) (h0 : 0 ≤ c) (h1 : c < 256) : decide (0 ≤ Lib.indexByte [32, 9, 10, 13] c.toNat.toUInt8) = blan c := by
  have key : ∀ n : Fin 256, decide (0 ≤ Lib.indexByte [32, 9, 10, 13] n.val.toUInt8) = blan (n.val : Int) := by decide +kernel
  have := key ⟨c.toNat, by omega⟩
  simp only at this
  rw [show ((c.toNat : Nat) : Int) = c from by omega] at this
  exact this
theorem ib_sign (c : Int) (h0 : 0 ≤ c) (h1 : c < 256) : decide (0 ≤ Lib.indexByte [43, 45, 42, 47, 37, 60, 62, 33, 61, 40, 41, 123, 125, 91, 93, 44, 59] c.toNat.toUInt8) = signsL.contains c := by
  have key : ∀ n : Fin 256, decide (0 ≤ Lib.indexByte [43, 45, 42, 47, 37, 60, 62, 33, 61, 40, 41, 123, 125, 91, 93, 44, 59] n.val.toUInt8) = signsL.contains (n.val : Int) := by decide +kernel
  have := key ⟨c.toNat, by omega⟩
  simp only at this
  rw [show ((c.toNat : Nat) : Int) = c from by omega] at this
  exact this
/-- A text in a list: its place; -1: none. -/
def ixS (q : ByteArray → Bool) : List ByteArray → Int
  | [] => -1
  | a :: r => if q a then 0 else if ixS q r < 0 then -1 else ixS q r + 1
theorem ixS_at (q : ByteArray → Bool) : ∀ (xs : List ByteArray) (i : Nat) (x : ByteArray), xs[i]? = some x → q x = true → (∀ j y, j < i → xs[j]? = some y → q y = false) → ixS q xs = i := by
  intro xs
  induction xs with
  | nil => intro i x h; simp at h
  | cons e r ih =>
    intro i x h hx hn
    cases i with
    | zero => simp only [List.getElem?_cons_zero, Option.some.injEq] at h; subst h; simp [ixS, hx]
    | succ i =>
      have h0 := hn 0 e (by omega) rfl
      have := ih i x (by simpa using h) hx (fun j y hj hy => hn (j + 1) y (by omega) (by simpa using hy))
      rw [ixS, if_neg (by simp [h0]), this, if_neg (by omega)]
      omega
theorem ixS_none (q : ByteArray → Bool) : ∀ (xs : List ByteArray), (∀ (j : Nat) y, xs[j]? = some y → q y = false) → ixS q xs = -1 := by
  intro xs
  induction xs with
  | nil => intro _; rfl
  | cons e r ih =>
    intro hn
    have := ih (fun j y hy => hn (j + 1) y (by simpa using hy))
    rw [ixS, if_neg (by simp [hn 0 e rfl]), this]
    rfl
theorem ixS_any (q : ByteArray → Bool) : ∀ (xs : List ByteArray), decide (0 ≤ ixS q xs) = xs.any q := by
  intro xs
  induction xs with
  | nil => rfl
  | cons e r ih =>
    rw [List.any_cons, ← ih, ixS]
    cases h : q e
    · simp only [Bool.false_eq_true, if_false, Bool.false_or]
      split
      · rename_i h1; rw [decide_eq_false (by omega), decide_eq_false (by omega)]
      · rename_i h1; rw [decide_eq_true (by omega), decide_eq_true (by omega)]
    · simp
theorem B_words : wordsB.map B = wordsL := by kernel_rfl
theorem B_pairs : pairsB.map B = pairsL := by kernel_rfl
theorem words_any (x : ByteArray) : wordsB.any (fun y => x.toList == y.toList) = wordsL.contains (B x) := by
  simp only [str_eq]
  rw [← B_words, Bool.eq_iff_iff, List.any_eq_true, List.contains_iff_mem, List.mem_map]
  constructor
  · rintro ⟨y, hy, h⟩; exact ⟨y, hy, (of_decide_eq_true h).symm⟩
  · rintro ⟨y, hy, h⟩; exact ⟨y, hy, decide_eq_true h.symm⟩
theorem pref_eq (s p : ByteArray) : (decide (p.size ≤ s.size) && ((s.extract 0 p.size).toList == p.toList)) = (B p).isPrefixOf (B s) := by
  rw [str_eq, B_extract, List.drop_zero, Bool.eq_iff_iff, List.isPrefixOf_iff_prefix]
  simp only [Bool.and_eq_true, decide_eq_true_eq]
  rw [← B_len p, ← B_len s, List.prefix_iff_eq_take]
  constructor
  · rintro ⟨_, h⟩; exact h.symm
  · intro h; refine ⟨?_, h.symm⟩
    have := congrArg List.length h
    rw [List.length_take] at this
    omega
end Go.Proofs.YtgnkdeapifbgeaaDoor.Tk
namespace Go.Proofs.YtgnkdeapifbgeaaDoor
open Go Go.RowKit Fw
set_option linter.unusedVariables false
set_option maxRecDepth 20000
namespace Tk
/-- The program's two tables. -/
structure Glob (w : World) : Prop where
  words : ∀ j s, wordsB[j]? = some s → w.cell? ⟨0, 0 + j, none⟩ = some (.string s)
  pairs : ∀ j s, pairsB[j]? = some s → w.cell? ⟨1, 0 + j, none⟩ = some (.string s)
theorem Glob.kp {w w' : World} (h : Glob w) (k : Kp No w w') : Glob w' := ⟨fun j s hj => k.cell0 (h.words j s hj), fun j s hj => k.cell0 (h.pairs j s hj)⟩
theorem letter (c : Int) (w : World) (h0 : 0 ≤ c ∧ c < 256) : Ret Tryd.prog 40 [.int .u8 c] w fun v w1 => v = .bool (lett c) ∧ w1 = w := by
  refine ret_enter Tryd.func40 rfl Tryd.ntmps40 rfl ?_
  (repeat (first | refine k_nil ?_ | refine k_n ?_ | refine k_r ?_ | refine k_x ?_ | refine b_n ?_ | refine b_r ?_ | refine b_y rfl ?_ | refine b_z rfl ?_ | refine l_r ?_ | refine l_x ?_ | refine k_seq ?_ | refine k_blk ?_ | refine k_reg ?_ | refine k_ret ?_ | refine k_exit ?_ | refine k_skip ?_ | refine Zs ?_))
  refine s_split 5 rfl (fun h5 => ?_) (fun h5 => ?_)
  · (repeat (first | refine k_nil ?_ | refine k_n ?_ | refine k_r ?_ | refine k_x ?_ | refine b_n ?_ | refine b_r ?_ | refine b_y rfl ?_ | refine b_z rfl ?_ | refine l_r ?_ | refine l_x ?_ | refine k_seq ?_ | refine k_blk ?_ | refine k_reg ?_ | refine k_ret ?_ | refine k_exit ?_ | refine k_skip ?_ | refine Zs ?_ | refine Zn ?_ | refine Zu ?_ | refine Zg ?_))
    refine ret_1 rfl rfl ⟨congrArg Value.bool ?_, rfl⟩
    simp [lett, h5]
  · have ho := or32 c h0.1 h0.2
    have hc : c ≠ 95 := by simpa using h5
    (repeat (first | refine k_nil ?_ | refine k_n ?_ | refine k_r ?_ | refine k_x ?_ | refine b_n ?_ | refine b_r ?_ | refine b_y rfl ?_ | refine b_z rfl ?_ | refine l_r ?_ | refine l_x ?_ | refine k_seq ?_ | refine k_blk ?_ | refine k_reg ?_ | refine k_ret ?_ | refine k_exit ?_ | refine k_skip ?_ | refine Zs ?_ | refine Zn ?_ | refine Zu ?_ | refine Zg ?_))
    refine s_split 9 rfl (fun h9 => ?_) (fun h9 => ?_)
    · have h9' := of_decide_eq_true h9
      (repeat (first | refine k_nil ?_ | refine k_n ?_ | refine k_r ?_ | refine k_x ?_ | refine b_n ?_ | refine b_r ?_ | refine b_y rfl ?_ | refine b_z rfl ?_ | refine l_r ?_ | refine l_x ?_ | refine k_seq ?_ | refine k_blk ?_ | refine k_reg ?_ | refine k_ret ?_ | refine k_exit ?_ | refine k_skip ?_ | refine Zs ?_ | refine Zn ?_ | refine Zu ?_ | refine Zg ?_))
      refine ret_1 rfl rfl ⟨congrArg Value.bool ?_, rfl⟩
      rw [ho] at h9' ⊢
      rw [Bool.eq_iff_iff]
      simp only [lett, decide_eq_true_eq, Bool.or_eq_true, Bool.and_eq_true, beq_iff_eq]
      split <;> split at h9' <;> omega
    · have h9' := of_decide_eq_false h9
      (repeat (first | refine k_nil ?_ | refine k_n ?_ | refine k_r ?_ | refine k_x ?_ | refine b_n ?_ | refine b_r ?_ | refine b_y rfl ?_ | refine b_z rfl ?_ | refine l_r ?_ | refine l_x ?_ | refine k_seq ?_ | refine k_blk ?_ | refine k_reg ?_ | refine k_ret ?_ | refine k_exit ?_ | refine k_skip ?_ | refine Zs ?_ | refine Zn ?_ | refine Zu ?_ | refine Zg ?_))
      refine ret_1 rfl rfl ⟨congrArg Value.bool ?_, rfl⟩
      rw [ho] at h9'
      symm
      rw [Bool.eq_false_iff]
      simp only [lett, ne_eq, decide_eq_true_eq, Bool.or_eq_true, Bool.and_eq_true, beq_iff_eq]
      split at h9' <;> omega
theorem digit (c : Int) (w : World) (h0 : 0 ≤ c ∧ c < 256) : Ret Tryd.prog 44 [.int .u8 c] w fun v w1 => v = .bool (digi c) ∧ w1 = w := by
  refine ret_enter Tryd.func44 rfl Tryd.ntmps44 rfl ?_
  (repeat (first | refine k_nil ?_ | refine k_n ?_ | refine k_r ?_ | refine k_x ?_ | refine b_n ?_ | refine b_r ?_ | refine b_y rfl ?_ | refine b_z rfl ?_ | refine l_r ?_ | refine l_x ?_ | refine k_seq ?_ | refine k_blk ?_ | refine k_reg ?_ | refine k_ret ?_ | refine k_exit ?_ | refine k_skip ?_ | refine Zs ?_))
  refine s_split 5 rfl (fun h5 => ?_) (fun h5 => ?_)
  · (repeat (first | refine k_nil ?_ | refine k_n ?_ | refine k_r ?_ | refine k_x ?_ | refine b_n ?_ | refine b_r ?_ | refine b_y rfl ?_ | refine b_z rfl ?_ | refine l_r ?_ | refine l_x ?_ | refine k_seq ?_ | refine k_blk ?_ | refine k_reg ?_ | refine k_ret ?_ | refine k_exit ?_ | refine k_skip ?_ | refine Zs ?_ | refine Zn ?_ | refine Zu ?_ | refine Zg ?_))
    refine ret_1 rfl rfl ⟨congrArg Value.bool ?_, rfl⟩
    simp [digi, h5]
  · (repeat (first | refine k_nil ?_ | refine k_n ?_ | refine k_r ?_ | refine k_x ?_ | refine b_n ?_ | refine b_r ?_ | refine b_y rfl ?_ | refine b_z rfl ?_ | refine l_r ?_ | refine l_x ?_ | refine k_seq ?_ | refine k_blk ?_ | refine k_reg ?_ | refine k_ret ?_ | refine k_exit ?_ | refine k_skip ?_ | refine Zs ?_ | refine Zn ?_ | refine Zu ?_ | refine Zg ?_))
    refine ret_1 rfl rfl ⟨congrArg Value.bool ?_, rfl⟩
    simp [digi, h5]
theorem either (c : Int) (w : World) (h0 : 0 ≤ c ∧ c < 256) : Ret Tryd.prog 42 [.int .u8 c] w fun v w1 => v = .bool (eith c) ∧ w1 = w := by
  refine ret_enter Tryd.func42 rfl Tryd.ntmps42 rfl ?_
  (repeat (first | refine k_nil ?_ | refine k_n ?_ | refine k_r ?_ | refine k_x ?_ | refine b_n ?_ | refine b_r ?_ | refine b_y rfl ?_ | refine b_z rfl ?_ | refine l_r ?_ | refine l_x ?_ | refine k_seq ?_ | refine k_blk ?_ | refine k_reg ?_ | refine k_ret ?_ | refine k_exit ?_ | refine k_skip ?_ | refine Zs ?_))
  refine s_call (us := []) (zs := []) (by kernel_rfl) rfl rfl (letter c w h0) ?_
  rintro _ w1 ⟨rfl, rfl⟩
  (repeat (first | refine k_nil ?_ | refine k_n ?_ | refine k_r ?_ | refine k_x ?_ | refine b_n ?_ | refine b_r ?_ | refine b_y rfl ?_ | refine b_z rfl ?_ | refine l_r ?_ | refine l_x ?_ | refine k_seq ?_ | refine k_blk ?_ | refine k_reg ?_ | refine k_ret ?_ | refine k_exit ?_ | refine k_skip ?_ | refine Zs ?_))
  refine s_split 5 rfl (fun h5 => ?_) (fun h5 => ?_)
  · (repeat (first | refine k_nil ?_ | refine k_n ?_ | refine k_r ?_ | refine k_x ?_ | refine b_n ?_ | refine b_r ?_ | refine b_y rfl ?_ | refine b_z rfl ?_ | refine l_r ?_ | refine l_x ?_ | refine k_seq ?_ | refine k_blk ?_ | refine k_reg ?_ | refine k_ret ?_ | refine k_exit ?_ | refine k_skip ?_ | refine Zs ?_ | refine Zn ?_ | refine Zu ?_ | refine Zg ?_))
    refine ret_1 rfl rfl ⟨congrArg Value.bool ?_, rfl⟩
    simp [eith, h5]
  · (repeat (first | refine k_nil ?_ | refine k_n ?_ | refine k_r ?_ | refine k_x ?_ | refine b_n ?_ | refine b_r ?_ | refine b_y rfl ?_ | refine b_z rfl ?_ | refine l_r ?_ | refine l_x ?_ | refine k_seq ?_ | refine k_blk ?_ | refine k_reg ?_ | refine k_ret ?_ | refine k_exit ?_ | refine k_skip ?_ | refine Zs ?_ | refine Zn ?_ | refine Zu ?_ | refine Zg ?_))
    refine s_gcall (us := []) (zs := []) rfl (by kernel_rfl) rfl rfl (digit c w1 h0) ?_
    rintro _ w2 ⟨rfl, rfl⟩
    (repeat (first | refine k_nil ?_ | refine k_n ?_ | refine k_r ?_ | refine k_x ?_ | refine b_n ?_ | refine b_r ?_ | refine b_y rfl ?_ | refine b_z rfl ?_ | refine l_r ?_ | refine l_x ?_ | refine k_seq ?_ | refine k_blk ?_ | refine k_reg ?_ | refine k_ret ?_ | refine k_exit ?_ | refine k_skip ?_ | refine Zs ?_ | refine Zn ?_ | refine Zu ?_ | refine Zg ?_))
    refine ret_1 rfl rfl ⟨congrArg Value.bool ?_, rfl⟩
    simp [eith, h5]
theorem noline (c : Int) (w : World) : Ret Tryd.prog 49 [.int .u8 c] w fun v w1 => v = .bool (not10 c) ∧ w1 = w := by
  refine ret_enter Tryd.func49 rfl Tryd.ntmps49 rfl ?_
  (repeat (first | refine k_nil ?_ | refine k_n ?_ | refine k_r ?_ | refine k_x ?_ | refine b_n ?_ | refine b_r ?_ | refine b_y rfl ?_ | refine b_z rfl ?_ | refine l_r ?_ | refine l_x ?_ | refine k_seq ?_ | refine k_blk ?_ | refine k_reg ?_ | refine k_ret ?_ | refine k_exit ?_ | refine k_skip ?_ | refine Zs ?_))
  exact ret_1 rfl rfl ⟨rfl, rfl⟩
theorem run (s : ByteArray) (i : Nat) (f : FuncId) (p : Int → Bool) (w : World) (hs : s.size ≤ 1000000) (hi : i ≤ s.size) (hok : callOk Tryd.prog f = true)
    (hp : ∀ c w, 0 ≤ c ∧ c < 256 → Ret Tryd.prog f [.int .u8 c] w fun v w1 => v = .bool (p c) ∧ w1 = w) :
    Ret Tryd.prog 41 [.string s, .int .i64 i, .func (.func f) #[] #[]] w fun v w1 => v = .int .i64 ((i + rn p ((B s).drop i) : Nat) : Int) ∧ w1 = w := by
  refine ret_enter Tryd.func41 rfl Tryd.ntmps41 rfl ?_
  (repeat (first | refine k_nil ?_ | refine k_n ?_ | refine k_r ?_ | refine k_x ?_ | refine b_n ?_ | refine b_r ?_ | refine b_y rfl ?_ | refine b_z rfl ?_ | refine l_r ?_ | refine l_x ?_ | refine k_seq ?_ | refine k_blk ?_ | refine k_reg ?_ | refine k_ret ?_ | refine k_exit ?_ | refine k_skip ?_ | refine Zs ?_))
  refine k_loop (σ := Nat) (fun t => [(0, .string s), (1, .int .i64 t), (2, .func (.func f) #[] #[])]) (fun t w' => t ≤ s.size ∧ t + rn p ((B s).drop t) = i + rn p ((B s).drop i) ∧ w' = w) (fun t => s.size - t) i ⟨rfl, rfl, rfl, trivial⟩ ⟨hi, rfl, rfl⟩ ?_
  rintro t l w ⟨ht, he, rfl⟩
  (repeat (first | refine k_nil ?_ | refine k_n ?_ | refine k_r ?_ | refine k_x ?_ | refine b_n ?_ | refine b_r ?_ | refine b_y rfl ?_ | refine b_z rfl ?_ | refine l_r ?_ | refine l_x ?_ | refine k_seq ?_ | refine k_blk ?_ | refine k_reg ?_ | refine k_ret ?_ | refine k_exit ?_ | refine k_skip ?_ | refine Zs ?_))
  by_cases hlt : t < s.size
  · refine s_set 11 true rfl (by simp; omega) ?_
    have hd := drop_at s t hlt
    (repeat (first | refine k_nil ?_ | refine k_n ?_ | refine k_r ?_ | refine k_x ?_ | refine b_n ?_ | refine b_r ?_ | refine b_y rfl ?_ | refine b_z rfl ?_ | refine l_r ?_ | refine l_x ?_ | refine k_seq ?_ | refine k_blk ?_ | refine k_reg ?_ | refine k_ret ?_ | refine k_exit ?_ | refine k_skip ?_ | refine Zs ?_ | refine Zn ?_ | refine Zu ?_ | refine Zg ?_))
    refine s_gv rfl (r_ix rfl rfl rfl (by omega) (by omega)) ?_
    refine s_gcall (us := []) (zs := []) rfl hok rfl rfl (hp _ w (bt_range s t)) ?_
    rintro _ w1 ⟨rfl, rfl⟩
    (repeat (first | refine k_nil ?_ | refine k_n ?_ | refine k_r ?_ | refine k_x ?_ | refine b_n ?_ | refine b_r ?_ | refine b_y rfl ?_ | refine b_z rfl ?_ | refine l_r ?_ | refine l_x ?_ | refine k_seq ?_ | refine k_blk ?_ | refine k_reg ?_ | refine k_ret ?_ | refine k_exit ?_ | refine k_skip ?_ | refine Zs ?_ | refine Zn ?_ | refine Zu ?_ | refine Zg ?_))
    refine c_b rfl (fun hy => ?_) (fun hn => ?_)
    · (repeat (first | refine k_nil ?_ | refine k_n ?_ | refine k_r ?_ | refine k_x ?_ | refine b_n ?_ | refine b_r ?_ | refine b_y rfl ?_ | refine b_z rfl ?_ | refine l_r ?_ | refine l_x ?_ | refine k_seq ?_ | refine k_blk ?_ | refine k_reg ?_ | refine k_ret ?_ | refine k_exit ?_ | refine k_skip ?_ | refine Zs ?_))
      rw [hd, rn, if_pos hy] at he
      exact l_next (t + 1) ⟨rfl, rfl, rfl, trivial⟩ ⟨by omega, by omega, rfl⟩ (by omega)
    · (repeat (first | refine k_nil ?_ | refine k_n ?_ | refine k_r ?_ | refine k_x ?_ | refine b_n ?_ | refine b_r ?_ | refine b_y rfl ?_ | refine b_z rfl ?_ | refine l_r ?_ | refine l_x ?_ | refine k_seq ?_ | refine k_blk ?_ | refine k_reg ?_ | refine k_ret ?_ | refine k_exit ?_ | refine k_skip ?_ | refine Zs ?_))
      rw [hd, rn, if_neg (by rw [hn]; exact Bool.false_ne_true)] at he
      exact ret_1 rfl rfl ⟨by rw [← he]; rfl, rfl⟩
  · refine s_set 11 false rfl (by simp; omega) ?_
    (repeat (first | refine k_nil ?_ | refine k_n ?_ | refine k_r ?_ | refine k_x ?_ | refine b_n ?_ | refine b_r ?_ | refine b_y rfl ?_ | refine b_z rfl ?_ | refine l_r ?_ | refine l_x ?_ | refine k_seq ?_ | refine k_blk ?_ | refine k_reg ?_ | refine k_ret ?_ | refine k_exit ?_ | refine k_skip ?_ | refine Zs ?_ | refine Zn ?_ | refine Zu ?_ | refine Zg ?_))
    refine c_f rfl ?_
    (repeat (first | refine k_nil ?_ | refine k_n ?_ | refine k_r ?_ | refine k_x ?_ | refine b_n ?_ | refine b_r ?_ | refine b_y rfl ?_ | refine b_z rfl ?_ | refine l_r ?_ | refine l_x ?_ | refine k_seq ?_ | refine k_blk ?_ | refine k_reg ?_ | refine k_ret ?_ | refine k_exit ?_ | refine k_skip ?_ | refine Zs ?_))
    rw [drop_end s t (by omega), rn] at he
    exact ret_1 rfl rfl ⟨by rw [← he]; rfl, rfl⟩
theorem ibs (s : ByteArray) (c : Int) (w : World) : Ret Tryd.prog 59 [.string s, .int .u8 c] w fun v w1 => v = .int .i64 (Lib.indexByte s.data.toList c.toNat.toUInt8) ∧ w1 = w := by
  refine ret_enter Tryd.func59 rfl Tryd.ntmps59 rfl ?_
  (repeat (first | refine k_nil ?_ | refine k_n ?_ | refine k_r ?_ | refine k_x ?_ | refine b_n ?_ | refine b_r ?_ | refine b_y rfl ?_ | refine b_z rfl ?_ | refine l_r ?_ | refine l_x ?_ | refine k_seq ?_ | refine k_blk ?_ | refine k_reg ?_ | refine k_ret ?_ | refine k_exit ?_ | refine k_skip ?_ | refine Zs ?_))
  refine s_v (r_xt (e := Extern.BytealgIndexByte.indexByte) Tryd.func68 (by kernel_rfl) (by kernel_rfl) (by kernel_rfl) (by kernel_rfl) rfl rfl (Lib.run_indexByteString s c w)) ?_
  (repeat (first | refine k_nil ?_ | refine k_n ?_ | refine k_r ?_ | refine k_x ?_ | refine b_n ?_ | refine b_r ?_ | refine b_y rfl ?_ | refine b_z rfl ?_ | refine l_r ?_ | refine l_x ?_ | refine k_seq ?_ | refine k_blk ?_ | refine k_reg ?_ | refine k_ret ?_ | refine k_exit ?_ | refine k_skip ?_ | refine Zs ?_))
  exact ret_1 rfl rfl ⟨rfl, rfl⟩
theorem indexByte (s : ByteArray) (c : Int) (w : World) : Ret Tryd.prog 48 [.string s, .int .u8 c] w fun v w1 => v = .int .i64 (Lib.indexByte s.data.toList c.toNat.toUInt8) ∧ w1 = w := by
  refine ret_enter Tryd.func48 rfl Tryd.ntmps48 rfl ?_
  (repeat (first | refine k_nil ?_ | refine k_n ?_ | refine k_r ?_ | refine k_x ?_ | refine b_n ?_ | refine b_r ?_ | refine b_y rfl ?_ | refine b_z rfl ?_ | refine l_r ?_ | refine l_x ?_ | refine k_seq ?_ | refine k_blk ?_ | refine k_reg ?_ | refine k_ret ?_ | refine k_exit ?_ | refine k_skip ?_ | refine Zs ?_))
  refine s_call (us := []) (zs := []) (by kernel_rfl) rfl rfl (ibs s c w) ?_
  rintro _ w1 ⟨rfl, rfl⟩
  (repeat (first | refine k_nil ?_ | refine k_n ?_ | refine k_r ?_ | refine k_x ?_ | refine b_n ?_ | refine b_r ?_ | refine b_y rfl ?_ | refine b_z rfl ?_ | refine l_r ?_ | refine l_x ?_ | refine k_seq ?_ | refine k_blk ?_ | refine k_reg ?_ | refine k_ret ?_ | refine k_exit ?_ | refine k_skip ?_ | refine Zs ?_))
  exact ret_1 rfl rfl ⟨rfl, rfl⟩
theorem skip (s : ByteArray) (i : Nat) (w : World) (hs : s.size ≤ 1000000) (hi : i ≤ s.size) :
    Ret Tryd.prog 38 [.string s, .int .i64 i] w fun v w1 => v = .int .i64 ((i + sk false ((B s).drop i) : Nat) : Int) ∧ w1 = w := by
  refine ret_enter Tryd.func38 rfl Tryd.ntmps38 rfl ?_
  (repeat (first | refine k_nil ?_ | refine k_n ?_ | refine k_r ?_ | refine k_x ?_ | refine b_n ?_ | refine b_r ?_ | refine b_y rfl ?_ | refine b_z rfl ?_ | refine l_r ?_ | refine l_x ?_ | refine k_seq ?_ | refine k_blk ?_ | refine k_reg ?_ | refine k_ret ?_ | refine k_exit ?_ | refine k_skip ?_ | refine Zs ?_))
  refine k_loop (σ := Nat) (fun t => [(0, .string s), (1, .int .i64 t)]) (fun t w' => t ≤ s.size ∧ t + sk false ((B s).drop t) = i + sk false ((B s).drop i) ∧ w' = w) (fun t => s.size - t) i ⟨rfl, rfl, trivial⟩ ⟨hi, rfl, rfl⟩ ?_
  rintro t l w ⟨ht, he, rfl⟩
  (repeat (first | refine k_nil ?_ | refine k_n ?_ | refine k_r ?_ | refine k_x ?_ | refine b_n ?_ | refine b_r ?_ | refine b_y rfl ?_ | refine b_z rfl ?_ | refine l_r ?_ | refine l_x ?_ | refine k_seq ?_ | refine k_blk ?_ | refine k_reg ?_ | refine k_ret ?_ | refine k_exit ?_ | refine k_skip ?_ | refine Zs ?_))
  refine c_dec rfl (fun hlt => ?_) (fun hge => ?_)
  · have hlt' : t < s.size := by omega
    have hd := drop_at s t hlt'
    have hr := bt_range s t
    (repeat (first | refine k_nil ?_ | refine k_n ?_ | refine k_r ?_ | refine k_x ?_ | refine b_n ?_ | refine b_r ?_ | refine b_y rfl ?_ | refine b_z rfl ?_ | refine l_r ?_ | refine l_x ?_ | refine k_seq ?_ | refine k_blk ?_ | refine k_reg ?_ | refine k_ret ?_ | refine k_exit ?_ | refine k_skip ?_ | refine Zs ?_))
    refine s_v (r_ix rfl rfl rfl (by omega) (by omega)) ?_
    refine s_call (us := []) (zs := []) (by kernel_rfl) rfl rfl (indexByte _ (bt s t) w) ?_
    rintro _ w1 ⟨rfl, rfl⟩
    (repeat (first | refine k_nil ?_ | refine k_n ?_ | refine k_r ?_ | refine k_x ?_ | refine b_n ?_ | refine b_r ?_ | refine b_y rfl ?_ | refine b_z rfl ?_ | refine l_r ?_ | refine l_x ?_ | refine k_seq ?_ | refine k_blk ?_ | refine k_reg ?_ | refine k_ret ?_ | refine k_exit ?_ | refine k_skip ?_ | refine Zs ?_))
    refine c_b rfl (fun hy => ?_) (fun hn => ?_)
    · rw [ib_blank _ hr.1 hr.2] at hy
      (repeat (first | refine k_nil ?_ | refine k_n ?_ | refine k_r ?_ | refine k_x ?_ | refine b_n ?_ | refine b_r ?_ | refine b_y rfl ?_ | refine b_z rfl ?_ | refine l_r ?_ | refine l_x ?_ | refine k_seq ?_ | refine k_blk ?_ | refine k_reg ?_ | refine k_ret ?_ | refine k_exit ?_ | refine k_skip ?_ | refine Zs ?_))
      rw [hd, sk, if_pos hy] at he
      exact l_next (t + 1) ⟨rfl, rfl, trivial⟩ ⟨by omega, by omega, rfl⟩ (by omega)
    · rw [ib_blank _ hr.1 hr.2] at hn
      (repeat (first | refine k_nil ?_ | refine k_n ?_ | refine k_r ?_ | refine k_x ?_ | refine b_n ?_ | refine b_r ?_ | refine b_y rfl ?_ | refine b_z rfl ?_ | refine l_r ?_ | refine l_x ?_ | refine k_seq ?_ | refine k_blk ?_ | refine k_reg ?_ | refine k_ret ?_ | refine k_exit ?_ | refine k_skip ?_ | refine Zs ?_))
      refine s_v (r_ix rfl rfl rfl (by omega) (by omega)) ?_
      (repeat (first | refine k_nil ?_ | refine k_n ?_ | refine k_r ?_ | refine k_x ?_ | refine b_n ?_ | refine b_r ?_ | refine b_y rfl ?_ | refine b_z rfl ?_ | refine l_r ?_ | refine l_x ?_ | refine k_seq ?_ | refine k_blk ?_ | refine k_reg ?_ | refine k_ret ?_ | refine k_exit ?_ | refine k_skip ?_ | refine Zs ?_))
      refine c_eq rfl (fun h35 => ?_) (fun h35 => ?_)
      · (repeat (first | refine k_nil ?_ | refine k_n ?_ | refine k_r ?_ | refine k_x ?_ | refine b_n ?_ | refine b_r ?_ | refine b_y rfl ?_ | refine b_z rfl ?_ | refine l_r ?_ | refine l_x ?_ | refine k_seq ?_ | refine k_blk ?_ | refine k_reg ?_ | refine k_ret ?_ | refine k_exit ?_ | refine k_skip ?_ | refine Zs ?_))
        refine s_call (us := []) (zs := []) (by kernel_rfl) rfl rfl (run s t 49 not10 w1 hs ht (by kernel_rfl) (fun c w _ => noline c w)) ?_
        rintro _ w2 ⟨rfl, rfl⟩
        (repeat (first | refine k_nil ?_ | refine k_n ?_ | refine k_r ?_ | refine k_x ?_ | refine b_n ?_ | refine b_r ?_ | refine b_y rfl ?_ | refine b_z rfl ?_ | refine l_r ?_ | refine l_x ?_ | refine k_seq ?_ | refine k_blk ?_ | refine k_reg ?_ | refine k_ret ?_ | refine k_exit ?_ | refine k_skip ?_ | refine Zs ?_))
        have h10 : not10 (bt s t) = true := by simp [not10, h35]
        have hle := rn_le not10 ((B s).drop t)
        rw [List.length_drop, B_len] at hle
        have hpos : 0 < rn not10 ((B s).drop t) := by rw [hd]; exact rn_pos h10
        refine l_next (t + rn not10 ((B s).drop t)) ⟨rfl, rfl, trivial⟩ ⟨by omega, ?_, rfl⟩ (by omega)
        rw [← he, ← List.drop_drop]
        have e1 : sk false ((B s).drop t) = sk true ((B s).drop t) := by
          rw [hd, sk, if_neg (by rw [hn]; exact Bool.false_ne_true), if_pos h35, sk, if_neg (by omega)]
        rw [e1, sk_true]
        omega
      · (repeat (first | refine k_nil ?_ | refine k_n ?_ | refine k_r ?_ | refine k_x ?_ | refine b_n ?_ | refine b_r ?_ | refine b_y rfl ?_ | refine b_z rfl ?_ | refine l_r ?_ | refine l_x ?_ | refine k_seq ?_ | refine k_blk ?_ | refine k_reg ?_ | refine k_ret ?_ | refine k_exit ?_ | refine k_skip ?_ | refine Zs ?_))
        rw [hd, sk, if_neg (by rw [hn]; exact Bool.false_ne_true), if_neg h35] at he
        exact ret_1 rfl rfl ⟨by rw [← he]; rfl, rfl⟩
  · (repeat (first | refine k_nil ?_ | refine k_n ?_ | refine k_r ?_ | refine k_x ?_ | refine b_n ?_ | refine b_r ?_ | refine b_y rfl ?_ | refine b_z rfl ?_ | refine l_r ?_ | refine l_x ?_ | refine k_seq ?_ | refine k_blk ?_ | refine k_reg ?_ | refine k_ret ?_ | refine k_exit ?_ | refine k_skip ?_ | refine Zs ?_))
    rw [drop_end s t (by omega), sk] at he
    exact ret_1 rfl rfl ⟨by rw [← he]; rfl, rfl⟩
end Tk
end Go.Proofs.YtgnkdeapifbgeaaDoor
namespace Go.Proofs.YtgnkdeapifbgeaaDoor
open Go Go.RowKit Fw
set_option linter.unusedVariables false
set_option maxRecDepth 20000
namespace Tk
/-- A row of texts that is read. -/
def Rd (w : World) (a : Option Addr) (ls : List ByteArray) : Prop := ls = [] ∨ ∃ b o, a = some ⟨b, o, none⟩ ∧ ∀ j s, ls[j]? = some s → w.cell? ⟨b, o + j, none⟩ = some (.string s)
theorem Rd.kp {w w' : World} {a : Option Addr} {ls : List ByteArray} (h : Rd w a ls) (k : Kp No w w') : Rd w' a ls := by
  rcases h with h | ⟨b, o, rfl, h⟩
  · exact .inl h
  · exact .inr ⟨b, o, rfl, fun j s hj => k.cell0 (h j s hj)⟩
theorem Rd.at {w : World} {a : Option Addr} {ls : List ByteArray} (h : Rd w a ls) {j : Nat} {s : ByteArray} (hj : ls[j]? = some s) : ∃ b o, a = some ⟨b, o, none⟩ ∧ w.cell? ⟨b, o + (j : Int).toNat * 1, none⟩ = some (.string s) := by
  rcases h with h | ⟨b, o, rfl, h⟩
  · subst h; simp at hj
  · exact ⟨b, o, rfl, by simpa using h j s hj⟩
theorem Index (ls : List ByteArray) (a : Option Addr) (c : Nat) (x : ByteArray) (w : World) (h : Rd w a ls) (hl : ls.length ≤ 1000) :
    Ret Tryd.prog 53 [.slice a ls.length c, .string x] w fun v w1 => v = .int .i64 (ixS (fun y => x.toList == y.toList) ls) ∧ w1 = w := by
  refine ret_enter Tryd.func53 rfl Tryd.ntmps53 rfl ?_
  (repeat (first | refine k_nil ?_ | refine k_n ?_ | refine k_r ?_ | refine k_x ?_ | refine b_n ?_ | refine b_r ?_ | refine b_y rfl ?_ | refine b_z rfl ?_ | refine l_r ?_ | refine l_x ?_ | refine k_seq ?_ | refine k_blk ?_ | refine k_reg ?_ | refine k_ret ?_ | refine k_exit ?_ | refine k_skip ?_ | refine Zs ?_))
  refine k_loop (σ := Nat) (fun t => [(0, .slice a ls.length c), (1, .string x), (7, .int .i64 ls.length), (8, .int .i64 t)]) (fun t w' => t ≤ ls.length ∧ (∀ j y, j < t → ls[j]? = some y → (x.toList == y.toList) = false) ∧ w' = w) (fun t => ls.length - t) 0 ⟨rfl, rfl, rfl, rfl, trivial⟩ ⟨by omega, fun j y hj => by omega, rfl⟩ ?_
  rintro t l w ⟨ht, hne, rfl⟩
  (repeat (first | refine k_nil ?_ | refine k_n ?_ | refine k_r ?_ | refine k_x ?_ | refine b_n ?_ | refine b_r ?_ | refine b_y rfl ?_ | refine b_z rfl ?_ | refine l_r ?_ | refine l_x ?_ | refine k_seq ?_ | refine k_blk ?_ | refine k_reg ?_ | refine k_ret ?_ | refine k_exit ?_ | refine k_skip ?_ | refine Zs ?_))
  refine c_dec rfl (fun hlt => ?_) (fun hge => ?_)
  · obtain ⟨y, hy⟩ : ∃ y, ls[t]? = some y := ⟨_, List.getElem?_eq_getElem (by omega)⟩
    obtain ⟨b, o, rfl, hcy⟩ := h.at hy
    (repeat (first | refine k_nil ?_ | refine k_n ?_ | refine k_r ?_ | refine k_x ?_ | refine b_n ?_ | refine b_r ?_ | refine b_y rfl ?_ | refine b_z rfl ?_ | refine l_r ?_ | refine l_x ?_ | refine k_seq ?_ | refine k_blk ?_ | refine k_reg ?_ | refine k_ret ?_ | refine k_exit ?_ | refine k_skip ?_ | refine Zs ?_))
    refine s_v (r_ia rfl rfl rfl rfl (by omega) (by omega)) ?_
    (repeat (first | refine k_nil ?_ | refine k_n ?_ | refine k_r ?_ | refine k_x ?_ | refine b_n ?_ | refine b_r ?_ | refine b_y rfl ?_ | refine b_z rfl ?_ | refine l_r ?_ | refine l_x ?_ | refine k_seq ?_ | refine k_blk ?_ | refine k_reg ?_ | refine k_ret ?_ | refine k_exit ?_ | refine k_skip ?_ | refine Zs ?_))
    refine c_b rfl (fun he => ?_) (fun he => ?_)
    · (repeat (first | refine k_nil ?_ | refine k_n ?_ | refine k_r ?_ | refine k_x ?_ | refine b_n ?_ | refine b_r ?_ | refine b_y rfl ?_ | refine b_z rfl ?_ | refine l_r ?_ | refine l_x ?_ | refine k_seq ?_ | refine k_blk ?_ | refine k_reg ?_ | refine k_ret ?_ | refine k_exit ?_ | refine k_skip ?_ | refine Zs ?_))
      exact ret_1 rfl rfl ⟨by rw [ixS_at _ ls t y hy he hne], rfl⟩
    · (repeat (first | refine k_nil ?_ | refine k_n ?_ | refine k_r ?_ | refine k_x ?_ | refine b_n ?_ | refine b_r ?_ | refine b_y rfl ?_ | refine b_z rfl ?_ | refine l_r ?_ | refine l_x ?_ | refine k_seq ?_ | refine k_blk ?_ | refine k_reg ?_ | refine k_ret ?_ | refine k_exit ?_ | refine k_skip ?_ | refine Zs ?_))
      refine l_next (t + 1) ⟨rfl, rfl, rfl, rfl, trivial⟩ ⟨by omega, fun j z hj hz => ?_, rfl⟩ (by omega)
      by_cases hjt : j = t
      · subst hjt; rw [hy] at hz; cases hz; exact he
      · exact hne j z (by omega) hz
  · (repeat (first | refine k_nil ?_ | refine k_n ?_ | refine k_r ?_ | refine k_x ?_ | refine b_n ?_ | refine b_r ?_ | refine b_y rfl ?_ | refine b_z rfl ?_ | refine l_r ?_ | refine l_x ?_ | refine k_seq ?_ | refine k_blk ?_ | refine k_reg ?_ | refine k_ret ?_ | refine k_exit ?_ | refine k_skip ?_ | refine Zs ?_))
    exact ret_1 rfl rfl ⟨by rw [ixS_none _ ls (fun j y hy => hne j y (by have := (List.getElem?_eq_some_iff.1 hy).1; omega) hy)], rfl⟩
theorem Contains (ls : List ByteArray) (a : Option Addr) (c : Nat) (x : ByteArray) (w : World) (h : Rd w a ls) (hl : ls.length ≤ 1000) :
    Ret Tryd.prog 43 [.slice a ls.length c, .string x] w fun v w1 => v = .bool (ls.any fun y => x.toList == y.toList) ∧ w1 = w := by
  refine ret_enter Tryd.func43 rfl Tryd.ntmps43 rfl ?_
  (repeat (first | refine k_nil ?_ | refine k_n ?_ | refine k_r ?_ | refine k_x ?_ | refine b_n ?_ | refine b_r ?_ | refine b_y rfl ?_ | refine b_z rfl ?_ | refine l_r ?_ | refine l_x ?_ | refine k_seq ?_ | refine k_blk ?_ | refine k_reg ?_ | refine k_ret ?_ | refine k_exit ?_ | refine k_skip ?_ | refine Zs ?_))
  refine s_call (us := []) (zs := []) (by kernel_rfl) rfl rfl (Index ls a c x w h hl) ?_
  rintro _ w1 ⟨rfl, rfl⟩
  (repeat (first | refine k_nil ?_ | refine k_n ?_ | refine k_r ?_ | refine k_x ?_ | refine b_n ?_ | refine b_r ?_ | refine b_y rfl ?_ | refine b_z rfl ?_ | refine l_r ?_ | refine l_x ?_ | refine k_seq ?_ | refine k_blk ?_ | refine k_reg ?_ | refine k_ret ?_ | refine k_exit ?_ | refine k_skip ?_ | refine Zs ?_))
  exact ret_1 rfl rfl ⟨by rw [ixS_any], rfl⟩
theorem IndexFunc (ls : List ByteArray) (a : Option Addr) (c : Nat) (f : FuncId) (us zs : List Value) (q : ByteArray → Bool) (w : World) (h : Rd w a ls) (hl : ls.length ≤ 1000) (hok : callOk Tryd.prog f = true)
    (hq : ∀ p ∈ ls, Ret Tryd.prog f (us ++ [.string p] ++ zs) w fun v w1 => v = .bool (q p) ∧ w1 = w) :
    Ret Tryd.prog 60 [.slice a ls.length c, .func (.func f) us.toArray zs.toArray] w fun v w1 => v = .int .i64 (ixS q ls) ∧ w1 = w := by
  refine ret_enter Tryd.func60 rfl Tryd.ntmps60 rfl ?_
  (repeat (first | refine k_nil ?_ | refine k_n ?_ | refine k_r ?_ | refine k_x ?_ | refine b_n ?_ | refine b_r ?_ | refine b_y rfl ?_ | refine b_z rfl ?_ | refine l_r ?_ | refine l_x ?_ | refine k_seq ?_ | refine k_blk ?_ | refine k_reg ?_ | refine k_ret ?_ | refine k_exit ?_ | refine k_skip ?_ | refine Zs ?_))
  refine k_loop (σ := Nat) (fun t => [(0, .slice a ls.length c), (1, .func (.func f) us.toArray zs.toArray), (7, .int .i64 ls.length), (8, .int .i64 t)]) (fun t w' => t ≤ ls.length ∧ (∀ j y, j < t → ls[j]? = some y → q y = false) ∧ w' = w) (fun t => ls.length - t) 0 ⟨rfl, rfl, rfl, rfl, trivial⟩ ⟨by omega, fun j y hj => by omega, rfl⟩ ?_
  rintro t l w ⟨ht, hne, rfl⟩
  (repeat (first | refine k_nil ?_ | refine k_n ?_ | refine k_r ?_ | refine k_x ?_ | refine b_n ?_ | refine b_r ?_ | refine b_y rfl ?_ | refine b_z rfl ?_ | refine l_r ?_ | refine l_x ?_ | refine k_seq ?_ | refine k_blk ?_ | refine k_reg ?_ | refine k_ret ?_ | refine k_exit ?_ | refine k_skip ?_ | refine Zs ?_))
  refine c_dec rfl (fun hlt => ?_) (fun hge => ?_)
  · obtain ⟨y, hy⟩ : ∃ y, ls[t]? = some y := ⟨_, List.getElem?_eq_getElem (by omega)⟩
    obtain ⟨b, o, rfl, hcy⟩ := h.at hy
    (repeat (first | refine k_nil ?_ | refine k_n ?_ | refine k_r ?_ | refine k_x ?_ | refine b_n ?_ | refine b_r ?_ | refine b_y rfl ?_ | refine b_z rfl ?_ | refine l_r ?_ | refine l_x ?_ | refine k_seq ?_ | refine k_blk ?_ | refine k_reg ?_ | refine k_ret ?_ | refine k_exit ?_ | refine k_skip ?_ | refine Zs ?_))
    refine s_v (r_ia rfl rfl rfl rfl (by omega) (by omega)) ?_
    (repeat (first | refine k_nil ?_ | refine k_n ?_ | refine k_r ?_ | refine k_x ?_ | refine b_n ?_ | refine b_r ?_ | refine b_y rfl ?_ | refine b_z rfl ?_ | refine l_r ?_ | refine l_x ?_ | refine k_seq ?_ | refine k_blk ?_ | refine k_reg ?_ | refine k_ret ?_ | refine k_exit ?_ | refine k_skip ?_ | refine Zs ?_))
    refine s_call (us := us) (zs := zs) hok rfl rfl (hq y (List.mem_of_getElem? hy)) ?_
    rintro _ w1 ⟨rfl, rfl⟩
    (repeat (first | refine k_nil ?_ | refine k_n ?_ | refine k_r ?_ | refine k_x ?_ | refine b_n ?_ | refine b_r ?_ | refine b_y rfl ?_ | refine b_z rfl ?_ | refine l_r ?_ | refine l_x ?_ | refine k_seq ?_ | refine k_blk ?_ | refine k_reg ?_ | refine k_ret ?_ | refine k_exit ?_ | refine k_skip ?_ | refine Zs ?_))
    refine c_b rfl (fun he => ?_) (fun he => ?_)
    · (repeat (first | refine k_nil ?_ | refine k_n ?_ | refine k_r ?_ | refine k_x ?_ | refine b_n ?_ | refine b_r ?_ | refine b_y rfl ?_ | refine b_z rfl ?_ | refine l_r ?_ | refine l_x ?_ | refine k_seq ?_ | refine k_blk ?_ | refine k_reg ?_ | refine k_ret ?_ | refine k_exit ?_ | refine k_skip ?_ | refine Zs ?_))
      exact ret_1 rfl rfl ⟨by rw [ixS_at _ ls t y hy he hne], rfl⟩
    · (repeat (first | refine k_nil ?_ | refine k_n ?_ | refine k_r ?_ | refine k_x ?_ | refine b_n ?_ | refine b_r ?_ | refine b_y rfl ?_ | refine b_z rfl ?_ | refine l_r ?_ | refine l_x ?_ | refine k_seq ?_ | refine k_blk ?_ | refine k_reg ?_ | refine k_ret ?_ | refine k_exit ?_ | refine k_skip ?_ | refine Zs ?_))
      refine l_next (t + 1) ⟨rfl, rfl, rfl, rfl, trivial⟩ ⟨by omega, fun j z hj hz => ?_, rfl⟩ (by omega)
      by_cases hjt : j = t
      · subst hjt; rw [hy] at hz; cases hz; exact he
      · exact hne j z (by omega) hz
  · (repeat (first | refine k_nil ?_ | refine k_n ?_ | refine k_r ?_ | refine k_x ?_ | refine b_n ?_ | refine b_r ?_ | refine b_y rfl ?_ | refine b_z rfl ?_ | refine l_r ?_ | refine l_x ?_ | refine k_seq ?_ | refine k_blk ?_ | refine k_reg ?_ | refine k_ret ?_ | refine k_exit ?_ | refine k_skip ?_ | refine Zs ?_))
    exact ret_1 rfl rfl ⟨by rw [ixS_none _ ls (fun j y hy => hne j y (by have := (List.getElem?_eq_some_iff.1 hy).1; omega) hy)], rfl⟩
theorem ContainsFunc (ls : List ByteArray) (a : Option Addr) (c : Nat) (f : FuncId) (us zs : List Value) (q : ByteArray → Bool) (w : World) (h : Rd w a ls) (hl : ls.length ≤ 1000) (hok : callOk Tryd.prog f = true)
    (hq : ∀ p ∈ ls, Ret Tryd.prog f (us ++ [.string p] ++ zs) w fun v w1 => v = .bool (q p) ∧ w1 = w) :
    Ret Tryd.prog 50 [.slice a ls.length c, .func (.func f) us.toArray zs.toArray] w fun v w1 => v = .bool (ls.any q) ∧ w1 = w := by
  refine ret_enter Tryd.func50 rfl Tryd.ntmps50 rfl ?_
  (repeat (first | refine k_nil ?_ | refine k_n ?_ | refine k_r ?_ | refine k_x ?_ | refine b_n ?_ | refine b_r ?_ | refine b_y rfl ?_ | refine b_z rfl ?_ | refine l_r ?_ | refine l_x ?_ | refine k_seq ?_ | refine k_blk ?_ | refine k_reg ?_ | refine k_ret ?_ | refine k_exit ?_ | refine k_skip ?_ | refine Zs ?_))
  refine s_call (us := []) (zs := []) (by kernel_rfl) rfl rfl (IndexFunc ls a c f us zs q w h hl hok hq) ?_
  rintro _ w1 ⟨rfl, rfl⟩
  (repeat (first | refine k_nil ?_ | refine k_n ?_ | refine k_r ?_ | refine k_x ?_ | refine b_n ?_ | refine b_r ?_ | refine b_y rfl ?_ | refine b_z rfl ?_ | refine l_r ?_ | refine l_x ?_ | refine k_seq ?_ | refine k_blk ?_ | refine k_reg ?_ | refine k_ret ?_ | refine k_exit ?_ | refine k_skip ?_ | refine Zs ?_))
  exact ret_1 rfl rfl ⟨by rw [ixS_any], rfl⟩
theorem hasp (s p : ByteArray) (w : World) (hs : s.size ≤ 1000000) (hp : p.size ≤ 1000000) : Ret Tryd.prog 61 [.string s, .string p] w fun v w1 => v = .bool ((B p).isPrefixOf (B s)) ∧ w1 = w := by
  refine ret_enter Tryd.func61 rfl Tryd.ntmps61 rfl ?_
  (repeat (first | refine k_nil ?_ | refine k_n ?_ | refine k_r ?_ | refine k_x ?_ | refine b_n ?_ | refine b_r ?_ | refine b_y rfl ?_ | refine b_z rfl ?_ | refine l_r ?_ | refine l_x ?_ | refine k_seq ?_ | refine k_blk ?_ | refine k_reg ?_ | refine k_ret ?_ | refine k_exit ?_ | refine k_skip ?_ | refine Zs ?_))
  by_cases h : p.size ≤ s.size
  · refine s_set 10 true rfl (by simp; omega) ?_
    (repeat (first | refine k_nil ?_ | refine k_n ?_ | refine k_r ?_ | refine k_x ?_ | refine b_n ?_ | refine b_r ?_ | refine b_y rfl ?_ | refine b_z rfl ?_ | refine l_r ?_ | refine l_x ?_ | refine k_seq ?_ | refine k_blk ?_ | refine k_reg ?_ | refine k_ret ?_ | refine k_exit ?_ | refine k_skip ?_ | refine Zs ?_ | refine Zn ?_ | refine Zu ?_ | refine Zg ?_))
    refine s_gv rfl (r_sh rfl rfl rfl (by omega) (by omega)) ?_
    (repeat (first | refine k_nil ?_ | refine k_n ?_ | refine k_r ?_ | refine k_x ?_ | refine b_n ?_ | refine b_r ?_ | refine b_y rfl ?_ | refine b_z rfl ?_ | refine l_r ?_ | refine l_x ?_ | refine k_seq ?_ | refine k_blk ?_ | refine k_reg ?_ | refine k_ret ?_ | refine k_exit ?_ | refine k_skip ?_ | refine Zs ?_ | refine Zn ?_ | refine Zu ?_ | refine Zg ?_))
    refine ret_1 rfl rfl ⟨congrArg Value.bool ?_, rfl⟩
    rw [← pref_eq, decide_eq_true h]; rfl
  · refine s_set 10 false rfl (by simp; omega) ?_
    (repeat (first | refine k_nil ?_ | refine k_n ?_ | refine k_r ?_ | refine k_x ?_ | refine b_n ?_ | refine b_r ?_ | refine b_y rfl ?_ | refine b_z rfl ?_ | refine l_r ?_ | refine l_x ?_ | refine k_seq ?_ | refine k_blk ?_ | refine k_reg ?_ | refine k_ret ?_ | refine k_exit ?_ | refine k_skip ?_ | refine Zs ?_ | refine Zn ?_ | refine Zu ?_ | refine Zg ?_))
    refine ret_1 rfl rfl ⟨congrArg Value.bool ?_, rfl⟩
    rw [← pref_eq, decide_eq_false h]; rfl
theorem hasPrefix (s p : ByteArray) (w : World) (hs : s.size ≤ 1000000) (hp : p.size ≤ 1000000) : Ret Tryd.prog 52 [.string s, .string p] w fun v w1 => v = .bool ((B p).isPrefixOf (B s)) ∧ w1 = w := by
  refine ret_enter Tryd.func52 rfl Tryd.ntmps52 rfl ?_
  (repeat (first | refine k_nil ?_ | refine k_n ?_ | refine k_r ?_ | refine k_x ?_ | refine b_n ?_ | refine b_r ?_ | refine b_y rfl ?_ | refine b_z rfl ?_ | refine l_r ?_ | refine l_x ?_ | refine k_seq ?_ | refine k_blk ?_ | refine k_reg ?_ | refine k_ret ?_ | refine k_exit ?_ | refine k_skip ?_ | refine Zs ?_))
  refine s_call (us := []) (zs := []) (by kernel_rfl) rfl rfl (hasp s p w hs hp) ?_
  rintro _ w1 ⟨rfl, rfl⟩
  (repeat (first | refine k_nil ?_ | refine k_n ?_ | refine k_r ?_ | refine k_x ?_ | refine b_n ?_ | refine b_r ?_ | refine b_y rfl ?_ | refine b_z rfl ?_ | refine l_r ?_ | refine l_x ?_ | refine k_seq ?_ | refine k_blk ?_ | refine k_reg ?_ | refine k_ret ?_ | refine k_exit ?_ | refine k_skip ?_ | refine Zs ?_))
  exact ret_1 rfl rfl ⟨rfl, rfl⟩
theorem sign1 (s p : ByteArray) (b : Nat) (T : TypeId) (w : World) (hb : w.heap[b]? = some (.cells [.string s].toArray T (0, 0))) (hs : s.size ≤ 1000000) (hp : p.size ≤ 1000000) :
    Ret Tryd.prog 51 [.string p, .pointer (some ⟨b, 0, none⟩)] w fun v w1 => v = .bool ((B p).isPrefixOf (B s)) ∧ w1 = w := by
  refine ret_enter Tryd.func51 rfl Tryd.ntmps51 rfl ?_
  (repeat (first | refine k_nil ?_ | refine k_n ?_ | refine k_r ?_ | refine k_x ?_ | refine b_n ?_ | refine b_r ?_ | refine b_y rfl ?_ | refine b_z rfl ?_ | refine l_r ?_ | refine l_x ?_ | refine k_seq ?_ | refine k_blk ?_ | refine k_reg ?_ | refine k_ret ?_ | refine k_exit ?_ | refine k_skip ?_ | refine Zs ?_))
  refine s_call (us := []) (zs := []) (by kernel_rfl) rfl rfl (hasPrefix s p w hs hp) ?_
  rintro _ w1 ⟨rfl, rfl⟩
  (repeat (first | refine k_nil ?_ | refine k_n ?_ | refine k_r ?_ | refine k_x ?_ | refine b_n ?_ | refine b_r ?_ | refine b_y rfl ?_ | refine b_z rfl ?_ | refine l_r ?_ | refine l_x ?_ | refine k_seq ?_ | refine k_blk ?_ | refine k_reg ?_ | refine k_ret ?_ | refine k_exit ?_ | refine k_skip ?_ | refine Zs ?_))
  exact ret_1 rfl rfl ⟨rfl, rfl⟩
theorem pairs_size : ∀ p ∈ pairsB, p.size ≤ 1000000 := by
  intro p hp
  obtain ⟨l, hl, rfl⟩ := List.mem_map.1 hp
  have : ∀ l ∈ pairsL, (strOf l).size ≤ 1000000 := by decide +kernel
  exact this l hl
theorem sign (s : ByteArray) (w : World) (hg : Glob w) (hs : s.size ≤ 1000000) (h0 : 0 < s.size) :
    Ret Tryd.prog 39 [.string s] w fun v w1 => v = .int .i64 (sg (B s) : Int) ∧ Kp No w w1 := by
  have hh : B s = bt s 0 :: (B s).drop 1 := by have := drop_at s 0 h0; simpa using this
  have hr := bt_range s 0
  have hany : pairsB.any (fun p => (B p).isPrefixOf (B s)) = pairsL.any (fun p => p.isPrefixOf (B s)) := by
    rw [← B_pairs, List.any_map]; rfl
  refine ret_enter Tryd.func39 rfl Tryd.ntmps39 rfl ?_
  (repeat (first | refine k_nil ?_ | refine k_n ?_ | refine k_r ?_ | refine k_x ?_ | refine b_n ?_ | refine b_r ?_ | refine b_y rfl ?_ | refine b_z rfl ?_ | refine l_r ?_ | refine l_x ?_ | refine k_seq ?_ | refine k_blk ?_ | refine k_reg ?_ | refine k_ret ?_ | refine k_exit ?_ | refine k_skip ?_ | refine Zs ?_))
  refine s_box rfl rfl (fun b1 w1 n1 => ?_)
  have hb1 := n1.blk
  have hg1 := hg.kp n1.kp
  (repeat (first | refine k_nil ?_ | refine k_n ?_ | refine k_r ?_ | refine k_x ?_ | refine b_n ?_ | refine b_r ?_ | refine b_y rfl ?_ | refine b_z rfl ?_ | refine l_r ?_ | refine l_x ?_ | refine k_seq ?_ | refine k_blk ?_ | refine k_reg ?_ | refine k_ret ?_ | refine k_exit ?_ | refine k_skip ?_ | refine Zs ?_))
  refine s_v (r_slax (a' := some ⟨1, 0, none⟩) (n' := 6) (c' := 6) rfl rfl rfl rfl rfl (by omega) (by omega) (by omega) subA_0 rfl rfl) ?_
  (repeat (first | refine k_nil ?_ | refine k_n ?_ | refine k_r ?_ | refine k_x ?_ | refine b_n ?_ | refine b_r ?_ | refine b_y rfl ?_ | refine b_z rfl ?_ | refine l_r ?_ | refine l_x ?_ | refine k_seq ?_ | refine k_blk ?_ | refine k_reg ?_ | refine k_ret ?_ | refine k_exit ?_ | refine k_skip ?_ | refine Zs ?_))
  refine s_call (us := []) (zs := []) (by kernel_rfl) rfl rfl (ContainsFunc pairsB (some ⟨1, 0, none⟩) 6 51 [] [.pointer (some ⟨b1, 0, none⟩)] (fun p => (B p).isPrefixOf (B s)) w1 (.inr ⟨_, _, rfl, hg1.pairs⟩) (by decide +kernel) (by kernel_rfl) (fun p hp => sign1 s p b1 _ w1 hb1 hs (pairs_size p hp))) ?_
  rintro _ w2 ⟨rfl, rfl⟩
  rw [hany]
  refine k_nil ?_
  (repeat (first | refine k_nil ?_ | refine k_n ?_ | refine k_r ?_ | refine k_x ?_ | refine b_n ?_ | refine b_r ?_ | refine b_y rfl ?_ | refine b_z rfl ?_ | refine l_r ?_ | refine l_x ?_ | refine k_seq ?_ | refine k_blk ?_ | refine k_reg ?_ | refine k_ret ?_ | refine k_exit ?_ | refine k_skip ?_ | refine Zs ?_))
  refine c_b rfl (fun hy => ?_) (fun hn => ?_)
  · (repeat (first | refine k_nil ?_ | refine k_n ?_ | refine k_r ?_ | refine k_x ?_ | refine b_n ?_ | refine b_r ?_ | refine b_y rfl ?_ | refine b_z rfl ?_ | refine l_r ?_ | refine l_x ?_ | refine k_seq ?_ | refine k_blk ?_ | refine k_reg ?_ | refine k_ret ?_ | refine k_exit ?_ | refine k_skip ?_ | refine Zs ?_))
    exact ret_1 rfl rfl ⟨by rw [sg_2 hy]; rfl, n1.kp⟩
  · (repeat (first | refine k_nil ?_ | refine k_n ?_ | refine k_r ?_ | refine k_x ?_ | refine b_n ?_ | refine b_r ?_ | refine b_y rfl ?_ | refine b_z rfl ?_ | refine l_r ?_ | refine l_x ?_ | refine k_seq ?_ | refine k_blk ?_ | refine k_reg ?_ | refine k_ret ?_ | refine k_exit ?_ | refine k_skip ?_ | refine Zs ?_))
    refine s_v (r_ix rfl rfl rfl (by omega) (by omega)) ?_
    refine s_call (us := []) (zs := []) (by kernel_rfl) rfl rfl (indexByte _ (bt s 0) w2) ?_
    rintro _ w3 ⟨rfl, rfl⟩
    (repeat (first | refine k_nil ?_ | refine k_n ?_ | refine k_r ?_ | refine k_x ?_ | refine b_n ?_ | refine b_r ?_ | refine b_y rfl ?_ | refine b_z rfl ?_ | refine l_r ?_ | refine l_x ?_ | refine k_seq ?_ | refine k_blk ?_ | refine k_reg ?_ | refine k_ret ?_ | refine k_exit ?_ | refine k_skip ?_ | refine Zs ?_))
    refine c_b rfl (fun h1 => ?_) (fun h1 => ?_)
    · rw [ib_sign _ hr.1 hr.2] at h1
      (repeat (first | refine k_nil ?_ | refine k_n ?_ | refine k_r ?_ | refine k_x ?_ | refine b_n ?_ | refine b_r ?_ | refine b_y rfl ?_ | refine b_z rfl ?_ | refine l_r ?_ | refine l_x ?_ | refine k_seq ?_ | refine k_blk ?_ | refine k_reg ?_ | refine k_ret ?_ | refine k_exit ?_ | refine k_skip ?_ | refine Zs ?_))
      exact ret_1 rfl rfl ⟨by rw [hh] at hn ⊢; rw [sg_1 hn h1]; rfl, n1.kp⟩
    · rw [ib_sign _ hr.1 hr.2] at h1
      (repeat (first | refine k_nil ?_ | refine k_n ?_ | refine k_r ?_ | refine k_x ?_ | refine b_n ?_ | refine b_r ?_ | refine b_y rfl ?_ | refine b_z rfl ?_ | refine l_r ?_ | refine l_x ?_ | refine k_seq ?_ | refine k_blk ?_ | refine k_reg ?_ | refine k_ret ?_ | refine k_exit ?_ | refine k_skip ?_ | refine Zs ?_))
      exact ret_1 rfl rfl ⟨by rw [hh] at hn ⊢; rw [sg_0 hn h1]; rfl, n1.kp⟩
theorem number (s : ByteArray) (w : World) (hs : s.size ≤ 1000000) (h0 : 0 < s.size) :
    Ret Tryd.prog 45 [.string s] w fun v w1 => v = .bool (decide (s.size ≤ 18 ∧ (s.size = 1 ∨ bt s 0 ≠ 48))) ∧ w1 = w := by
  refine ret_enter Tryd.func45 rfl Tryd.ntmps45 rfl ?_
  (repeat (first | refine k_nil ?_ | refine k_n ?_ | refine k_r ?_ | refine k_x ?_ | refine b_n ?_ | refine b_r ?_ | refine b_y rfl ?_ | refine b_z rfl ?_ | refine l_r ?_ | refine l_x ?_ | refine k_seq ?_ | refine k_blk ?_ | refine k_reg ?_ | refine k_ret ?_ | refine k_exit ?_ | refine k_skip ?_ | refine Zs ?_))
  by_cases h : s.size ≤ 18
  · refine s_set 6 true rfl (by simp; omega) ?_
    (repeat (first | refine k_nil ?_ | refine k_n ?_ | refine k_r ?_ | refine k_x ?_ | refine b_n ?_ | refine b_r ?_ | refine b_y rfl ?_ | refine b_z rfl ?_ | refine l_r ?_ | refine l_x ?_ | refine k_seq ?_ | refine k_blk ?_ | refine k_reg ?_ | refine k_ret ?_ | refine k_exit ?_ | refine k_skip ?_ | refine Zs ?_ | refine Zn ?_ | refine Zu ?_ | refine Zg ?_))
    by_cases h1 : s.size = 1
    · refine s_set 10 true rfl (by simp; omega) ?_
      (repeat (first | refine k_nil ?_ | refine k_n ?_ | refine k_r ?_ | refine k_x ?_ | refine b_n ?_ | refine b_r ?_ | refine b_y rfl ?_ | refine b_z rfl ?_ | refine l_r ?_ | refine l_x ?_ | refine k_seq ?_ | refine k_blk ?_ | refine k_reg ?_ | refine k_ret ?_ | refine k_exit ?_ | refine k_skip ?_ | refine Zs ?_ | refine Zn ?_ | refine Zu ?_ | refine Zg ?_))
      refine ret_1 rfl rfl ⟨congrArg Value.bool ?_, rfl⟩
      rw [decide_eq_true ⟨h, .inl h1⟩]
    · refine s_set 10 false rfl (by simp; omega) ?_
      (repeat (first | refine k_nil ?_ | refine k_n ?_ | refine k_r ?_ | refine k_x ?_ | refine b_n ?_ | refine b_r ?_ | refine b_y rfl ?_ | refine b_z rfl ?_ | refine l_r ?_ | refine l_x ?_ | refine k_seq ?_ | refine k_blk ?_ | refine k_reg ?_ | refine k_ret ?_ | refine k_exit ?_ | refine k_skip ?_ | refine Zs ?_ | refine Zn ?_ | refine Zu ?_ | refine Zg ?_))
      refine s_gv rfl (r_ix rfl rfl rfl (by omega) (by omega)) ?_
      (repeat (first | refine k_nil ?_ | refine k_n ?_ | refine k_r ?_ | refine k_x ?_ | refine b_n ?_ | refine b_r ?_ | refine b_y rfl ?_ | refine b_z rfl ?_ | refine l_r ?_ | refine l_x ?_ | refine k_seq ?_ | refine k_blk ?_ | refine k_reg ?_ | refine k_ret ?_ | refine k_exit ?_ | refine k_skip ?_ | refine Zs ?_ | refine Zn ?_ | refine Zu ?_ | refine Zg ?_))
      refine ret_1 rfl rfl ⟨congrArg Value.bool ?_, rfl⟩
      by_cases h2 : bt s 0 = 48
      · rw [decide_eq_false (by rintro ⟨_, h | h⟩ <;> omega), h2]; rfl
      · rw [decide_eq_true ⟨h, .inr h2⟩]; simpa using h2
  · refine s_set 6 false rfl (by simp; omega) ?_
    (repeat (first | refine k_nil ?_ | refine k_n ?_ | refine k_r ?_ | refine k_x ?_ | refine b_n ?_ | refine b_r ?_ | refine b_y rfl ?_ | refine b_z rfl ?_ | refine l_r ?_ | refine l_x ?_ | refine k_seq ?_ | refine k_blk ?_ | refine k_reg ?_ | refine k_ret ?_ | refine k_exit ?_ | refine k_skip ?_ | refine Zs ?_ | refine Zn ?_ | refine Zu ?_ | refine Zg ?_))
    refine ret_1 rfl rfl ⟨congrArg Value.bool ?_, rfl⟩
    rw [decide_eq_false (fun hh => h hh.1)]
/-- What the next token is, as a value. -/
def tokV (a : Nat) (t : Tok) : Value := .agg #[.int .i64 t.k, .int .i64 ((a + t.n : Nat) : Int), .int .i64 ((a + t.n + t.m : Nat) : Int)]
def nxV (s : ByteArray) (i : Nat) : Value := .tuple #[tokV i (nx ((B s).drop i)), .int .i64 (if (nx ((B s).drop i)).ok then 0 else 2)]
theorem nxV_of {s : ByteArray} {i j m : Nat} {ok : Bool} {k e p q : Int} (hj : j = i + sk false ((B s).drop i)) (hb : body ((B s).drop j) = (ok, k, m)) (he : e = if ok then 0 else 2) (hp : p = j) (hq : q = ((j + m : Nat) : Int)) :
    .tuple #[.agg #[.int .i64 k, .int .i64 p, .int .i64 q], .int .i64 e] = nxV s i := by
  subst hp hq he
  have h1 : nx ((B s).drop i) = ⟨ok, k, sk false ((B s).drop i), m⟩ := by
    rw [nx]; simp only [List.drop_drop]; rw [← hj, hb]
  rw [nxV, h1, tokV, hj]
end Tk
end Go.Proofs.YtgnkdeapifbgeaaDoor
namespace Go.Proofs.YtgnkdeapifbgeaaDoor
open Go Go.RowKit Fw
set_option linter.unusedVariables false
set_option maxRecDepth 20000
namespace Tk
set_option maxHeartbeats 1000000 in
theorem Next (s : ByteArray) (i : Nat) (w : World) (hg : Glob w) (hs : s.size ≤ 1000000) (hi : i ≤ s.size) :
    Ret Tryd.prog 24 [.string s, .int .i64 i] w fun v w1 => v = nxV s i ∧ Kp No w w1 := by
  refine ret_enter Tryd.func24 rfl Tryd.ntmps24 rfl ?_
  (repeat (first | refine k_nil ?_ | refine k_n ?_ | refine k_r ?_ | refine k_x ?_ | refine b_n ?_ | refine b_r ?_ | refine b_y rfl ?_ | refine b_z rfl ?_ | refine l_r ?_ | refine l_x ?_ | refine k_seq ?_ | refine k_blk ?_ | refine k_reg ?_ | refine k_ret ?_ | refine k_exit ?_ | refine k_skip ?_ | refine Zs ?_))
  refine s_al rfl (fun b4 w1 n1 => ?_)
  (repeat (first | refine k_nil ?_ | refine k_n ?_ | refine k_r ?_ | refine k_x ?_ | refine b_n ?_ | refine b_r ?_ | refine b_y rfl ?_ | refine b_z rfl ?_ | refine l_r ?_ | refine l_x ?_ | refine k_seq ?_ | refine k_blk ?_ | refine k_reg ?_ | refine k_ret ?_ | refine k_exit ?_ | refine k_skip ?_ | refine Zs ?_))
  refine s_call (us := []) (zs := []) (by kernel_rfl) rfl rfl (skip s i w1 hs hi) ?_
  rintro _ w2 ⟨rfl, rfl⟩
  obtain ⟨j, hj⟩ : ∃ j, j = i + sk false ((B s).drop i) := ⟨_, rfl⟩
  have hjl : j ≤ s.size := by
    have := sk_le ((B s).drop i) false
    rw [List.length_drop, B_len] at this; omega
  rw [← hj]
  (repeat (first | refine k_nil ?_ | refine k_n ?_ | refine k_r ?_ | refine k_x ?_ | refine b_n ?_ | refine b_r ?_ | refine b_y rfl ?_ | refine b_z rfl ?_ | refine l_r ?_ | refine l_x ?_ | refine k_seq ?_ | refine k_blk ?_ | refine k_reg ?_ | refine k_ret ?_ | refine k_exit ?_ | refine k_skip ?_ | refine Zs ?_))
  refine s_al rfl (fun b6 w3 n3 => ?_)
  refine s_st rfl rfl rfl rfl rfl n3.blk (Nat.le_of_ble_eq_true rfl) (fun w4 s4 => ?_)
  have y1 := n1.ge
  have x1 := n1.lt
  have z1 := n1.kp.size
  have y3 := n3.ge
  have x3 := n3.lt
  have z3 := n3.kp.size
  have z4 := s4.sz
  have b4' := s4.kp.get (n3.kp.get0 n1.blk) (by show ¬ b4 = b6; omega)
  have b6' := s4.blk
  have k4 : Kp No w w4 := (n1.kp.no n3.kp).trans s4.kp (fun _ _ e => by omega)
  have hg4 := hg.kp k4
  have ag : ∀ w', Kp No w4 w' → w'.heap[b4]? = some (.cells [.int .i64 0, .int .i64 0, .int .i64 0].toArray 70 (0, 0)) := fun w' k => k.get0 b4'
  clear b4' n1 n3 s4
  (repeat (first | refine k_nil ?_ | refine k_n ?_ | refine k_r ?_ | refine k_x ?_ | refine b_n ?_ | refine b_r ?_ | refine b_y rfl ?_ | refine b_z rfl ?_ | refine l_r ?_ | refine l_x ?_ | refine k_seq ?_ | refine k_blk ?_ | refine k_reg ?_ | refine k_ret ?_ | refine k_exit ?_ | refine k_skip ?_ | refine Zs ?_))
  refine c_eq rfl (fun hend => ?_) (fun hne => ?_)
  · (repeat (first | refine k_nil ?_ | refine k_n ?_ | refine k_r ?_ | refine k_x ?_ | refine b_n ?_ | refine b_r ?_ | refine b_y rfl ?_ | refine b_z rfl ?_ | refine l_r ?_ | refine l_x ?_ | refine k_seq ?_ | refine k_blk ?_ | refine k_reg ?_ | refine k_ret ?_ | refine k_exit ?_ | refine k_skip ?_ | refine Zs ?_))
    refine s_v (r_ldb (vs := [.int .i64 0, .int .i64 j, .int .i64 j]) rfl rfl rfl b6' rfl rfl) ?_
    refine s_st rfl rfl rfl rfl rfl (ag w4 (Kp.refl _ _)) (Nat.le_of_ble_eq_true rfl) (fun w5 s5 => ?_)
    (repeat (first | refine k_nil ?_ | refine k_n ?_ | refine k_r ?_ | refine k_x ?_ | refine b_n ?_ | refine b_r ?_ | refine b_y rfl ?_ | refine b_z rfl ?_ | refine l_r ?_ | refine l_x ?_ | refine k_seq ?_ | refine k_blk ?_ | refine k_reg ?_ | refine k_ret ?_ | refine k_exit ?_ | refine k_skip ?_ | refine Zs ?_))
    refine ret_c2 rfl (rv_ag (vs := [.int .i64 0, .int .i64 j, .int .i64 j]) rfl rfl rfl s5.blk rfl rfl) (rv_t rfl) ⟨nxV_of (ok := true) (m := 0) hj ?_ rfl rfl (by simp), k4.trans s5.kp (fun _ _ e => by omega)⟩
    rw [drop_end s j (by omega)]; rfl
  · have hlt : j < s.size := by omega
    have hd := drop_at s j hlt
    have hr := bt_range s j
    have hsz : (s.extract j s.size).size = s.size - j := by rw [← B_len, B_extract, List.length_drop, List.length_take, B_len]; omega
    have hB : B (s.extract j s.size) = (B s).drop j := by rw [B_extract, List.take_of_length_le (by rw [B_len]; omega)]
    (repeat (first | refine k_nil ?_ | refine k_n ?_ | refine k_r ?_ | refine k_x ?_ | refine b_n ?_ | refine b_r ?_ | refine b_y rfl ?_ | refine b_z rfl ?_ | refine l_r ?_ | refine l_x ?_ | refine k_seq ?_ | refine k_blk ?_ | refine k_reg ?_ | refine k_ret ?_ | refine k_exit ?_ | refine k_skip ?_ | refine Zs ?_))
    refine s_v (r_sl rfl rfl rfl (by omega) (by omega)) ?_
    rw [Int.toNat_natCast]
    refine s_call (us := []) (zs := []) (by kernel_rfl) rfl rfl (sign (s.extract j s.size) w4 hg4 (by omega) (by omega)) ?_
    rintro _ w5 ⟨rfl, k5⟩
    rw [hB]
    have hsg := sg_le ((B s).drop j)
    rw [List.length_drop, B_len] at hsg
    have hg5 := hg4.kp k5
    have z5 := k5.size
    have b6_5 := k5.get0 b6'
    have kw5 := k4.no k5
    (repeat (first | refine k_nil ?_ | refine k_n ?_ | refine k_r ?_ | refine k_x ?_ | refine b_n ?_ | refine b_r ?_ | refine b_y rfl ?_ | refine b_z rfl ?_ | refine l_r ?_ | refine l_x ?_ | refine k_seq ?_ | refine k_blk ?_ | refine k_reg ?_ | refine k_ret ?_ | refine k_exit ?_ | refine k_skip ?_ | refine Zs ?_))
    refine s_v (r_ix rfl rfl rfl (by omega) (by omega)) ?_
    (repeat (first | refine k_nil ?_ | refine k_n ?_ | refine k_r ?_ | refine k_x ?_ | refine b_n ?_ | refine b_r ?_ | refine b_y rfl ?_ | refine b_z rfl ?_ | refine l_r ?_ | refine l_x ?_ | refine k_seq ?_ | refine k_blk ?_ | refine k_reg ?_ | refine k_ret ?_ | refine k_exit ?_ | refine k_skip ?_ | refine Zs ?_))
    refine s_call (us := []) (zs := []) (by kernel_rfl) rfl rfl (letter (bt s j) w5 hr) ?_
    rintro _ w6 ⟨rfl, rfl⟩
    (repeat (first | refine k_nil ?_ | refine k_n ?_ | refine k_r ?_ | refine k_x ?_ | refine b_n ?_ | refine b_r ?_ | refine b_y rfl ?_ | refine b_z rfl ?_ | refine l_r ?_ | refine l_x ?_ | refine k_seq ?_ | refine k_blk ?_ | refine k_reg ?_ | refine k_ret ?_ | refine k_exit ?_ | refine k_skip ?_ | refine Zs ?_))
    refine c_b rfl (fun hl => ?_) (fun hl => ?_)
    · obtain ⟨m, hm⟩ : ∃ m, rn eith ((B s).drop j) = m := ⟨_, rfl⟩
      have hm0 : 0 < m := by rw [← hm, hd]; exact rn_pos (by simp [eith, hl])
      have hml : j + m ≤ s.size := by
        have := rn_le eith ((B s).drop j)
        rw [List.length_drop, B_len, hm] at this; omega
      have hx : B (s.extract j (j + m)) = ((B s).drop j).take m := by rw [B_extract, List.drop_take]; congr 1; omega
      (repeat (first | refine k_nil ?_ | refine k_n ?_ | refine k_r ?_ | refine k_x ?_ | refine b_n ?_ | refine b_r ?_ | refine b_y rfl ?_ | refine b_z rfl ?_ | refine l_r ?_ | refine l_x ?_ | refine k_seq ?_ | refine k_blk ?_ | refine k_reg ?_ | refine k_ret ?_ | refine k_exit ?_ | refine k_skip ?_ | refine Zs ?_))
      refine s_call (us := []) (zs := []) (by kernel_rfl) rfl rfl (run s j 42 eith w6 hs hjl (by kernel_rfl) (fun c w h => either c w h)) ?_
      rintro _ w7 ⟨rfl, rfl⟩
      rw [hm]
      (repeat (first | refine k_nil ?_ | refine k_n ?_ | refine k_r ?_ | refine k_x ?_ | refine b_n ?_ | refine b_r ?_ | refine b_y rfl ?_ | refine b_z rfl ?_ | refine l_r ?_ | refine l_x ?_ | refine k_seq ?_ | refine k_blk ?_ | refine k_reg ?_ | refine k_ret ?_ | refine k_exit ?_ | refine k_skip ?_ | refine Zs ?_))
      refine k_q (by kernel_rfl) (by kernel_rfl) ?_
      refine q_v (fun w' hw => r_slax (a' := some ⟨0, 0, none⟩) (n' := 13) (c' := 13) rfl rfl rfl rfl rfl (by omega) (by omega) (by omega) subA_0 rfl rfl) ?_
      refine q_v (fun w' hw => r_mv rfl) ?_
      refine q_v (fun w' hw => r_mv rfl) ?_
      refine q_v (fun w' hw => r_mv rfl) ?_
      refine q_v (fun w' hw => r_ss rfl rfl rfl rfl (by omega) (by omega) (by omega)) ?_
      refine q_call (us := []) (zs := []) (v := .bool (wordsL.contains (((B s).drop j).take m))) (by kernel_rfl) rfl rfl (fun w' hw => ?_) ?_
      · refine (Contains wordsB (some ⟨0, 0, none⟩) 13 _ w' (.inr ⟨_, _, rfl, (hg5.kp hw).words⟩) (by decide +kernel)).mono ?_
        rintro _ _ ⟨rfl, rfl⟩
        refine ⟨?_, hw⟩
        rw [words_any, Int.toNat_natCast, Int.toNat_natCast, hx]
      refine q_nil (fun w8 k8 => ?_)
      have kw8 := kw5.no k8
      have z8 := k8.size
      (repeat (first | refine k_nil ?_ | refine k_n ?_ | refine k_r ?_ | refine k_x ?_ | refine b_n ?_ | refine b_r ?_ | refine b_y rfl ?_ | refine b_z rfl ?_ | refine l_r ?_ | refine l_x ?_ | refine k_seq ?_ | refine k_blk ?_ | refine k_reg ?_ | refine k_ret ?_ | refine k_exit ?_ | refine k_skip ?_ | refine Zs ?_))
      refine c_b rfl (fun hw => ?_) (fun hw => ?_)
      · (repeat (first | refine k_nil ?_ | refine k_n ?_ | refine k_r ?_ | refine k_x ?_ | refine b_n ?_ | refine b_r ?_ | refine b_y rfl ?_ | refine b_z rfl ?_ | refine l_r ?_ | refine l_x ?_ | refine k_seq ?_ | refine k_blk ?_ | refine k_reg ?_ | refine k_ret ?_ | refine k_exit ?_ | refine k_skip ?_ | refine Zs ?_))
        refine c_eq rfl (fun he => by omega) (fun _ => ?_)
        (repeat (first | refine k_nil ?_ | refine k_n ?_ | refine k_r ?_ | refine k_x ?_ | refine b_n ?_ | refine b_r ?_ | refine b_y rfl ?_ | refine b_z rfl ?_ | refine l_r ?_ | refine l_x ?_ | refine k_seq ?_ | refine k_blk ?_ | refine k_reg ?_ | refine k_ret ?_ | refine k_exit ?_ | refine k_skip ?_ | refine Zs ?_))
        refine s_st rfl rfl rfl rfl rfl (ag w8 (k5.no k8)) (Nat.le_of_ble_eq_true rfl) (fun w9 s9 => ?_)
        (repeat (first | refine k_nil ?_ | refine k_n ?_ | refine k_r ?_ | refine k_x ?_ | refine b_n ?_ | refine b_r ?_ | refine b_y rfl ?_ | refine b_z rfl ?_ | refine l_r ?_ | refine l_x ?_ | refine k_seq ?_ | refine k_blk ?_ | refine k_reg ?_ | refine k_ret ?_ | refine k_exit ?_ | refine k_skip ?_ | refine Zs ?_))
        refine ret_c2 rfl (rv_ag (vs := [.int .i64 3, .int .i64 j, .int .i64 ((j + m : Nat) : Int)]) rfl rfl rfl s9.blk rfl rfl) (rv_t rfl) ⟨nxV_of (ok := true) (m := m) hj ?_ rfl rfl rfl, kw8.trans s9.kp (fun _ _ e => by omega)⟩
        rw [← hm] at hw ⊢
        rw [hd] at hw ⊢
        rw [body, if_pos hl, if_pos hw]
      · (repeat (first | refine k_nil ?_ | refine k_n ?_ | refine k_r ?_ | refine k_x ?_ | refine b_n ?_ | refine b_r ?_ | refine b_y rfl ?_ | refine b_z rfl ?_ | refine l_r ?_ | refine l_x ?_ | refine k_seq ?_ | refine k_blk ?_ | refine k_reg ?_ | refine k_ret ?_ | refine k_exit ?_ | refine k_skip ?_ | refine Zs ?_))
        refine c_eq rfl (fun he => by omega) (fun _ => ?_)
        (repeat (first | refine k_nil ?_ | refine k_n ?_ | refine k_r ?_ | refine k_x ?_ | refine b_n ?_ | refine b_r ?_ | refine b_y rfl ?_ | refine b_z rfl ?_ | refine l_r ?_ | refine l_x ?_ | refine k_seq ?_ | refine k_blk ?_ | refine k_reg ?_ | refine k_ret ?_ | refine k_exit ?_ | refine k_skip ?_ | refine Zs ?_))
        refine s_st rfl rfl rfl rfl rfl (ag w8 (k5.no k8)) (Nat.le_of_ble_eq_true rfl) (fun w9 s9 => ?_)
        (repeat (first | refine k_nil ?_ | refine k_n ?_ | refine k_r ?_ | refine k_x ?_ | refine b_n ?_ | refine b_r ?_ | refine b_y rfl ?_ | refine b_z rfl ?_ | refine l_r ?_ | refine l_x ?_ | refine k_seq ?_ | refine k_blk ?_ | refine k_reg ?_ | refine k_ret ?_ | refine k_exit ?_ | refine k_skip ?_ | refine Zs ?_))
        refine ret_c2 rfl (rv_ag (vs := [.int .i64 1, .int .i64 j, .int .i64 ((j + m : Nat) : Int)]) rfl rfl rfl s9.blk rfl rfl) (rv_t rfl) ⟨nxV_of (ok := true) (m := m) hj ?_ rfl rfl rfl, kw8.trans s9.kp (fun _ _ e => by omega)⟩
        rw [← hm] at hw ⊢
        rw [hd] at hw ⊢
        rw [body, if_pos hl, if_neg (by rw [hw]; exact Bool.false_ne_true)]
    · (repeat (first | refine k_nil ?_ | refine k_n ?_ | refine k_r ?_ | refine k_x ?_ | refine b_n ?_ | refine b_r ?_ | refine b_y rfl ?_ | refine b_z rfl ?_ | refine l_r ?_ | refine l_x ?_ | refine k_seq ?_ | refine k_blk ?_ | refine k_reg ?_ | refine k_ret ?_ | refine k_exit ?_ | refine k_skip ?_ | refine Zs ?_))
      refine s_call (us := []) (zs := []) (by kernel_rfl) rfl rfl (digit (bt s j) w6 hr) ?_
      rintro _ w7 ⟨rfl, rfl⟩
      have hl' : ¬ lett (bt s j) = true := by rw [hl]; exact Bool.false_ne_true
      (repeat (first | refine k_nil ?_ | refine k_n ?_ | refine k_r ?_ | refine k_x ?_ | refine b_n ?_ | refine b_r ?_ | refine b_y rfl ?_ | refine b_z rfl ?_ | refine l_r ?_ | refine l_x ?_ | refine k_seq ?_ | refine k_blk ?_ | refine k_reg ?_ | refine k_ret ?_ | refine k_exit ?_ | refine k_skip ?_ | refine Zs ?_))
      refine c_b rfl (fun hg => ?_) (fun hg => ?_)
      · obtain ⟨m, hm⟩ : ∃ m, rn digi ((B s).drop j) = m := ⟨_, rfl⟩
        have hm0 : 0 < m := by rw [← hm, hd]; exact rn_pos hg
        have hml : j + m ≤ s.size := by
          have := rn_le digi ((B s).drop j)
          rw [List.length_drop, B_len, hm] at this; omega
        have hx : B (s.extract j (j + m)) = ((B s).drop j).take m := by rw [B_extract, List.drop_take]; congr 1; omega
        have hxs : (s.extract j (j + m)).size = m := by rw [← B_len, hx, List.length_take, List.length_drop, B_len]; omega
        have hx0 : bt (s.extract j (j + m)) 0 = bt s j := by
          have h1 : (B (s.extract j (j + m)))[0]? = some (bt s j) := by rw [hx, List.getElem?_take, if_pos hm0, hd]; rfl
          exact B_get h1
        (repeat (first | refine k_nil ?_ | refine k_n ?_ | refine k_r ?_ | refine k_x ?_ | refine b_n ?_ | refine b_r ?_ | refine b_y rfl ?_ | refine b_z rfl ?_ | refine l_r ?_ | refine l_x ?_ | refine k_seq ?_ | refine k_blk ?_ | refine k_reg ?_ | refine k_ret ?_ | refine k_exit ?_ | refine k_skip ?_ | refine Zs ?_))
        refine s_call (us := []) (zs := []) (by kernel_rfl) rfl rfl (run s j 44 digi w7 hs hjl (by kernel_rfl) (fun c w h => digit c w h)) ?_
        rintro _ w8 ⟨rfl, rfl⟩
        rw [hm]
        (repeat (first | refine k_nil ?_ | refine k_n ?_ | refine k_r ?_ | refine k_x ?_ | refine b_n ?_ | refine b_r ?_ | refine b_y rfl ?_ | refine b_z rfl ?_ | refine l_r ?_ | refine l_x ?_ | refine k_seq ?_ | refine k_blk ?_ | refine k_reg ?_ | refine k_ret ?_ | refine k_exit ?_ | refine k_skip ?_ | refine Zs ?_))
        refine s_v (r_ss rfl rfl rfl rfl (by omega) (by omega) (by omega)) ?_
        rw [Int.toNat_natCast, Int.toNat_natCast]
        refine s_call (us := []) (zs := []) (by kernel_rfl) rfl rfl (number (s.extract j (j + m)) w8 (by omega) (by omega)) ?_
        rintro _ w9 ⟨rfl, rfl⟩
        rw [hxs, hx0]
        have hbody : body ((B s).drop j) = if m ≤ 18 ∧ (m = 1 ∨ bt s j ≠ 48) ∧ rn lett (((B s).drop j).drop m) = 0 then (true, 2, m) else (false, 0, 0) := by
          rw [← hm, hd, body, if_neg hl', if_pos hg]
        rw [List.drop_drop] at hbody
        (repeat (first | refine k_nil ?_ | refine k_n ?_ | refine k_r ?_ | refine k_x ?_ | refine b_n ?_ | refine b_r ?_ | refine b_y rfl ?_ | refine b_z rfl ?_ | refine l_r ?_ | refine l_x ?_ | refine k_seq ?_ | refine k_blk ?_ | refine k_reg ?_ | refine k_ret ?_ | refine k_exit ?_ | refine k_skip ?_ | refine Zs ?_))
        by_cases hok : m ≤ 18 ∧ (m = 1 ∨ bt s j ≠ 48)
        · refine s_set 55 false rfl (by rw [decide_eq_true hok]; rfl) ?_
          (repeat (first | refine k_nil ?_ | refine k_n ?_ | refine k_r ?_ | refine k_x ?_ | refine b_n ?_ | refine b_r ?_ | refine b_y rfl ?_ | refine b_z rfl ?_ | refine l_r ?_ | refine l_x ?_ | refine k_seq ?_ | refine k_blk ?_ | refine k_reg ?_ | refine k_ret ?_ | refine k_exit ?_ | refine k_skip ?_ | refine Zs ?_ | refine Zn ?_ | refine Zu ?_ | refine Zg ?_))
          refine s_gcall (us := []) (zs := []) rfl (by kernel_rfl) rfl rfl (run s (j + m) 40 lett w9 hs hml (by kernel_rfl) (fun c w h => letter c w h)) ?_
          rintro _ w10 ⟨rfl, rfl⟩
          (repeat (first | refine k_nil ?_ | refine k_n ?_ | refine k_r ?_ | refine k_x ?_ | refine b_n ?_ | refine b_r ?_ | refine b_y rfl ?_ | refine b_z rfl ?_ | refine l_r ?_ | refine l_x ?_ | refine k_seq ?_ | refine k_blk ?_ | refine k_reg ?_ | refine k_ret ?_ | refine k_exit ?_ | refine k_skip ?_ | refine Zs ?_ | refine Zn ?_ | refine Zu ?_ | refine Zg ?_))
          refine c_dec rfl (fun hgt => ?_) (fun hgt => ?_)
          · (repeat (first | refine k_nil ?_ | refine k_n ?_ | refine k_r ?_ | refine k_x ?_ | refine b_n ?_ | refine b_r ?_ | refine b_y rfl ?_ | refine b_z rfl ?_ | refine l_r ?_ | refine l_x ?_ | refine k_seq ?_ | refine k_blk ?_ | refine k_reg ?_ | refine k_ret ?_ | refine k_exit ?_ | refine k_skip ?_ | refine Zs ?_))
            refine c_eq rfl (fun _ => ?_) (fun he => absurd rfl he)
            (repeat (first | refine k_nil ?_ | refine k_n ?_ | refine k_r ?_ | refine k_x ?_ | refine b_n ?_ | refine b_r ?_ | refine b_y rfl ?_ | refine b_z rfl ?_ | refine l_r ?_ | refine l_x ?_ | refine k_seq ?_ | refine k_blk ?_ | refine k_reg ?_ | refine k_ret ?_ | refine k_exit ?_ | refine k_skip ?_ | refine Zs ?_))
            refine s_v (r_ldb (vs := [.int .i64 0, .int .i64 j, .int .i64 j]) rfl rfl rfl b6_5 rfl rfl) ?_
            refine s_st rfl rfl rfl rfl rfl (ag w10 k5) (Nat.le_of_ble_eq_true rfl) (fun w11 s11 => ?_)
            (repeat (first | refine k_nil ?_ | refine k_n ?_ | refine k_r ?_ | refine k_x ?_ | refine b_n ?_ | refine b_r ?_ | refine b_y rfl ?_ | refine b_z rfl ?_ | refine l_r ?_ | refine l_x ?_ | refine k_seq ?_ | refine k_blk ?_ | refine k_reg ?_ | refine k_ret ?_ | refine k_exit ?_ | refine k_skip ?_ | refine Zs ?_))
            refine ret_c2 rfl (rv_ag (vs := [.int .i64 0, .int .i64 j, .int .i64 j]) rfl rfl rfl s11.blk rfl rfl) (rv_t rfl) ⟨nxV_of (ok := false) (m := 0) hj ?_ rfl rfl (by simp), kw5.trans s11.kp (fun _ _ e => by omega)⟩
            rw [hbody, if_neg (by rintro ⟨_, _, h⟩; omega)]
          · (repeat (first | refine k_nil ?_ | refine k_n ?_ | refine k_r ?_ | refine k_x ?_ | refine b_n ?_ | refine b_r ?_ | refine b_y rfl ?_ | refine b_z rfl ?_ | refine l_r ?_ | refine l_x ?_ | refine k_seq ?_ | refine k_blk ?_ | refine k_reg ?_ | refine k_ret ?_ | refine k_exit ?_ | refine k_skip ?_ | refine Zs ?_))
            refine c_eq rfl (fun he => by omega) (fun _ => ?_)
            (repeat (first | refine k_nil ?_ | refine k_n ?_ | refine k_r ?_ | refine k_x ?_ | refine b_n ?_ | refine b_r ?_ | refine b_y rfl ?_ | refine b_z rfl ?_ | refine l_r ?_ | refine l_x ?_ | refine k_seq ?_ | refine k_blk ?_ | refine k_reg ?_ | refine k_ret ?_ | refine k_exit ?_ | refine k_skip ?_ | refine Zs ?_))
            refine s_st rfl rfl rfl rfl rfl (ag w10 k5) (Nat.le_of_ble_eq_true rfl) (fun w11 s11 => ?_)
            (repeat (first | refine k_nil ?_ | refine k_n ?_ | refine k_r ?_ | refine k_x ?_ | refine b_n ?_ | refine b_r ?_ | refine b_y rfl ?_ | refine b_z rfl ?_ | refine l_r ?_ | refine l_x ?_ | refine k_seq ?_ | refine k_blk ?_ | refine k_reg ?_ | refine k_ret ?_ | refine k_exit ?_ | refine k_skip ?_ | refine Zs ?_))
            refine ret_c2 rfl (rv_ag (vs := [.int .i64 2, .int .i64 j, .int .i64 ((j + m : Nat) : Int)]) rfl rfl rfl s11.blk rfl rfl) (rv_t rfl) ⟨nxV_of (ok := true) (m := m) hj ?_ rfl rfl rfl, kw5.trans s11.kp (fun _ _ e => by omega)⟩
            rw [hbody, if_pos ⟨hok.1, hok.2, by omega⟩]
        · refine s_set 55 true rfl (by rw [decide_eq_false hok]; rfl) ?_
          (repeat (first | refine k_nil ?_ | refine k_n ?_ | refine k_r ?_ | refine k_x ?_ | refine b_n ?_ | refine b_r ?_ | refine b_y rfl ?_ | refine b_z rfl ?_ | refine l_r ?_ | refine l_x ?_ | refine k_seq ?_ | refine k_blk ?_ | refine k_reg ?_ | refine k_ret ?_ | refine k_exit ?_ | refine k_skip ?_ | refine Zs ?_ | refine Zn ?_ | refine Zu ?_ | refine Zg ?_))
          refine c_t rfl ?_
          (repeat (first | refine k_nil ?_ | refine k_n ?_ | refine k_r ?_ | refine k_x ?_ | refine b_n ?_ | refine b_r ?_ | refine b_y rfl ?_ | refine b_z rfl ?_ | refine l_r ?_ | refine l_x ?_ | refine k_seq ?_ | refine k_blk ?_ | refine k_reg ?_ | refine k_ret ?_ | refine k_exit ?_ | refine k_skip ?_ | refine Zs ?_))
          refine c_eq rfl (fun _ => ?_) (fun he => absurd rfl he)
          (repeat (first | refine k_nil ?_ | refine k_n ?_ | refine k_r ?_ | refine k_x ?_ | refine b_n ?_ | refine b_r ?_ | refine b_y rfl ?_ | refine b_z rfl ?_ | refine l_r ?_ | refine l_x ?_ | refine k_seq ?_ | refine k_blk ?_ | refine k_reg ?_ | refine k_ret ?_ | refine k_exit ?_ | refine k_skip ?_ | refine Zs ?_))
          refine s_v (r_ldb (vs := [.int .i64 0, .int .i64 j, .int .i64 j]) rfl rfl rfl b6_5 rfl rfl) ?_
          refine s_st rfl rfl rfl rfl rfl (ag w9 k5) (Nat.le_of_ble_eq_true rfl) (fun w11 s11 => ?_)
          (repeat (first | refine k_nil ?_ | refine k_n ?_ | refine k_r ?_ | refine k_x ?_ | refine b_n ?_ | refine b_r ?_ | refine b_y rfl ?_ | refine b_z rfl ?_ | refine l_r ?_ | refine l_x ?_ | refine k_seq ?_ | refine k_blk ?_ | refine k_reg ?_ | refine k_ret ?_ | refine k_exit ?_ | refine k_skip ?_ | refine Zs ?_))
          refine ret_c2 rfl (rv_ag (vs := [.int .i64 0, .int .i64 j, .int .i64 j]) rfl rfl rfl s11.blk rfl rfl) (rv_t rfl) ⟨nxV_of (ok := false) (m := 0) hj ?_ rfl rfl (by simp), kw5.trans s11.kp (fun _ _ e => by omega)⟩
          rw [hbody, if_neg (by rintro ⟨h1, h2, _⟩; exact hok ⟨h1, h2⟩)]
      · have hg' : ¬ digi (bt s j) = true := by rw [hg]; exact Bool.false_ne_true
        obtain ⟨m, hm⟩ : ∃ m, sg ((B s).drop j) = m := ⟨_, rfl⟩
        rw [hm]
        have hbody : body ((B s).drop j) = if m = 0 then (false, 0, 0) else (true, 4, m) := by
          rw [← hm, hd, body, if_neg hl', if_neg hg']
        (repeat (first | refine k_nil ?_ | refine k_n ?_ | refine k_r ?_ | refine k_x ?_ | refine b_n ?_ | refine b_r ?_ | refine b_y rfl ?_ | refine b_z rfl ?_ | refine l_r ?_ | refine l_x ?_ | refine k_seq ?_ | refine k_blk ?_ | refine k_reg ?_ | refine k_ret ?_ | refine k_exit ?_ | refine k_skip ?_ | refine Zs ?_))
        refine c_eq rfl (fun h0 => ?_) (fun h0 => ?_)
        · (repeat (first | refine k_nil ?_ | refine k_n ?_ | refine k_r ?_ | refine k_x ?_ | refine b_n ?_ | refine b_r ?_ | refine b_y rfl ?_ | refine b_z rfl ?_ | refine l_r ?_ | refine l_x ?_ | refine k_seq ?_ | refine k_blk ?_ | refine k_reg ?_ | refine k_ret ?_ | refine k_exit ?_ | refine k_skip ?_ | refine Zs ?_))
          refine s_v (r_ldb (vs := [.int .i64 0, .int .i64 j, .int .i64 j]) rfl rfl rfl b6_5 rfl rfl) ?_
          refine s_st rfl rfl rfl rfl rfl (ag w7 k5) (Nat.le_of_ble_eq_true rfl) (fun w11 s11 => ?_)
          (repeat (first | refine k_nil ?_ | refine k_n ?_ | refine k_r ?_ | refine k_x ?_ | refine b_n ?_ | refine b_r ?_ | refine b_y rfl ?_ | refine b_z rfl ?_ | refine l_r ?_ | refine l_x ?_ | refine k_seq ?_ | refine k_blk ?_ | refine k_reg ?_ | refine k_ret ?_ | refine k_exit ?_ | refine k_skip ?_ | refine Zs ?_))
          refine ret_c2 rfl (rv_ag (vs := [.int .i64 0, .int .i64 j, .int .i64 j]) rfl rfl rfl s11.blk rfl rfl) (rv_t rfl) ⟨nxV_of (ok := false) (m := 0) hj ?_ rfl rfl (by simp), kw5.trans s11.kp (fun _ _ e => by omega)⟩
          rw [hbody, if_pos (by omega)]
        · (repeat (first | refine k_nil ?_ | refine k_n ?_ | refine k_r ?_ | refine k_x ?_ | refine b_n ?_ | refine b_r ?_ | refine b_y rfl ?_ | refine b_z rfl ?_ | refine l_r ?_ | refine l_x ?_ | refine k_seq ?_ | refine k_blk ?_ | refine k_reg ?_ | refine k_ret ?_ | refine k_exit ?_ | refine k_skip ?_ | refine Zs ?_))
          refine s_st rfl rfl rfl rfl rfl (ag w7 k5) (Nat.le_of_ble_eq_true rfl) (fun w11 s11 => ?_)
          (repeat (first | refine k_nil ?_ | refine k_n ?_ | refine k_r ?_ | refine k_x ?_ | refine b_n ?_ | refine b_r ?_ | refine b_y rfl ?_ | refine b_z rfl ?_ | refine l_r ?_ | refine l_x ?_ | refine k_seq ?_ | refine k_blk ?_ | refine k_reg ?_ | refine k_ret ?_ | refine k_exit ?_ | refine k_skip ?_ | refine Zs ?_))
          refine ret_c2 rfl (rv_ag (vs := [.int .i64 4, .int .i64 j, .int .i64 ((j : Int) + (m : Int))]) rfl rfl rfl s11.blk rfl rfl) (rv_t rfl) ⟨nxV_of (ok := true) (m := m) hj ?_ rfl rfl (by omega), kw5.trans s11.kp (fun _ _ e => by omega)⟩
          rw [hbody, if_neg (by omega)]
end Tk
end Go.Proofs.YtgnkdeapifbgeaaDoor
namespace Go.Proofs.YtgnkdeapifbgeaaDoor
open Go Go.RowKit Fw
set_option linter.unusedVariables false
set_option maxRecDepth 20000
namespace Tk
/-- A token: kind, from, to. -/
abbrev T3 := Int × Int × Int
def tc (ts : List T3) : List Value := ts.flatMap fun t => [.int .i64 t.1, .int .i64 t.2.1, .int .i64 t.2.2]
theorem tc_len (ts : List T3) : (tc ts).length = ts.length * 3 := flat_length (f := fun t : T3 => [.int .i64 t.1, .int .i64 t.2.1, .int .i64 t.2.2]) (fun _ => rfl) ts
theorem tc_one (ts : List T3) : (tc ts).all Value.oneCell' = true := by
  simp only [tc, List.all_flatMap]
  exact List.all_eq_true.2 fun _ _ => rfl
theorem tc_get {ts : List T3} {i : Nat} {t : T3} (h : ts[i]? = some t) : (tc ts)[i * 3]? = some (.int .i64 t.1) ∧ (tc ts)[i * 3 + 1]? = some (.int .i64 t.2.1) ∧ (tc ts)[i * 3 + 2]? = some (.int .i64 t.2.2) :=
  ⟨flat_get (f := fun t : T3 => [.int .i64 t.1, .int .i64 t.2.1, .int .i64 t.2.2]) (sz := 3) (fun _ => rfl) ts i 0 t h (by omega), flat_get (f := fun t : T3 => [.int .i64 t.1, .int .i64 t.2.1, .int .i64 t.2.2]) (sz := 3) (fun _ => rfl) ts i 1 t h (by omega),
    flat_get (f := fun t : T3 => [.int .i64 t.1, .int .i64 t.2.1, .int .i64 t.2.2]) (sz := 3) (fun _ => rfl) ts i 2 t h (by omega)⟩
/-- All tokens from a place; or where there is none. -/
def als : Nat → Nat → List Int → List T3 × Option Int
  | 0, a, _ => ([], some a)
  | f + 1, a, L =>
    if (nx L).ok then
      if (nx L).k = 0 then ([(0, ((a + (nx L).n : Nat) : Int), ((a + (nx L).n + (nx L).m : Nat) : Int))], none)
      else match als f (a + (nx L).n + (nx L).m) (L.drop ((nx L).n + (nx L).m)) with
        | (l, e) => (((nx L).k, ((a + (nx L).n : Nat) : Int), ((a + (nx L).n + (nx L).m : Nat) : Int)) :: l, e)
    else ([], some ((a + (nx L).n : Nat) : Int))
/-- A text's tokens; a place; the error. -/
def allT (L : List Int) : List T3 × Int × Int :=
  if 20000 < L.length then ([], 0, 1) else match als (L.length + 1) 0 L with
    | (l, none) => (l, 0, 0)
    | (_, some p) => ([], p, 2)
theorem nx_pos {L : List Int} (h : (nx L).ok = true) (hk : (nx L).k ≠ 0) : 0 < (nx L).m := by
  by_cases h0 : L.drop (sk false L) = []
  · exact absurd (show (nx L).k = 0 by rw [nx, h0]; rfl) hk
  · exact (body_pos (L := L.drop (sk false L)) h h0).1
/-- What both do: one walk, for the program and for the document. -/
theorem als_len (f a : Nat) (L : List Int) : (als f a L).1.length ≤ L.length + 1 := by
  induction f generalizing a L with
  | zero => simp [als]
  | succ f ih =>
    rw [als]
    split
    · rename_i hok
      split
      · simp
      · rename_i hk
        have h1 := nx_pos hok hk
        have h2 := nx_le L
        have h3 := ih (a + (nx L).n + (nx L).m) (L.drop ((nx L).n + (nx L).m))
        rw [List.length_drop] at h3
        simp only [List.length_cons]
        omega
    · simp
set_option maxHeartbeats 1000000 in
theorem All (s : ByteArray) (w : World) (hg : Glob w) (hs : s.size ≤ 1000000) :
    Ret Tryd.prog 15 [.string s] w fun v w1 => ∃ u, v = .tuple #[u, .int .i64 (allT (B s)).2.1, .int .i64 (allT (B s)).2.2] ∧ w1.ownsRow w.heap.size 70 3 u (allT (B s)).1.length (tc (allT (B s)).1) ∧ Kp No w w1 := by
  have hlen := B_len s
  refine ret_enter Tryd.func15 rfl Tryd.ntmps15 rfl ?_
  (repeat (first | refine k_nil ?_ | refine k_n ?_ | refine k_r ?_ | refine k_x ?_ | refine b_n ?_ | refine b_r ?_ | refine b_y rfl ?_ | refine b_z rfl ?_ | refine l_r ?_ | refine l_x ?_ | refine k_seq ?_ | refine k_blk ?_ | refine k_reg ?_ | refine k_ret ?_ | refine k_exit ?_ | refine k_skip ?_ | refine Zs ?_))
  refine c_dec rfl (fun hbig => ?_) (fun hsm => ?_)
  · have hall : allT (B s) = ([], 0, 1) := by rw [allT, if_pos (by omega)]
    (repeat (first | refine k_nil ?_ | refine k_n ?_ | refine k_r ?_ | refine k_x ?_ | refine b_n ?_ | refine b_r ?_ | refine b_y rfl ?_ | refine b_z rfl ?_ | refine l_r ?_ | refine l_x ?_ | refine k_seq ?_ | refine k_blk ?_ | refine k_reg ?_ | refine k_ret ?_ | refine k_exit ?_ | refine k_skip ?_ | refine Zs ?_))
    refine ret_3 rfl rfl rfl rfl ⟨.slice none 0 0, by rw [hall], ?_, Kp.refl _ _⟩
    rw [hall]
    exact ⟨by simp [tc], .inl ⟨rfl, rfl⟩⟩
  · obtain ⟨R, hR⟩ : ∃ R, als (s.size + 1) 0 (B s) = R := ⟨_, rfl⟩
    (repeat (first | refine k_nil ?_ | refine k_n ?_ | refine k_r ?_ | refine k_x ?_ | refine b_n ?_ | refine b_r ?_ | refine b_y rfl ?_ | refine b_z rfl ?_ | refine l_r ?_ | refine l_x ?_ | refine k_seq ?_ | refine k_blk ?_ | refine k_reg ?_ | refine k_ret ?_ | refine k_exit ?_ | refine k_skip ?_ | refine Zs ?_))
    refine k_loop (σ := Nat × Value × List T3 × Nat) (fun t => [(0, .string s), (5, t.2.1), (6, .int .i64 t.1)])
      (fun t w' => t.1 ≤ s.size ∧ t.2.2.2 = s.size - t.1 + 1 ∧ w'.ownsRow w.heap.size 70 3 t.2.1 t.2.2.1.length (tc t.2.2.1) ∧ t.2.2.1.length ≤ t.1 ∧ Kp No w w' ∧
        (∃ f', s.size - t.1 + 1 ≤ f' ∧ R = (t.2.2.1 ++ (als f' t.1 ((B s).drop t.1)).1, (als f' t.1 ((B s).drop t.1)).2))) (fun t => s.size - t.1 + 1) (0, .slice none 0 0, [], s.size + 1) ⟨rfl, rfl, rfl, trivial⟩
      ⟨Nat.zero_le _, by simp, ⟨by simp [tc], .inl ⟨rfl, rfl⟩⟩, by simp, Kp.refl _ _, s.size + 1, by simp, by simp [hR]⟩ ?_
    rintro ⟨a, v, ts, fu⟩ l w1 ⟨ha, hfu, hown, htl, k1, f', hf', hals⟩
    simp only at ha hfu hown htl k1 hf' hals
    dsimp only
    have hnl := nx_le ((B s).drop a)
    rw [List.length_drop, B_len] at hnl
    obtain ⟨g, rfl⟩ : ∃ g, f' = g + 1 := ⟨f' - 1, by omega⟩
    obtain ⟨ok, k, n, m, hnx⟩ : ∃ ok k n m, nx ((B s).drop a) = ⟨ok, k, n, m⟩ := ⟨_, _, _, _, rfl⟩
    have hpos : ok = true → k ≠ 0 → 0 < m := fun h hk => by have := nx_pos (L := (B s).drop a) (by rw [hnx]; exact h) (by rw [hnx]; exact hk); rw [hnx] at this; exact this
    rw [hnx] at hnl
    simp only at hnl
    rw [als, hnx] at hals
    simp only at hals
    obtain ⟨av, cv, rfl, _, _, _⟩ := own_read hown
    (repeat (first | refine k_nil ?_ | refine k_n ?_ | refine k_r ?_ | refine k_x ?_ | refine b_n ?_ | refine b_r ?_ | refine b_y rfl ?_ | refine b_z rfl ?_ | refine l_r ?_ | refine l_x ?_ | refine k_seq ?_ | refine k_blk ?_ | refine k_reg ?_ | refine k_ret ?_ | refine k_exit ?_ | refine k_skip ?_ | refine Zs ?_))
    refine s_call (us := []) (zs := []) (by kernel_rfl) rfl rfl (Next s a w1 (hg.kp k1) hs ha) ?_
    rintro _ w2 ⟨rfl, k2⟩
    rw [nxV, tokV, hnx]
    (repeat (first | refine k_nil ?_ | refine k_n ?_ | refine k_r ?_ | refine k_x ?_ | refine b_n ?_ | refine b_r ?_ | refine b_y rfl ?_ | refine b_z rfl ?_ | refine l_r ?_ | refine l_x ?_ | refine k_seq ?_ | refine k_blk ?_ | refine k_reg ?_ | refine k_ret ?_ | refine k_exit ?_ | refine k_skip ?_ | refine Zs ?_))
    refine s_al rfl (fun b7 w3 n3 => ?_)
    refine s_st rfl rfl rfl rfl rfl n3.blk (Nat.le_of_ble_eq_true rfl) (fun w4 s4 => ?_)
    have y3 := n3.ge
    have z2 := k2.size
    have z3 := n3.kp.size
    have z4 := s4.sz
    have z1 := k1.size
    have hb7 := s4.blk
    have k4 : Kp No w1 w4 := (k2.no n3.kp).trans s4.kp (fun _ _ e => by omega)
    have kw4 := k1.no k4
    have own4 := own_kp hown k4 (fun _ _ => id)
    (repeat (first | refine k_nil ?_ | refine k_n ?_ | refine k_r ?_ | refine k_x ?_ | refine b_n ?_ | refine b_r ?_ | refine b_y rfl ?_ | refine b_z rfl ?_ | refine l_r ?_ | refine l_x ?_ | refine k_seq ?_ | refine k_blk ?_ | refine k_reg ?_ | refine k_ret ?_ | refine k_exit ?_ | refine k_skip ?_ | refine Zs ?_))
    cases ok with
    | false =>
      refine k_re 19 (v' := .bool true) rfl rfl ?_
      refine c_t rfl ?_
      have hall : allT (B s) = ([], ((a + n : Nat) : Int), 2) := by
        rw [allT, if_neg (by omega), hlen, hR, hals]; rfl
      (repeat (first | refine k_nil ?_ | refine k_n ?_ | refine k_r ?_ | refine k_x ?_ | refine b_n ?_ | refine b_r ?_ | refine b_y rfl ?_ | refine b_z rfl ?_ | refine l_r ?_ | refine l_x ?_ | refine k_seq ?_ | refine k_blk ?_ | refine k_reg ?_ | refine k_ret ?_ | refine k_exit ?_ | refine k_skip ?_ | refine Zs ?_))
      refine k_q (by kernel_rfl) (by kernel_rfl) ?_
      refine q_v (fun w' hw => r_fa rfl rfl) ?_
      refine q_v (fun w' hw => r_fa rfl rfl) ?_
      refine q_v (fun w' hw => r_ld rfl rfl (cell_of_blk (hw.get0 hb7) (by rfl))) ?_
      refine q_v (fun w' hw => r_mv rfl) ?_
      refine q_v (fun w' hw => r_as rfl) ?_
      refine q_v (fun w' hw => r_as rfl) ?_
      refine q_v (fun w' hw => r_as rfl) ?_
      refine q_nil (fun w5 k5 => ?_)
      (repeat (first | refine k_nil ?_ | refine k_n ?_ | refine k_r ?_ | refine k_x ?_ | refine b_n ?_ | refine b_r ?_ | refine b_y rfl ?_ | refine b_z rfl ?_ | refine l_r ?_ | refine l_x ?_ | refine k_seq ?_ | refine k_blk ?_ | refine k_reg ?_ | refine k_ret ?_ | refine k_exit ?_ | refine k_skip ?_ | refine Zs ?_))
      refine ret_3 rfl rfl rfl rfl ⟨.slice none 0 0, by rw [hall]; rfl, ?_, kw4.no k5⟩
      rw [hall]
      exact ⟨by simp [tc], .inl ⟨rfl, rfl⟩⟩
    | true =>
      refine k_re 19 (v' := .bool false) rfl rfl ?_
      refine c_f rfl ?_
      (repeat (first | refine k_nil ?_ | refine k_n ?_ | refine k_r ?_ | refine k_x ?_ | refine b_n ?_ | refine b_r ?_ | refine b_y rfl ?_ | refine b_z rfl ?_ | refine l_r ?_ | refine l_x ?_ | refine k_seq ?_ | refine k_blk ?_ | refine k_reg ?_ | refine k_ret ?_ | refine k_exit ?_ | refine k_skip ?_ | refine Zs ?_))
      refine s_v (r_ldb (vs := [.int .i64 k, .int .i64 ((a + n : Nat) : Int), .int .i64 ((a + n + m : Nat) : Int)]) rfl rfl rfl hb7 rfl rfl) ?_
      refine s_bs (cs := [.int .i64 k, .int .i64 ((a + n : Nat) : Int), .int .i64 ((a + n + m : Nat) : Int)]) rfl (fun b8 w5 n5 => ?_)
      have own5 := own_kp own4 n5.kp (fun _ _ => id)
      have z5 := n5.kp.size
      refine s_app (size := 3) (bytes := 24) (base := w.heap.size) (news := [.int .i64 k, .int .i64 ((a + n : Nat) : Int), .int .i64 ((a + n + m : Nat) : Int)]) rfl rfl rfl rfl rfl rfl rfl rfl own5 rfl (blk_cells n5.blk) rfl rfl (by omega) (by omega) (by omega) ?_
      intro v6 w6 a6
      have hbs : ∀ g, (Value.slice av ts.length cv).ownBlock = some g → w.heap.size ≤ g ∧ g < w1.heap.size := fun g e => own_lt hown e
      have hb7' := a6.kp.get (n5.kp.get0 hb7) (fun e => by have := hbs b7 e.symm; omega)
      have k6 : Kp No w w6 := (kw4.no n5.kp).trans a6.kp (fun i hi e => by have := hbs i e.symm; omega)
      have own6 : w6.ownsRow w.heap.size 70 3 v6 (ts ++ [(k, ((a + n : Nat) : Int), ((a + n + m : Nat) : Int))]).length (tc (ts ++ [(k, ((a + n : Nat) : Int), ((a + n + m : Nat) : Int))])) := by
        have := a6.own
        have e1 : tc (ts ++ [(k, ((a + n : Nat) : Int), ((a + n + m : Nat) : Int))]) = tc ts ++ [.int .i64 k, .int .i64 ((a + n : Nat) : Int), .int .i64 ((a + n + m : Nat) : Int)] := by simp [tc]
        rw [e1, List.length_append, List.length_singleton]
        exact this
      obtain ⟨a6', c6, rfl, _, _, _⟩ := own_read a6.own
      (repeat (first | refine k_nil ?_ | refine k_n ?_ | refine k_r ?_ | refine k_x ?_ | refine b_n ?_ | refine b_r ?_ | refine b_y rfl ?_ | refine b_z rfl ?_ | refine l_r ?_ | refine l_x ?_ | refine k_seq ?_ | refine k_blk ?_ | refine k_reg ?_ | refine k_ret ?_ | refine k_exit ?_ | refine k_skip ?_ | refine Zs ?_))
      refine c_eq rfl (fun hk => ?_) (fun hk => ?_)
      · subst hk
        have hall : allT (B s) = (ts ++ [(0, ((a + n : Nat) : Int), ((a + n + m : Nat) : Int))], 0, 0) := by
          rw [allT, if_neg (by omega), hlen, hR, hals]; rfl
        (repeat (first | refine k_nil ?_ | refine k_n ?_ | refine k_r ?_ | refine k_x ?_ | refine b_n ?_ | refine b_r ?_ | refine b_y rfl ?_ | refine b_z rfl ?_ | refine l_r ?_ | refine l_x ?_ | refine k_seq ?_ | refine k_blk ?_ | refine k_reg ?_ | refine k_ret ?_ | refine k_exit ?_ | refine k_skip ?_ | refine Zs ?_))
        refine ret_3 rfl rfl rfl rfl ⟨.slice a6' (ts.length + 1) c6, by rw [hall], ?_, k6⟩
        rw [hall]
        exact own6
      · have hm := hpos rfl hk
        (repeat (first | refine k_nil ?_ | refine k_n ?_ | refine k_r ?_ | refine k_x ?_ | refine b_n ?_ | refine b_r ?_ | refine b_y rfl ?_ | refine b_z rfl ?_ | refine l_r ?_ | refine l_x ?_ | refine k_seq ?_ | refine k_blk ?_ | refine k_reg ?_ | refine k_ret ?_ | refine k_exit ?_ | refine k_skip ?_ | refine Zs ?_))
        refine l_next (a + n + m, .slice a6' (ts.length + 1) c6, ts ++ [(k, ((a + n : Nat) : Int), ((a + n + m : Nat) : Int))], s.size - (a + n + m) + 1) ⟨rfl, rfl, rfl, trivial⟩
          ⟨by show a + n + m ≤ s.size; omega, rfl, own6, by simp only [List.length_append, List.length_singleton]; omega, k6, g, by show s.size - (a + n + m) + 1 ≤ g; omega, ?_⟩ (by show s.size - (a + n + m) + 1 < s.size - a + 1; omega)
        show R = (ts ++ [(k, ((a + n : Nat) : Int), ((a + n + m : Nat) : Int))] ++ (als g (a + n + m) ((B s).drop (a + n + m))).1, (als g (a + n + m) ((B s).drop (a + n + m))).2)
        rw [hals]
        simp only [if_true, if_neg hk, List.drop_drop]
        rw [show a + (n + m) = a + n + m from by omega]
        simp
end Tk
end Go.Proofs.YtgnkdeapifbgeaaDoor
namespace Go.Proofs.YtgnkdeapifbgeaaDoor
open Go Go.RowKit Fw
set_option linter.unusedVariables false
namespace Tk
/-- A row of tokens that is read. -/
def RdT (w : World) (a : Option Addr) (ts : List T3) : Prop := ts = [] ∨ ∃ b o, a = some ⟨b, o, none⟩ ∧ ∀ j u, (tc ts)[j]? = some u → w.cell? ⟨b, o + j, none⟩ = some u
theorem RdT.kp {S : Nat → Prop} {w w' : World} {a : Option Addr} {ts : List T3} (h : RdT w a ts) (k : Kp S w w') (hS : ∀ ad, a = some ad → ¬ S ad.block) : RdT w' a ts := by
  rcases h with h | ⟨b, o, rfl, h⟩
  · exact .inl h
  · exact .inr ⟨b, o, rfl, fun j s hj => k.cell (h j s hj) (show ¬ S b from hS ⟨b, o, none⟩ rfl)⟩
theorem RdT.kp0 {w w' : World} {a : Option Addr} {ts : List T3} (h : RdT w a ts) (k : Kp No w w') : RdT w' a ts := h.kp k fun _ _ => id
theorem RdT.at {w : World} {a : Option Addr} {ts : List T3} (h : RdT w a ts) {i : Nat} {t : T3} (ht : ts[i]? = some t) :
    ∃ b o, a = some ⟨b, o, none⟩ ∧ ∀ w', Kp No w w' → ∀ j, j < 3 → w'.cell? ⟨b, o + (i : Int).toNat * 3 + j, none⟩ = [Value.int .i64 t.1, .int .i64 t.2.1, .int .i64 t.2.2][j]? := by
  rcases h with h | ⟨b, o, rfl, h⟩
  · subst h; simp at ht
  · obtain ⟨h1, h2, h3⟩ := tc_get ht
    refine ⟨b, o, rfl, fun w' k j hj => ?_⟩
    have e : o + (i : Int).toNat * 3 + j = o + (i * 3 + j) := by simp; omega
    rw [e]
    match j, hj with
    | 0, _ => exact k.cell0 (h _ _ h1)
    | 1, _ => exact k.cell0 (h _ _ h2)
    | 2, _ => exact k.cell0 (h _ _ h3)
theorem RdT.of {w : World} {base c : Nat} {T : TypeId} {a : Option Addr} {ts : List T3} (h : w.ownsRow base T 3 (.slice a ts.length c) ts.length (tc ts)) : RdT w a ts := by
  obtain ⟨a', c', e, hc, ha, hr⟩ := own_read h
  simp only [Value.slice.injEq, true_and] at e
  obtain ⟨rfl, rfl⟩ := e
  cases a with
  | none => exact .inl (List.length_eq_zero_iff.1 (ha rfl))
  | some ad =>
    obtain ⟨g, rfl, _, _, hcell⟩ := hr _ rfl
    exact .inr ⟨g, 0, rfl, hcell⟩
end Tk
end Go.Proofs.YtgnkdeapifbgeaaDoor
