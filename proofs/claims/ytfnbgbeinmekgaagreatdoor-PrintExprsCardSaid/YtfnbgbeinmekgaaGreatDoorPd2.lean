/- What the proofs of this seat lean on, part 2. -/
import Derived.Test.YtfnbgbeinmekgaaGreatDoorPd1
import Derived.Test.YtfnbgbeinmekgaaGreatDoorProg
namespace Go.Proofs.YtfnbgbeinmekgaaGreatDoor.Tk
open Go Fw
set_option linter.unusedVariables false
def lett (c : Int) : Bool := c == 95 || (decide (97 ≤ c) && decide (c ≤ 122)) || (decide (65 ≤ c) && decide (c ≤ 90))
def digi (c : Int) : Bool := decide (48 ≤ c) && decide (c ≤ 57)
def eith (c : Int) : Bool := lett c || digi c
def blan (c : Int) : Bool := c == 32 || c == 9 || c == 10 || c == 13
def not10 (c : Int) : Bool := c != 10
/-- How many bytes are blanks, comments among them; true: within a comment. -/
def sk : Bool → List Int → Nat
  | _, [] => 0
  | false, c :: r => if blan c then sk false r + 1 else if c = 35 then sk true r + 1 else 0
  | true, c :: r => if c = 10 then sk false r + 1 else sk true r + 1
/-- How many bytes of a kind stand ahead. -/
def rn (p : Int → Bool) : List Int → Nat
  | [] => 0
  | c :: r => if p c then rn p r + 1 else 0
def pairsL : List (List Int) := [[61, 61], [33, 61], [60, 61], [62, 61], [38, 38], [124, 124]]
def signsL : List Int := [43, 45, 42, 47, 37, 60, 62, 33, 61, 40, 41, 123, 125, 91, 93, 44, 59]
def wordsL : List (List Int) := [[98, 114, 101, 97, 107], [99, 111, 110, 116, 105, 110, 117, 101], [101, 108, 115, 101], [102, 97, 108, 115, 101], [102, 117, 110, 99], [105, 102], [105, 110, 116], [112, 114, 105, 110, 116], [114, 101, 97, 100], [114, 101, 116, 117, 114, 110], [116, 114, 117, 101], [118, 97, 114], [119, 104, 105, 108, 101]]
def strOf (l : List Int) : ByteArray := ⟨(l.map fun c => c.toNat.toUInt8).toArray⟩
def wordsB : List ByteArray := wordsL.map strOf
def pairsB : List ByteArray := pairsL.map strOf
def sg (L : List Int) : Nat := if pairsL.any (fun p => p.isPrefixOf L) then 2 else match L with | [] => 0 | c :: _ => if signsL.contains c then 1 else 0
/-- The token at a text's beginning: is it one; its kind; how many bytes. -/
def body : List Int → Bool × Int × Nat
  | [] => (true, 0, 0)
  | c :: r =>
    if lett c then (true, (if wordsL.contains ((c :: r).take (rn eith (c :: r))) then 3 else 1), rn eith (c :: r))
    else if digi c then
      if rn digi (c :: r) ≤ 18 ∧ (rn digi (c :: r) = 1 ∨ c ≠ 48) ∧ rn lett ((c :: r).drop (rn digi (c :: r))) = 0 then (true, 2, rn digi (c :: r)) else (false, 0, 0)
    else if sg (c :: r) = 0 then (false, 0, 0) else (true, 4, sg (c :: r))
structure Tok where
  ok : Bool
  k : Int
  n : Nat
  m : Nat
def nx (L : List Int) : Tok := let b := body (L.drop (sk false L)); ⟨b.1, b.2.1, sk false L, b.2.2⟩
theorem sk_le : ∀ (L : List Int) (b : Bool), sk b L ≤ L.length := by
  intro L
  induction L with
  | nil => intro b; cases b <;> simp [sk]
  | cons c r ih =>
    intro b
    have h1 := ih true
    have h2 := ih false
    cases b <;> simp only [sk, List.length_cons] <;> split <;> (try split) <;> omega
theorem rn_le (p : Int → Bool) : ∀ L : List Int, rn p L ≤ L.length := by
  intro L
  induction L with
  | nil => simp [rn]
  | cons c r ih => simp only [rn, List.length_cons]; split <;> omega
theorem sk_true : ∀ L : List Int, sk true L = rn not10 L + sk false (L.drop (rn not10 L)) := by
  intro L
  induction L with
  | nil => simp [sk, rn]
  | cons c r ih =>
    by_cases h : c = 10
    · subst h; simp [sk, rn, not10, blan]
    · have : not10 c = true := by simp [not10, h]
      rw [sk, if_neg h, rn, if_pos this, ih, List.drop_succ_cons]; omega
theorem sg_2 {L : List Int} (h : pairsL.any (fun p => p.isPrefixOf L) = true) : sg L = 2 := by unfold sg; rw [if_pos h]
theorem sg_1 {c : Int} {r : List Int} (h : pairsL.any (fun p => p.isPrefixOf (c :: r)) = false) (h1 : signsL.contains c = true) : sg (c :: r) = 1 := by
  unfold sg; rw [if_neg (by rw [h]; exact Bool.false_ne_true)]; simp only; rw [if_pos h1]
theorem sg_0 {c : Int} {r : List Int} (h : pairsL.any (fun p => p.isPrefixOf (c :: r)) = false) (h1 : signsL.contains c = false) : sg (c :: r) = 0 := by
  unfold sg; rw [if_neg (by rw [h]; exact Bool.false_ne_true)]; simp only; rw [if_neg (by rw [h1]; exact Bool.false_ne_true)]
theorem sg_le (L : List Int) : sg L ≤ L.length := by
  unfold sg
  split
  · rename_i h
    obtain ⟨p, hp, hq⟩ := List.any_eq_true.1 h
    have h1 := (List.isPrefixOf_iff_prefix.1 hq).length_le
    have h2 : ∀ p ∈ pairsL, p.length = 2 := by decide
    have := h2 p hp
    omega
  · split
    · simp
    · rename_i c r
      split <;> simp
theorem body_le (L : List Int) : (body L).2.2 ≤ L.length := by
  unfold body
  split
  · simp
  · rename_i c r
    split
    · exact rn_le _ _
    · split
      · split
        · exact rn_le _ _
        · simp
      · split
        · simp
        · exact sg_le _
theorem nx_le (L : List Int) : (nx L).n + (nx L).m ≤ L.length := by
  have h1 := body_le (L.drop (sk false L))
  have h2 := sk_le L false
  rw [List.length_drop] at h1
  show sk false L + (body (L.drop (sk false L))).2.2 ≤ L.length
  omega
theorem rn_pos {p : Int → Bool} {c : Int} {r : List Int} (h : p c = true) : 0 < rn p (c :: r) := by rw [rn, if_pos h]; omega
theorem body_pos {L : List Int} (h1 : (body L).1 = true) (h0 : L ≠ []) : 0 < (body L).2.2 ∧ (body L).2.1 ≠ 0 := by
  revert h1
  unfold body
  cases L with
  | nil => exact absurd rfl h0
  | cons c r =>
    simp only
    split
    · rename_i h
      intro _
      refine ⟨rn_pos (by simp [eith, h]), ?_⟩
      simp only
      split <;> decide
    · split
      · rename_i h
        split
        · intro _; exact ⟨rn_pos h, (by show (2 : Int) ≠ 0; decide)⟩
        · intro h1; cases h1
      · split
        · intro h1; cases h1
        · intro _; exact ⟨by simp only; omega, (by show (4 : Int) ≠ 0; decide)⟩
theorem drop_at (s : ByteArray) (i : Nat) (h : i < s.size) : (B s).drop i = bt s i :: (B s).drop (i + 1) := by
  have := B_at s i h
  rw [List.drop_eq_getElem_cons (by rw [B_len]; exact h)]
  rw [List.getElem?_eq_getElem (by rw [B_len]; exact h)] at this
  rw [Option.some.inj this]
theorem drop_end (s : ByteArray) (i : Nat) (h : s.size ≤ i) : (B s).drop i = [] := List.drop_eq_nil_of_le (by rw [B_len]; exact h)
theorem or32 (c : Int) (h0 : 0 ≤ c) (h1 : c < 256) : ibits .or .u8 c 32 = if (c / 32) % 2 = 0 then c + 32 else c := by
  have key : ∀ n : Fin 256, ibits .or .u8 (n.val : Int) 32 = if ((n.val : Int) / 32) % 2 = 0 then (n.val : Int) + 32 else (n.val : Int) := by decide +kernel
  have := key ⟨c.toNat, by omega⟩
  simp only at this
  rw [show ((c.toNat : Nat) : Int) = c from by omega] at this
  exact this
theorem ib_blank (c : Int) (h0 : 0 ≤ c) (h1 : c < 256) : decide (0 ≤ Lib.indexByte [32, 9, 10, 13] c.toNat.toUInt8) = blan c := by
  have key : ∀ n : Fin 256, decide (0 ≤ Lib.indexByte [32, 9, 10, 13] n.val.toUInt8) = blan (n.val : Int) := by decide +kernel
  have := key ⟨c.toNat, by omega⟩
  simp only at this
  rw [show ((c.toNat : Nat) : Int) = c from by omega] at this
  exact this
theorem ib_sign (c : Int) (h0 : 0 ≤ c) (h1 : c < 256) : decide (0 ≤ Lib.indexByte [43, 45, 42, 47, 37, 60, 62, 33, 61, 40, 41, 123, 125, 91, 93, 44, 59] c.toNat.toUInt8) = signsL.contains c := by
  have key : ∀ n : Fin 256, decide (0 ≤ Lib.indexByte [43, 45, 42, 47, 37, 60, 62, 33, 61, 40, 41, 123, 125, 91, 93, 44, 59] n.val.toUInt8) = signsL.contains (n.val : Int) := by decide +kernel
  have := key ⟨c.toNat, by omega⟩
  simp only at this
  rw [show ((c.toNat : Nat) : Int) = c from by omega] at this
  exact this
/-- A text in a list: its place; -1: none. -/
def ixS (q : ByteArray → Bool) : List ByteArray → Int
  | [] => -1
  | a :: r => if q a then 0 else if ixS q r < 0 then -1 else ixS q r + 1
theorem ixS_at (q : ByteArray → Bool) : ∀ (xs : List ByteArray) (i : Nat) (x : ByteArray), xs[i]? = some x → q x = true → (∀ j y, j < i → xs[j]? = some y → q y = false) → ixS q xs = i := by
  intro xs
  induction xs with
  | nil => intro i x h; simp at h
  | cons e r ih =>
    intro i x h hx hn
    cases i with
    | zero => simp only [List.getElem?_cons_zero, Option.some.injEq] at h; subst h; simp [ixS, hx]
    | succ i =>
      have h0 := hn 0 e (by omega) rfl
      have := ih i x (by simpa using h) hx (fun j y hj hy => hn (j + 1) y (by omega) (by simpa using hy))
      rw [ixS, if_neg (by simp [h0]), this, if_neg (by omega)]
      omega
theorem ixS_none (q : ByteArray → Bool) : ∀ (xs : List ByteArray), (∀ (j : Nat) y, xs[j]? = some y → q y = false) → ixS q xs = -1 := by
  intro xs
  induction xs with
  | nil => intro _; rfl
  | cons e r ih =>
    intro hn
    have := ih (fun j y hy => hn (j + 1) y (by simpa using hy))
    rw [ixS, if_neg (by simp [hn 0 e rfl]), this]
    rfl
theorem ixS_any (q : ByteArray → Bool) : ∀ (xs : List ByteArray), decide (0 ≤ ixS q xs) = xs.any q := by
  intro xs
  induction xs with
  | nil => rfl
  | cons e r ih =>
    rw [List.any_cons, ← ih, ixS]
    cases h : q e
    · simp only [Bool.false_eq_true, if_false, Bool.false_or]
      split
      · rename_i h1; rw [decide_eq_false (by omega), decide_eq_false (by omega)]
      · rename_i h1; rw [decide_eq_true (by omega), decide_eq_true (by omega)]
    · simp
theorem B_words : wordsB.map B = wordsL := by kernel_rfl
theorem B_pairs : pairsB.map B = pairsL := by kernel_rfl
theorem words_any (x : ByteArray) : wordsB.any (fun y => x.toList == y.toList) = wordsL.contains (B x) := by
  simp only [str_eq]
  rw [← B_words, Bool.eq_iff_iff, List.any_eq_true, List.contains_iff_mem, List.mem_map]
  constructor
  · rintro ⟨y, hy, h⟩; exact ⟨y, hy, (of_decide_eq_true h).symm⟩
  · rintro ⟨y, hy, h⟩; exact ⟨y, hy, decide_eq_true h.symm⟩
theorem pref_eq (s p : ByteArray) : (decide (p.size ≤ s.size) && ((s.extract 0 p.size).toList == p.toList)) = (B p).isPrefixOf (B s) := by
  rw [str_eq, B_extract, List.drop_zero, Bool.eq_iff_iff, List.isPrefixOf_iff_prefix]
  simp only [Bool.and_eq_true, decide_eq_true_eq]
  rw [← B_len p, ← B_len s, List.prefix_iff_eq_take]
  constructor
  · rintro ⟨_, h⟩; exact h.symm
  · intro h; refine ⟨?_, h.symm⟩
    have := congrArg List.length h
    rw [List.length_take] at this
    omega
end Go.Proofs.YtfnbgbeinmekgaaGreatDoor.Tk
namespace Go.Proofs.YtfnbgbeinmekgaaGreatDoor
open Go Go.RowKit Fw
set_option linter.unusedVariables false
set_option maxRecDepth 20000
namespace Tk
end Tk
end Go.Proofs.YtfnbgbeinmekgaaGreatDoor
namespace Go.Proofs.YtfnbgbeinmekgaaGreatDoor
open Go Go.RowKit Fw
set_option linter.unusedVariables false
set_option maxRecDepth 20000
namespace Tk
/-- A row of texts that is read. -/
def Rd (w : World) (a : Option Addr) (ls : List ByteArray) : Prop := ls = [] ∨ ∃ b o, a = some ⟨b, o, none⟩ ∧ ∀ j s, ls[j]? = some s → w.cell? ⟨b, o + j, none⟩ = some (.string s)
theorem Rd.kp {w w' : World} {a : Option Addr} {ls : List ByteArray} (h : Rd w a ls) (k : Kp No w w') : Rd w' a ls := by
  rcases h with h | ⟨b, o, rfl, h⟩
  · exact .inl h
  · exact .inr ⟨b, o, rfl, fun j s hj => k.cell0 (h j s hj)⟩
theorem Rd.at {w : World} {a : Option Addr} {ls : List ByteArray} (h : Rd w a ls) {j : Nat} {s : ByteArray} (hj : ls[j]? = some s) : ∃ b o, a = some ⟨b, o, none⟩ ∧ w.cell? ⟨b, o + (j : Int).toNat * 1, none⟩ = some (.string s) := by
  rcases h with h | ⟨b, o, rfl, h⟩
  · subst h; simp at hj
  · exact ⟨b, o, rfl, by simpa using h j s hj⟩
theorem pairs_size : ∀ p ∈ pairsB, p.size ≤ 1000000 := by
  intro p hp
  obtain ⟨l, hl, rfl⟩ := List.mem_map.1 hp
  have : ∀ l ∈ pairsL, (strOf l).size ≤ 1000000 := by decide +kernel
  exact this l hl
/-- What the next token is, as a value. -/
def tokV (a : Nat) (t : Tok) : Value := .agg #[.int .i64 t.k, .int .i64 ((a + t.n : Nat) : Int), .int .i64 ((a + t.n + t.m : Nat) : Int)]
def nxV (s : ByteArray) (i : Nat) : Value := .tuple #[tokV i (nx ((B s).drop i)), .int .i64 (if (nx ((B s).drop i)).ok then 0 else 2)]
theorem nxV_of {s : ByteArray} {i j m : Nat} {ok : Bool} {k e p q : Int} (hj : j = i + sk false ((B s).drop i)) (hb : body ((B s).drop j) = (ok, k, m)) (he : e = if ok then 0 else 2) (hp : p = j) (hq : q = ((j + m : Nat) : Int)) :
    .tuple #[.agg #[.int .i64 k, .int .i64 p, .int .i64 q], .int .i64 e] = nxV s i := by
  subst hp hq he
  have h1 : nx ((B s).drop i) = ⟨ok, k, sk false ((B s).drop i), m⟩ := by
    rw [nx]; simp only [List.drop_drop]; rw [← hj, hb]
  rw [nxV, h1, tokV, hj]
end Tk
end Go.Proofs.YtfnbgbeinmekgaaGreatDoor
namespace Go.Proofs.YtfnbgbeinmekgaaGreatDoor
open Go Go.RowKit Fw
set_option linter.unusedVariables false
set_option maxRecDepth 20000
namespace Tk
end Tk
end Go.Proofs.YtfnbgbeinmekgaaGreatDoor
namespace Go.Proofs.YtfnbgbeinmekgaaGreatDoor
open Go Go.RowKit Fw
set_option linter.unusedVariables false
set_option maxRecDepth 20000
namespace Tk
/-- A token: kind, from, to. -/
abbrev T3 := Int × Int × Int
def tc (ts : List T3) : List Value := ts.flatMap fun t => [.int .i64 t.1, .int .i64 t.2.1, .int .i64 t.2.2]
theorem tc_get {ts : List T3} {i : Nat} {t : T3} (h : ts[i]? = some t) : (tc ts)[i * 3]? = some (.int .i64 t.1) ∧ (tc ts)[i * 3 + 1]? = some (.int .i64 t.2.1) ∧ (tc ts)[i * 3 + 2]? = some (.int .i64 t.2.2) :=
  ⟨flat_get (f := fun t : T3 => [.int .i64 t.1, .int .i64 t.2.1, .int .i64 t.2.2]) (sz := 3) (fun _ => rfl) ts i 0 t h (by omega), flat_get (f := fun t : T3 => [.int .i64 t.1, .int .i64 t.2.1, .int .i64 t.2.2]) (sz := 3) (fun _ => rfl) ts i 1 t h (by omega),
    flat_get (f := fun t : T3 => [.int .i64 t.1, .int .i64 t.2.1, .int .i64 t.2.2]) (sz := 3) (fun _ => rfl) ts i 2 t h (by omega)⟩
/-- All tokens from a place; or where there is none. -/
def als : Nat → Nat → List Int → List T3 × Option Int
  | 0, a, _ => ([], some a)
  | f + 1, a, L =>
    if (nx L).ok then
      if (nx L).k = 0 then ([(0, ((a + (nx L).n : Nat) : Int), ((a + (nx L).n + (nx L).m : Nat) : Int))], none)
      else match als f (a + (nx L).n + (nx L).m) (L.drop ((nx L).n + (nx L).m)) with
        | (l, e) => (((nx L).k, ((a + (nx L).n : Nat) : Int), ((a + (nx L).n + (nx L).m : Nat) : Int)) :: l, e)
    else ([], some ((a + (nx L).n : Nat) : Int))
/-- A text's tokens; a place; the error. -/
def allT (L : List Int) : List T3 × Int × Int :=
  if 20000 < L.length then ([], 0, 1) else match als (L.length + 1) 0 L with
    | (l, none) => (l, 0, 0)
    | (_, some p) => ([], p, 2)
theorem nx_pos {L : List Int} (h : (nx L).ok = true) (hk : (nx L).k ≠ 0) : 0 < (nx L).m := by
  by_cases h0 : L.drop (sk false L) = []
  · exact absurd (show (nx L).k = 0 by rw [nx, h0]; rfl) hk
  · exact (body_pos (L := L.drop (sk false L)) h h0).1
/-- What both do: one walk, for the program and for the document. -/
theorem als_len (f a : Nat) (L : List Int) : (als f a L).1.length ≤ L.length + 1 := by
  induction f generalizing a L with
  | zero => simp [als]
  | succ f ih =>
    rw [als]
    split
    · rename_i hok
      split
      · simp
      · rename_i hk
        have h1 := nx_pos hok hk
        have h2 := nx_le L
        have h3 := ih (a + (nx L).n + (nx L).m) (L.drop ((nx L).n + (nx L).m))
        rw [List.length_drop] at h3
        simp only [List.length_cons]
        omega
    · simp
end Tk
end Go.Proofs.YtfnbgbeinmekgaaGreatDoor
namespace Go.Proofs.YtfnbgbeinmekgaaGreatDoor
open Go Go.RowKit Fw
set_option linter.unusedVariables false
namespace Tk
/-- A row of tokens that is read. -/
def RdT (w : World) (a : Option Addr) (ts : List T3) : Prop := ts = [] ∨ ∃ b o, a = some ⟨b, o, none⟩ ∧ ∀ j u, (tc ts)[j]? = some u → w.cell? ⟨b, o + j, none⟩ = some u
theorem RdT.kp {S : Nat → Prop} {w w' : World} {a : Option Addr} {ts : List T3} (h : RdT w a ts) (k : Kp S w w') (hS : ∀ ad, a = some ad → ¬ S ad.block) : RdT w' a ts := by
  rcases h with h | ⟨b, o, rfl, h⟩
  · exact .inl h
  · exact .inr ⟨b, o, rfl, fun j s hj => k.cell (h j s hj) (show ¬ S b from hS ⟨b, o, none⟩ rfl)⟩
theorem RdT.kp0 {w w' : World} {a : Option Addr} {ts : List T3} (h : RdT w a ts) (k : Kp No w w') : RdT w' a ts := h.kp k fun _ _ => id
theorem RdT.at {w : World} {a : Option Addr} {ts : List T3} (h : RdT w a ts) {i : Nat} {t : T3} (ht : ts[i]? = some t) :
    ∃ b o, a = some ⟨b, o, none⟩ ∧ ∀ w', Kp No w w' → ∀ j, j < 3 → w'.cell? ⟨b, o + (i : Int).toNat * 3 + j, none⟩ = [Value.int .i64 t.1, .int .i64 t.2.1, .int .i64 t.2.2][j]? := by
  rcases h with h | ⟨b, o, rfl, h⟩
  · subst h; simp at ht
  · obtain ⟨h1, h2, h3⟩ := tc_get ht
    refine ⟨b, o, rfl, fun w' k j hj => ?_⟩
    have e : o + (i : Int).toNat * 3 + j = o + (i * 3 + j) := by simp; omega
    rw [e]
    match j, hj with
    | 0, _ => exact k.cell0 (h _ _ h1)
    | 1, _ => exact k.cell0 (h _ _ h2)
    | 2, _ => exact k.cell0 (h _ _ h3)
theorem RdT.of {w : World} {base c : Nat} {T : TypeId} {a : Option Addr} {ts : List T3} (h : w.ownsRow base T 3 (.slice a ts.length c) ts.length (tc ts)) : RdT w a ts := by
  obtain ⟨a', c', e, hc, ha, hr⟩ := own_read h
  simp only [Value.slice.injEq, true_and] at e
  obtain ⟨rfl, rfl⟩ := e
  cases a with
  | none => exact .inl (List.length_eq_zero_iff.1 (ha rfl))
  | some ad =>
    obtain ⟨g, rfl, _, _, hcell⟩ := hr _ rfl
    exact .inr ⟨g, 0, rfl, hcell⟩
end Tk
end Go.Proofs.YtfnbgbeinmekgaaGreatDoor
namespace Go.Proofs.YtfnbgbeinmekgaaGreatDoor.Sy
open Go
set_option linter.unusedVariables false
/-- An expression: kind, from, end, number, name, sign, A, B, list. -/
structure Ex where
  k : Int
  f : Int := 0
  e : Int := 0
  n : Int := 0
  nm : List Int := []
  op : List Int := []
  a : Int := 0
  b : Int := 0
  l : List Int := []
deriving DecidableEq
/-- A statement: kind, from, end, name, number, A, B, then, else. -/
structure St where
  k : Int
  f : Int := 0
  e : Int := 0
  nm : List Int := []
  n : Int := 0
  a : Int := 0
  b : Int := 0
  th : List Int := []
  el : List Int := []
deriving DecidableEq
/-- A function: name, from, end, parameters, type, body. -/
structure Fn where
  nm : List Int
  f : Int := 0
  e : Int := 0
  ps : List (List Int) := []
  ty : Int := 4
  bd : List Int := []
deriving DecidableEq
/-- Tokens and their bytes. -/
structure Env where
  T : List Tk.T3
  W : List (List Int)
/-- How many tokens were taken; what was put. -/
structure PS where
  i : Nat
  ex : List Ex
  st : List St
  fn : List Fn
inductive Rs (α : Type) where
  | ok (x : α) (s : PS)
  | er (c p : Int)
  | out
def Rs.bind {α β : Type} (r : Rs α) (g : α → PS → Rs β) : Rs β :=
  match r with
  | .ok x s => g x s
  | .er c p => .er c p
  | .out => .out
theorem bind_ok {α β : Type} (x : α) (s : PS) (g : α → PS → Rs β) : (Rs.ok x s).bind g = g x s := rfl
theorem bind_er {α β : Type} (c p : Int) (g : α → PS → Rs β) : (Rs.er c p).bind g = .er c p := rfl
theorem bind_inv {α β : Type} {r : Rs α} {g : α → PS → Rs β} {x : β} {s : PS} (h : r.bind g = .ok x s) : ∃ y t, r = .ok y t ∧ g y t = .ok x s := by
  cases r with
  | ok y t => exact ⟨y, t, rfl, h⟩
  | er c p => cases h
  | out => cases h
section
variable (E : Env)
def kd (s : PS) : Int := match E.T[s.i]? with | some t => t.1 | none => 0
def hr (s : PS) : Int := match E.T[s.i]? with | some t => t.2.1 | none => 0
def wd (s : PS) : List Int := E.W[s.i]?.getD []
/-- Where the last token that was taken ends. -/
def pe (s : PS) : Int := match E.T[s.i - 1]? with | some t => t.2.2 | none => 0
def adv (s : PS) : PS := { s with i := s.i + 1 }
def er {α : Type} (c : Int) (s : PS) : Rs α := .er c (hr E s)
def want (w : List Int) (s : PS) : Rs Unit := if wd E s = w then .ok () (adv s) else er E 3 s
def knd (k : Int) (s : PS) : Rs (List Int) := if kd E s = k then .ok (wd E s) (adv s) else er E 3 s
def deep (d : Int) (s : PS) : Rs Unit := if 64 < d then er E 4 s else .ok () s
def num (w : List Int) : Int := w.foldl (fun n c => n * 10 + (c - 48)) 0
def put (fr : Int) (x : Ex) (s : PS) : Rs Int := .ok s.ex.length { s with ex := s.ex ++ [{ x with f := fr, e := pe E s }] }
def add (fr : Int) (x : St) (s : PS) : Rs Int := if 1000 ≤ s.st.length then er E 5 s else .ok s.st.length { s with st := s.st ++ [{ x with f := fr, e := pe E s }] }
end
def wLpar : List Int := [40]
def wRpar : List Int := [41]
def wLbra : List Int := [91]
def wRbra : List Int := [93]
def wLcur : List Int := [123]
def wRcur : List Int := [125]
def wSemi : List Int := [59]
def wComma : List Int := [44]
def wEq : List Int := [61]
def wMinus : List Int := [45]
def wNot : List Int := [33]
def wTrue : List Int := [116, 114, 117, 101]
def wFalse : List Int := [102, 97, 108, 115, 101]
def wRead : List Int := [114, 101, 97, 100]
def wVar : List Int := [118, 97, 114]
def wIf : List Int := [105, 102]
def wElse : List Int := [101, 108, 115, 101]
def wWhile : List Int := [119, 104, 105, 108, 101]
def wBreak : List Int := [98, 114, 101, 97, 107]
def wCont : List Int := [99, 111, 110, 116, 105, 110, 117, 101]
def wReturn : List Int := [114, 101, 116, 117, 114, 110]
def wPrint : List Int := [112, 114, 105, 110, 116]
def wFunc : List Int := [102, 117, 110, 99]
def wInt : List Int := [105, 110, 116]
/-- The signs of a level. -/
def sgs : Nat → List (List Int)
  | 0 => [[124, 124]]
  | 1 => [[38, 38]]
  | 2 => [[61, 61], [33, 61], [60], [60, 61], [62], [62, 61]]
  | 3 => [[43], [45]]
  | _ => [[42], [47], [37]]
/-- The parts that call each other, at a fuel. -/
structure Lv where
  row : Nat → Int → PS → Rs Int
  rows : Nat → Int → Int → Int → PS → Rs Int
  expr : Int → PS → Rs Int
  unary : Int → PS → Rs Int
  prim : Int → PS → Rs Int
  args : Int → List Int → Int → List Int → PS → Rs Int
  stmts : Int → List Int → PS → Rs (List Int)
  stmt : Int → PS → Rs Int
  branch : Int → Int → PS → Rs Int
def lv0 : Lv := ⟨fun _ _ _ => .out, fun _ _ _ _ _ => .out, fun _ _ => .out, fun _ _ => .out, fun _ _ => .out, fun _ _ _ _ _ => .out, fun _ _ _ => .out, fun _ _ => .out, fun _ _ _ => .out⟩
section
variable (E : Env) (L : Lv)
def call (fr : Int) (nm : List Int) (d : Int) (s : PS) : Rs Int := (want E wLpar s).bind fun _ s1 => L.args fr nm d [] s1
def block (d : Int) (s : PS) : Rs (List Int) := (if wd E s = wLcur then deep E d s else .ok () s).bind fun _ s1 => (want E wLcur s1).bind fun _ s2 => L.stmts d [] s2
def sRow (v : Nat) (d : Int) (s : PS) : Rs Int := if v = 5 then L.unary d s else (L.row (v + 1) d s).bind fun a s1 => L.rows v d (hr E s) a s1
def sRows (v : Nat) (d fr a : Int) (s : PS) : Rs Int :=
  if wd E s ∈ sgs v then (L.row (v + 1) d (adv s)).bind fun b s1 => (put E fr { k := 9, op := wd E s, a := a, b := b } s1).bind fun c s2 => if v = 2 then .ok c s2 else L.rows v d fr c s2
  else .ok a s
def sExpr (d : Int) (s : PS) : Rs Int := (deep E d s).bind fun _ s1 => L.row 0 d s1
def sUnary (d : Int) (s : PS) : Rs Int :=
  if wd E s = wMinus ∨ wd E s = wNot then (deep E (d + 1) (adv s)).bind fun _ s1 => (L.unary (d + 1) s1).bind fun a s2 => put E (hr E s) { k := 8, op := wd E s, a := a } s2
  else L.prim d s
def sPrim (d : Int) (s : PS) : Rs Int :=
  if kd E s = 2 then put E (hr E s) { k := 1, n := num (wd E s) } (adv s)
  else if wd E s = wTrue then put E (hr E s) { k := 2 } (adv s)
  else if wd E s = wFalse then put E (hr E s) { k := 3 } (adv s)
  else if wd E s = wRead then put E (hr E s) { k := 7 } (adv s)
  else if wd E s = wLpar then (L.expr (d + 1) (adv s)).bind fun a s1 => (want E wRpar s1).bind fun _ s2 => .ok a s2
  else (knd E 1 s).bind fun nm s1 =>
    if wd E s1 = wLbra then (L.expr (d + 1) (adv s1)).bind fun a s2 => (want E wRbra s2).bind fun _ s3 => put E (hr E s) { k := 5, nm := nm, a := a } s3
    else if wd E s1 = wLpar then call E L (hr E s) nm d s1
    else put E (hr E s) { k := 4, nm := nm } s1
def sArgs (fr : Int) (nm : List Int) (d : Int) (l : List Int) (s : PS) : Rs Int :=
  if wd E s = wRpar then put E fr { k := 6, nm := nm, l := l } (adv s)
  else (if l = [] then .ok () s else want E wComma s).bind fun _ s1 => (L.expr (d + 1) s1).bind fun a s2 => if wd E s2 = wComma ∨ wd E s2 = wRpar then L.args fr nm d (l ++ [a]) s2 else er E 3 s2
def sStmts (d : Int) (l : List Int) (s : PS) : Rs (List Int) :=
  if wd E s = wRcur then .ok l (adv s) else (L.stmt d s).bind fun x s1 => L.stmts d (l ++ [x]) s1
/-- What stands behind "var". -/
def sDecl (d : Int) (s : PS) : Rs St := (knd E 1 s).bind fun nm s1 =>
    if wd E s1 = wLbra then (knd E 2 (adv s1)).bind fun w s2 => (want E wRbra s2).bind fun _ s3 => .ok { k := 2, nm := nm, n := num w } s3
    else (want E wEq s1).bind fun _ s2 => (L.expr d s2).bind fun a s3 => .ok { k := 1, nm := nm, a := a } s3
/-- A statement that begins with a name. -/
def sNamed (d : Int) (s : PS) : Rs St := (knd E 1 s).bind fun nm s1 =>
    if wd E s1 = wLpar then (call E L (hr E s) nm d s1).bind fun a s2 => .ok { k := 11, a := a } s2
    else if wd E s1 = wLbra then (L.expr (d + 1) (adv s1)).bind fun a s2 => (want E wRbra s2).bind fun _ s3 => (want E wEq s3).bind fun _ s4 => (L.expr d s4).bind fun b s5 => .ok { k := 4, nm := nm, a := a, b := b } s5
    else (want E wEq s1).bind fun _ s2 => (L.expr d s2).bind fun a s3 => .ok { k := 3, nm := nm, a := a } s3
/-- What ends a statement: its sign. -/
def endS (fr : Int) (x : St) (s : PS) : Rs Int := (want E wSemi s).bind fun _ s1 => add E fr x s1
def sStmt (d : Int) (s : PS) : Rs Int :=
  if wd E s = wVar then (sDecl E L d (adv s)).bind fun x s1 => endS E (hr E s) x s1
  else if wd E s = wIf then L.branch (hr E s) d (adv s)
  else if wd E s = wWhile then (L.expr d (adv s)).bind fun a s1 => (block E L (d + 1) s1).bind fun th s2 => add E (hr E s) { k := 6, a := a, th := th } s2
  else if wd E s = wBreak then endS E (hr E s) { k := 7 } (adv s)
  else if wd E s = wCont then endS E (hr E s) { k := 8 } (adv s)
  else if wd E s = wReturn then
    if wd E (adv s) = wSemi then endS E (hr E s) { k := 9, a := -1 } (adv s)
    else (L.expr d (adv s)).bind fun a s1 => endS E (hr E s) { k := 9, a := a } s1
  else if wd E s = wPrint then (L.expr d (adv s)).bind fun a s1 => endS E (hr E s) { k := 10, a := a } s1
  else (sNamed E L d s).bind fun x s1 => endS E (hr E s) x s1
def sBranch (fr d : Int) (s : PS) : Rs Int :=
  (L.expr d s).bind fun a s1 => (block E L (d + 1) s1).bind fun th s2 =>
    if wd E s2 = wElse then
      if wd E (adv s2) = wIf then (deep E (d + 1) (adv s2)).bind fun _ s3 => (L.branch (hr E (adv s2)) (d + 1) (adv s3)).bind fun x s4 => add E fr { k := 5, a := a, th := th, el := [x] } s4
      else (block E L (d + 1) (adv s2)).bind fun el s3 => add E fr { k := 5, a := a, th := th, el := el } s3
    else add E fr { k := 5, a := a, th := th } s2
def stepL : Lv := ⟨sRow E L, sRows E L, sExpr E L, sUnary E L, sPrim E L, sArgs E L, sStmts E L, sStmt E L, sBranch E L⟩
end
def lv (E : Env) : Nat → Lv
  | 0 => lv0
  | n + 1 => stepL E (lv E n)
/-- A function's parameters. -/
def prms (E : Env) : Nat → List (List Int) → PS → Rs (List (List Int))
  | 0, _, _ => .out
  | n + 1, l, s => if wd E s = wRpar then .ok l (adv s)
    else (if l = [] then .ok () s else want E wComma s).bind fun _ s1 => (knd E 1 s1).bind fun w s2 => if wd E s2 = wComma ∨ wd E s2 = wRpar then prms E n (l ++ [w]) s2 else er E 3 s2
def fct (E : Env) (n : Nat) (s : PS) : Rs Unit :=
  (if wd E s = wFunc ∧ 32 ≤ s.fn.length then er E 5 s else .ok () s).bind fun _ s0 => (want E wFunc s0).bind fun _ s1 => (knd E 1 s1).bind fun nm s2 => (want E wLpar s2).bind fun _ s3 => (prms E n [] s3).bind fun ps s4 =>
    (if wd E s4 = wInt then Rs.ok (1 : Int) (adv s4) else .ok 4 s4).bind fun ty s5 => (block E (lv E n) 1 s5).bind fun bd s6 =>
      .ok () { s6 with fn := s6.fn ++ [{ nm := nm, f := hr E s, e := pe E s6, ps := ps, ty := ty, bd := bd }] }
/-- Function by function, up to the end. -/
def fcts (E : Env) (m : Nat) : Nat → PS → Rs Unit
  | 0, _ => .out
  | n + 1, s => if s.fn ≠ [] ∧ kd E s = 0 then .ok () s else (fct E m s).bind fun _ s1 => fcts E m n s1
/-- A text's tokens and their bytes. -/
def envOf (L : List Int) : Env := ⟨(Tk.allT L).1, (Tk.allT L).1.map fun t => (L.take t.2.2.toNat).drop t.2.1.toNat⟩
/-- Enough fuel for a text. -/
def fuel (L : List Int) : Nat := 20 * (L.length + 100)
/-- What a text is parsed as: a program; or a place and an error. -/
def prs (L : List Int) : Rs Unit :=
  if (Tk.allT L).2.2 ≠ 0 then .er (Tk.allT L).2.2 (Tk.allT L).2.1 else fcts (envOf L) (fuel L) (fuel L) ⟨0, [], [], []⟩
end Go.Proofs.YtfnbgbeinmekgaaGreatDoor.Sy
namespace Go.Proofs.YtfnbgbeinmekgaaGreatDoor.Sy
open Go
set_option linter.unusedVariables false
/-- From one state to another: j tokens are taken at least; the expressions that are put, and k more, are no more than these; so are the statements, and q more. -/
def Up (j k q : Nat) (s t : PS) : Prop := s.i + j ≤ t.i ∧ t.ex.length + s.i + k ≤ s.ex.length + t.i ∧ t.fn = s.fn ∧ s.st.length ≤ t.st.length ∧ t.st.length + s.i + q ≤ s.st.length + t.i
theorem Up.refl (s : PS) : Up 0 0 0 s s := ⟨Nat.le_refl _, Nat.le_refl _, rfl, Nat.le_refl _, Nat.le_refl _⟩
theorem Up.trans {j k q j' k' q' : Nat} {s t u : PS} (h : Up j k q s t) (g : Up j' k' q' t u) : Up (j + j') (k + k') (q + q') s u := by
  obtain ⟨h1, h2, h3, h4, h5⟩ := h
  obtain ⟨g1, g2, g3, g4, g5⟩ := g
  exact ⟨by omega, by omega, g3.trans h3, by omega, by omega⟩
theorem Up.le {j k q j' k' q' : Nat} {s t : PS} (h : Up j k q s t) (hj : j' ≤ j) (hk : k' ≤ k) (hq : q' ≤ q) : Up j' k' q' s t := ⟨by have := h.1; omega, by have := h.2.1; omega, h.2.2.1, h.2.2.2.1, by have := h.2.2.2.2; omega⟩
section
variable {E : Env}
theorem adv_up (s : PS) : Up 1 1 1 s (adv s) := ⟨Nat.le_refl _, by show s.ex.length + s.i + 1 ≤ s.ex.length + (s.i + 1); omega, rfl, Nat.le_refl _, by show s.st.length + s.i + 1 ≤ s.st.length + (s.i + 1); omega⟩
theorem want_up {w : List Int} {s t : PS} {x : Unit} (h : want E w s = .ok x t) : Up 1 1 1 s t := by
  unfold want at h
  split at h
  · cases h; exact adv_up s
  · cases h
theorem knd_up {k : Int} {s t : PS} {x : List Int} (h : knd E k s = .ok x t) : Up 1 1 1 s t := by
  unfold knd at h
  split at h
  · cases h; exact adv_up s
  · cases h
theorem deep_up {d : Int} {s t : PS} {x : Unit} (h : deep E d s = .ok x t) : t = s := by
  unfold deep at h
  split at h
  · cases h
  · cases h; rfl
theorem put_up {fr : Int} {x : Ex} {s s1 t : PS} {a : Int} {j k q : Nat} (h : put E fr x s1 = .ok a t) (u : Up j (k + 1) q s s1) : Up j k q s t := by
  unfold put at h
  cases h
  obtain ⟨u1, u2, u3, u4, u5⟩ := u
  exact ⟨u1, by simp only [List.length_append, List.length_singleton]; omega, u3, u4, u5⟩
theorem add_up {fr : Int} {x : St} {s s1 t : PS} {a : Int} {j k q : Nat} (h : add E fr x s1 = .ok a t) (u : Up j k (q + 1) s s1) : Up j k q s t := by
  unfold add at h
  split at h
  · cases h
  · cases h
    obtain ⟨u1, u2, u3, u4, u5⟩ := u
    exact ⟨u1, u2, u3, by simp only [List.length_append, List.length_singleton]; omega, by simp only [List.length_append, List.length_singleton]; omega⟩
end
structure Bd (L : Lv) : Prop where
  row : ∀ v d s a t, L.row v d s = .ok a t → Up 1 0 0 s t
  rows : ∀ v d fr a s b t, L.rows v d fr a s = .ok b t → Up 0 0 0 s t
  expr : ∀ d s a t, L.expr d s = .ok a t → Up 1 0 0 s t
  unary : ∀ d s a t, L.unary d s = .ok a t → Up 1 0 0 s t
  prim : ∀ d s a t, L.prim d s = .ok a t → Up 1 0 0 s t
  args : ∀ fr nm d l s a t, L.args fr nm d l s = .ok a t → Up 1 0 0 s t
  stmts : ∀ d l s a t, L.stmts d l s = .ok a t → Up 1 0 0 s t
  stmt : ∀ d s a t, L.stmt d s = .ok a t → Up 1 0 0 s t
  branch : ∀ fr d s a t, L.branch fr d s = .ok a t → Up 1 0 0 s t
section
variable {E : Env} {L : Lv}
theorem call_up (hB : Bd L) {fr : Int} {nm : List Int} {d : Int} {s t : PS} {a : Int} (h : call E L fr nm d s = .ok a t) : Up 1 0 0 s t := by
  obtain ⟨_, s1, h1, h2⟩ := bind_inv h
  exact ((want_up h1).trans (hB.args _ _ _ _ _ _ _ h2)).le (by omega) (by omega) (by omega)
theorem block_up (hB : Bd L) {d : Int} {s t : PS} {a : List Int} (h : block E L d s = .ok a t) : Up 2 1 1 s t := by
  obtain ⟨_, s1, h1, h2⟩ := bind_inv h
  have e : s1 = s := by
    split at h1
    · exact deep_up h1
    · cases h1; rfl
  subst e
  obtain ⟨_, s2, h3, h4⟩ := bind_inv h2
  exact ((want_up h3).trans (hB.stmts _ _ _ _ _ h4)).le (by omega) (by omega) (by omega)
theorem endS_up {fr : Int} {x : St} {s t : PS} {a : Int} (h : endS E fr x s = .ok a t) : Up 1 1 0 s t := by
  obtain ⟨_, s1, h1, h2⟩ := bind_inv h
  exact add_up h2 (want_up h1)
theorem sDecl_up (hB : Bd L) {d : Int} {s t : PS} {a : St} (h : sDecl E L d s = .ok a t) : Up 1 0 0 s t := by
  obtain ⟨_, s1, h1, h2⟩ := bind_inv h
  split at h2
  · obtain ⟨_, s2, h3, h4⟩ := bind_inv h2
    obtain ⟨_, s3, h5, h6⟩ := bind_inv h4
    cases h6
    exact ((((knd_up h1).trans (adv_up s1)).trans (knd_up h3)).trans (want_up h5)).le (by omega) (by omega) (by omega)
  · obtain ⟨_, s2, h3, h4⟩ := bind_inv h2
    obtain ⟨_, s3, h5, h6⟩ := bind_inv h4
    cases h6
    exact (((knd_up h1).trans (want_up h3)).trans (hB.expr _ _ _ _ h5)).le (by omega) (by omega) (by omega)
theorem sNamed_up (hB : Bd L) {d : Int} {s t : PS} {a : St} (h : sNamed E L d s = .ok a t) : Up 1 0 0 s t := by
  obtain ⟨_, s1, h1, h2⟩ := bind_inv h
  split at h2
  · obtain ⟨_, s2, h3, h4⟩ := bind_inv h2
    cases h4
    exact ((knd_up h1).trans (call_up hB h3)).le (by omega) (by omega) (by omega)
  split at h2
  · obtain ⟨_, s2, h3, h4⟩ := bind_inv h2
    obtain ⟨_, s3, h5, h6⟩ := bind_inv h4
    obtain ⟨_, s4, h7, h8⟩ := bind_inv h6
    obtain ⟨_, s5, h9, h10⟩ := bind_inv h8
    cases h10
    exact ((((((knd_up h1).trans (adv_up s1)).trans (hB.expr _ _ _ _ h3)).trans (want_up h5)).trans (want_up h7)).trans (hB.expr _ _ _ _ h9)).le (by omega) (by omega) (by omega)
  · obtain ⟨_, s2, h3, h4⟩ := bind_inv h2
    obtain ⟨_, s3, h5, h6⟩ := bind_inv h4
    cases h6
    exact (((knd_up h1).trans (want_up h3)).trans (hB.expr _ _ _ _ h5)).le (by omega) (by omega) (by omega)
end
section
variable {E : Env} {L : Lv}
theorem bd_step (hB : Bd L) : Bd (stepL E L) := by
  constructor
  · intro v d s a t h
    have h : sRow E L v d s = .ok a t := h
    unfold sRow at h
    split at h
    · exact hB.unary _ _ _ _ h
    · obtain ⟨_, s1, h1, h2⟩ := bind_inv h
      exact ((hB.row _ _ _ _ _ h1).trans (hB.rows _ _ _ _ _ _ _ h2)).le (by omega) (by omega) (by omega)
  · intro v d fr a s b t h
    have h : sRows E L v d fr a s = .ok b t := h
    unfold sRows at h
    split at h
    · obtain ⟨_, s1, h1, h2⟩ := bind_inv h
      obtain ⟨_, s2, h3, h4⟩ := bind_inv h2
      have u := put_up (j := 2) (k := 0) h3 ((adv_up s).trans (hB.row _ _ _ _ _ h1))
      split at h4
      · cases h4; exact u.le (by omega) (by omega) (by omega)
      · exact (u.trans (hB.rows _ _ _ _ _ _ _ h4)).le (by omega) (by omega) (by omega)
    · cases h; exact Up.refl _
  · intro d s a t h
    obtain ⟨_, s1, h1, h2⟩ := bind_inv (show sExpr E L d s = .ok a t from h)
    have e := deep_up h1
    subst e
    exact hB.row _ _ _ _ _ h2
  · intro d s a t h
    have h : sUnary E L d s = .ok a t := h
    unfold sUnary at h
    split at h
    · obtain ⟨_, s1, h1, h2⟩ := bind_inv h
      have e := deep_up h1
      subst e
      obtain ⟨_, s2, h3, h4⟩ := bind_inv h2
      exact (put_up (j := 2) (k := 0) h4 ((adv_up s).trans (hB.unary _ _ _ _ h3))).le (by omega) (by omega) (by omega)
    · exact hB.prim _ _ _ _ h
  · intro d s a t h
    have h : sPrim E L d s = .ok a t := h
    unfold sPrim at h
    split at h
    · exact put_up h ((adv_up s).le (by omega) (by omega) (by omega))
    split at h
    · exact put_up h ((adv_up s).le (by omega) (by omega) (by omega))
    split at h
    · exact put_up h ((adv_up s).le (by omega) (by omega) (by omega))
    split at h
    · exact put_up h ((adv_up s).le (by omega) (by omega) (by omega))
    split at h
    · obtain ⟨_, s1, h1, h2⟩ := bind_inv h
      obtain ⟨_, s2, h3, h4⟩ := bind_inv h2
      cases h4
      exact (((adv_up s).trans (hB.expr _ _ _ _ h1)).trans (want_up h3)).le (by omega) (by omega) (by omega)
    · obtain ⟨_, s1, h1, h2⟩ := bind_inv h
      split at h2
      · obtain ⟨_, s2, h3, h4⟩ := bind_inv h2
        obtain ⟨_, s3, h5, h6⟩ := bind_inv h4
        exact put_up h6 (((((knd_up h1).trans (adv_up s1)).trans (hB.expr _ _ _ _ h3)).trans (want_up h5)).le (by omega) (by omega) (by omega))
      split at h2
      · exact ((knd_up h1).trans (call_up hB h2)).le (by omega) (by omega) (by omega)
      · exact put_up h2 ((knd_up h1).le (by omega) (by omega) (by omega))
  · intro fr nm d l s a t h
    have h : sArgs E L fr nm d l s = .ok a t := h
    unfold sArgs at h
    split at h
    · exact put_up h ((adv_up s).le (by omega) (by omega) (by omega))
    · obtain ⟨_, s1, h1, h2⟩ := bind_inv h
      have u : Up 0 0 0 s s1 := by
        split at h1
        · cases h1; exact Up.refl _
        · exact (want_up h1).le (by omega) (by omega) (by omega)
      obtain ⟨_, s2, h3, h4⟩ := bind_inv h2
      split at h4
      · exact ((u.trans (hB.expr _ _ _ _ h3)).trans (hB.args _ _ _ _ _ _ _ h4)).le (by omega) (by omega) (by omega)
      · cases h4
  · intro d l s a t h
    have h : sStmts E L d l s = .ok a t := h
    unfold sStmts at h
    split at h
    · cases h; exact (adv_up s).le (by omega) (by omega) (by omega)
    · obtain ⟨_, s1, h1, h2⟩ := bind_inv h
      exact ((hB.stmt _ _ _ _ h1).trans (hB.stmts _ _ _ _ _ h2)).le (by omega) (by omega) (by omega)
  · intro d s a t h
    have h : sStmt E L d s = .ok a t := h
    unfold sStmt at h
    split at h
    · obtain ⟨_, s1, h1, h2⟩ := bind_inv h
      exact (((adv_up s).trans (sDecl_up hB h1)).trans (endS_up h2)).le (by omega) (by omega) (by omega)
    split at h
    · exact ((adv_up s).trans (hB.branch _ _ _ _ _ h)).le (by omega) (by omega) (by omega)
    split at h
    · obtain ⟨_, s1, h1, h2⟩ := bind_inv h
      obtain ⟨_, s2, h3, h4⟩ := bind_inv h2
      exact add_up h4 ((((adv_up s).trans (hB.expr _ _ _ _ h1)).trans (block_up hB h3)).le (by omega) (by omega) (by omega))
    split at h
    · exact ((adv_up s).trans (endS_up h)).le (by omega) (by omega) (by omega)
    split at h
    · exact ((adv_up s).trans (endS_up h)).le (by omega) (by omega) (by omega)
    split at h
    · split at h
      · exact ((adv_up s).trans (endS_up h)).le (by omega) (by omega) (by omega)
      · obtain ⟨_, s1, h1, h2⟩ := bind_inv h
        exact (((adv_up s).trans (hB.expr _ _ _ _ h1)).trans (endS_up h2)).le (by omega) (by omega) (by omega)
    split at h
    · obtain ⟨_, s1, h1, h2⟩ := bind_inv h
      exact (((adv_up s).trans (hB.expr _ _ _ _ h1)).trans (endS_up h2)).le (by omega) (by omega) (by omega)
    · obtain ⟨_, s1, h1, h2⟩ := bind_inv h
      exact ((sNamed_up hB h1).trans (endS_up h2)).le (by omega) (by omega) (by omega)
  · intro fr d s a t h
    obtain ⟨_, s1, h1, h2⟩ := bind_inv (show sBranch E L fr d s = .ok a t from h)
    obtain ⟨_, s2, h3, h4⟩ := bind_inv h2
    have u := (hB.expr _ _ _ _ h1).trans (block_up hB h3)
    split at h4
    · split at h4
      · obtain ⟨_, s3, h5, h6⟩ := bind_inv h4
        have e := deep_up h5
        subst e
        obtain ⟨_, s4, h7, h8⟩ := bind_inv h6
        exact add_up h8 ((((u.trans (adv_up s2)).trans (adv_up _)).trans (hB.branch _ _ _ _ _ h7)).le (by omega) (by omega) (by omega))
      · obtain ⟨_, s3, h5, h6⟩ := bind_inv h4
        exact add_up h6 (((u.trans (adv_up s2)).trans (block_up hB h5)).le (by omega) (by omega) (by omega))
    · exact add_up h4 (u.le (by omega) (by omega) (by omega))
theorem bd_lv : ∀ n, Bd (lv E n)
  | 0 => ⟨fun _ _ _ _ _ h => (by cases h), fun _ _ _ _ _ _ _ h => (by cases h), fun _ _ _ _ h => (by cases h), fun _ _ _ _ h => (by cases h), fun _ _ _ _ h => (by cases h), fun _ _ _ _ _ _ _ h => (by cases h), fun _ _ _ _ _ h => (by cases h), fun _ _ _ _ h => (by cases h), fun _ _ _ _ _ h => (by cases h)⟩
  | n + 1 => bd_step (bd_lv n)
end
end Go.Proofs.YtfnbgbeinmekgaaGreatDoor.Sy
namespace Go.Proofs.YtfnbgbeinmekgaaGreatDoor.Sy
open Go
set_option linter.unusedVariables false
theorem bind_out_ne {α β : Type} {r : Rs α} {g : α → PS → Rs β} (h : r ≠ .out) (k : ∀ x t, r = .ok x t → g x t ≠ .out) : r.bind g ≠ .out := by
  cases r with
  | ok x t => exact k x t rfl
  | er c p => exact fun e => by cases e
  | out => exact (h rfl).elim
section
variable {E : Env} {N : Nat}
theorem wd_lt (hW : E.W.length = N) {s : PS} (h : wd E s ≠ []) : s.i < N := by
  rcases Nat.lt_or_ge s.i N with h1 | h1
  · exact h1
  · exact (h (by simp [wd, List.getElem?_eq_none (show E.W.length ≤ s.i by omega)])).elim
theorem kd_lt (hT : E.T.length = N) {s : PS} (h : kd E s ≠ 0) : s.i < N := by
  rcases Nat.lt_or_ge s.i N with h1 | h1
  · exact h1
  · exact (h (by simp [kd, List.getElem?_eq_none (show E.T.length ≤ s.i by omega)])).elim
theorem want_lt (hW : E.W.length = N) {w : List Int} (hw : w ≠ []) {s t : PS} {x : Unit} (h : want E w s = .ok x t) : s.i < N := by
  unfold want at h
  split at h
  · rename_i e; exact wd_lt hW (by rw [e]; exact hw)
  · cases h
theorem knd_lt (hT : E.T.length = N) {k : Int} (hk : k ≠ 0) {s t : PS} {x : List Int} (h : knd E k s = .ok x t) : s.i < N := by
  unfold knd at h
  split at h
  · rename_i e; exact kd_lt hT (by rw [e]; exact hk)
  · cases h
theorem want_no {w : List Int} {s : PS} : want E w s ≠ .out := by
  unfold want; split <;> exact fun e => by cases e
theorem knd_no {k : Int} {s : PS} : knd E k s ≠ .out := by
  unfold knd; split <;> exact fun e => by cases e
theorem deep_no {d : Int} {s : PS} : deep E d s ≠ .out := by
  unfold deep; split <;> exact fun e => by cases e
theorem put_no {fr : Int} {x : Ex} {s : PS} : put E fr x s ≠ .out := fun e => by cases e
theorem add_no {fr : Int} {x : St} {s : PS} : add E fr x s ≠ .out := by
  unfold add; split <;> exact fun e => by cases e
theorem endS_no {fr : Int} {x : St} {s : PS} : endS E fr x s ≠ .out := bind_out_ne want_no fun _ _ _ => add_no
end
/-- What is parsed begins with a token. -/
structure Fst (N : Nat) (L : Lv) : Prop where
  row : ∀ v d s a t, L.row v d s = .ok a t → s.i < N
  expr : ∀ d s a t, L.expr d s = .ok a t → s.i < N
  unary : ∀ d s a t, L.unary d s = .ok a t → s.i < N
  prim : ∀ d s a t, L.prim d s = .ok a t → s.i < N
  stmts : ∀ d l s a t, L.stmts d l s = .ok a t → s.i < N
  stmt : ∀ d s a t, L.stmt d s = .ok a t → s.i < N
  branch : ∀ fr d s a t, L.branch fr d s = .ok a t → s.i < N
section
variable {E : Env} {N : Nat} {L : Lv}
theorem sNamed_lt (hT : E.T.length = N) {d : Int} {s t : PS} {a : St} (h : sNamed E L d s = .ok a t) : s.i < N := by
  obtain ⟨_, s1, h1, h2⟩ := bind_inv h
  exact knd_lt hT (by decide) h1
theorem fst_step (hW : E.W.length = N) (hT : E.T.length = N) (hB : Fst N L) : Fst N (stepL E L) := by
  constructor
  · intro v d s a t h
    have h : sRow E L v d s = .ok a t := h
    unfold sRow at h
    split at h
    · exact hB.unary _ _ _ _ h
    · obtain ⟨_, s1, h1, h2⟩ := bind_inv h
      exact hB.row _ _ _ _ _ h1
  · intro d s a t h
    obtain ⟨_, s1, h1, h2⟩ := bind_inv (show sExpr E L d s = .ok a t from h)
    have e := deep_up h1
    subst e
    exact hB.row _ _ _ _ _ h2
  · intro d s a t h
    have h : sUnary E L d s = .ok a t := h
    unfold sUnary at h
    split at h
    · rename_i q
      exact wd_lt hW (by rcases q with q | q <;> (rw [q]; decide))
    · exact hB.prim _ _ _ _ h
  · intro d s a t h
    have h : sPrim E L d s = .ok a t := h
    unfold sPrim at h
    split at h
    · rename_i q; exact kd_lt hT (by rw [q]; decide)
    split at h
    · rename_i q; exact wd_lt hW (by rw [q]; decide)
    split at h
    · rename_i q; exact wd_lt hW (by rw [q]; decide)
    split at h
    · rename_i q; exact wd_lt hW (by rw [q]; decide)
    split at h
    · rename_i q; exact wd_lt hW (by rw [q]; decide)
    · obtain ⟨_, s1, h1, h2⟩ := bind_inv h
      exact knd_lt hT (by decide) h1
  · intro d l s a t h
    have h : sStmts E L d l s = .ok a t := h
    unfold sStmts at h
    split at h
    · rename_i q; exact wd_lt hW (by rw [q]; decide)
    · obtain ⟨_, s1, h1, h2⟩ := bind_inv h
      exact hB.stmt _ _ _ _ h1
  · intro d s a t h
    have h : sStmt E L d s = .ok a t := h
    unfold sStmt at h
    split at h
    · rename_i q; exact wd_lt hW (by rw [q]; decide)
    split at h
    · rename_i q; exact wd_lt hW (by rw [q]; decide)
    split at h
    · rename_i q; exact wd_lt hW (by rw [q]; decide)
    split at h
    · rename_i q; exact wd_lt hW (by rw [q]; decide)
    split at h
    · rename_i q; exact wd_lt hW (by rw [q]; decide)
    split at h
    · rename_i q; exact wd_lt hW (by rw [q]; decide)
    split at h
    · rename_i q; exact wd_lt hW (by rw [q]; decide)
    · obtain ⟨_, s1, h1, h2⟩ := bind_inv h
      exact sNamed_lt hT h1
  · intro fr d s a t h
    obtain ⟨_, s1, h1, h2⟩ := bind_inv (show sBranch E L fr d s = .ok a t from h)
    exact hB.expr _ _ _ _ h1
end
theorem fst_lv {E : Env} {N : Nat} (hW : E.W.length = N) (hT : E.T.length = N) : ∀ n, Fst N (lv E n)
  | 0 => ⟨fun _ _ _ _ _ h => (by cases h), fun _ _ _ _ h => (by cases h), fun _ _ _ _ h => (by cases h), fun _ _ _ _ h => (by cases h), fun _ _ _ _ _ h => (by cases h), fun _ _ _ _ h => (by cases h), fun _ _ _ _ _ h => (by cases h)⟩
  | n + 1 => fst_step hW hT (fst_lv hW hT n)
/-- How much fuel is needed. -/
def Mn (N : Nat) (s : PS) : Nat := 20 * (N - s.i)
theorem Mn.lt {N : Nat} {s t : PS} (h : s.i < N) (k : s.i + 1 ≤ t.i) : Mn N t + 20 ≤ Mn N s := by unfold Mn; omega
theorem Mn.le {N : Nat} {s t : PS} (k : s.i ≤ t.i) : Mn N t ≤ Mn N s := by unfold Mn; omega
structure Fu (N : Nat) (L : Lv) (n : Nat) : Prop where
  row : ∀ v d s, v ≤ 5 → Mn N s + (8 - v) ≤ n → L.row v d s ≠ .out
  rows : ∀ v d fr a s, v ≤ 4 → Mn N s + 1 ≤ n → L.rows v d fr a s ≠ .out
  expr : ∀ d s, Mn N s + 9 ≤ n → L.expr d s ≠ .out
  unary : ∀ d s, Mn N s + 2 ≤ n → L.unary d s ≠ .out
  prim : ∀ d s, Mn N s + 1 ≤ n → L.prim d s ≠ .out
  args : ∀ fr nm d l s, Mn N s + 10 ≤ n → L.args fr nm d l s ≠ .out
  stmts : ∀ d l s, Mn N s + 12 ≤ n → L.stmts d l s ≠ .out
  stmt : ∀ d s, Mn N s + 11 ≤ n → L.stmt d s ≠ .out
  branch : ∀ fr d s, Mn N s + 10 ≤ n → L.branch fr d s ≠ .out
section
variable {E : Env} {N : Nat} {L : Lv} {n : Nat}
theorem call_no (hW : E.W.length = N) (hF : Fu N L n) {fr : Int} {nm : List Int} {d : Int} {s : PS} (h : Mn N s ≤ n + 10) : call E L fr nm d s ≠ .out := by
  refine bind_out_ne want_no fun _ s1 h1 => hF.args _ _ _ _ _ ?_
  have := Mn.lt (want_lt hW (by decide) h1) (want_up h1).1
  omega
theorem block_no (hW : E.W.length = N) (hF : Fu N L n) {d : Int} {s : PS} (h : Mn N s ≤ n + 8) : block E L d s ≠ .out := by
  refine bind_out_ne (by split <;> first | exact deep_no | exact fun e => (by cases e)) fun _ s1 h1 => ?_
  have e : s1 = s := by
    split at h1
    · exact deep_up h1
    · cases h1; rfl
  subst e
  refine bind_out_ne want_no fun _ s2 h3 => hF.stmts _ _ _ ?_
  have := Mn.lt (want_lt hW (by decide) h3) (want_up h3).1
  omega
theorem sDecl_no (hW : E.W.length = N) (hT : E.T.length = N) (hF : Fu N L n) {d : Int} {s : PS} (h : Mn N s ≤ n) : sDecl E L d s ≠ .out := by
  refine bind_out_ne knd_no fun _ s1 h1 => ?_
  have a1 := Mn.lt (knd_lt hT (by decide) h1) (knd_up h1).1
  split
  · exact bind_out_ne knd_no fun _ _ _ => bind_out_ne want_no fun _ _ _ e => by cases e
  · refine bind_out_ne want_no fun _ s2 h2 => bind_out_ne (hF.expr _ _ ?_) fun _ _ _ e => by cases e
    have := Mn.le (N := N) (Nat.le_of_succ_le (want_up h2).1)
    omega
theorem sNamed_no (hW : E.W.length = N) (hT : E.T.length = N) (hB : Bd L) (hF : Fu N L n) {d : Int} {s : PS} (h : Mn N s ≤ n + 10) : sNamed E L d s ≠ .out := by
  refine bind_out_ne knd_no fun _ s1 h1 => ?_
  have a1 := Mn.lt (knd_lt hT (by decide) h1) (knd_up h1).1
  split
  · exact bind_out_ne (call_no hW hF (by omega)) fun _ _ _ e => by cases e
  split
  · have a2 := Mn.le (N := N) (Nat.le_of_succ_le (adv_up s1).1)
    refine bind_out_ne (hF.expr _ _ (by omega)) fun _ s2 h2 => bind_out_ne want_no fun _ s3 h3 => bind_out_ne want_no fun _ s4 h4 => bind_out_ne (hF.expr _ _ ?_) fun _ _ _ e => by cases e
    have b1 := Mn.le (N := N) (Nat.le_of_succ_le (hB.expr _ _ _ _ h2).1)
    have b2 := Mn.le (N := N) (Nat.le_of_succ_le (want_up h3).1)
    have b3 := Mn.le (N := N) (Nat.le_of_succ_le (want_up h4).1)
    omega
  · refine bind_out_ne want_no fun _ s2 h2 => bind_out_ne (hF.expr _ _ ?_) fun _ _ _ e => by cases e
    have := Mn.le (N := N) (Nat.le_of_succ_le (want_up h2).1)
    omega
theorem fu_step (hW : E.W.length = N) (hT : E.T.length = N) (hB : Bd L) (hS : Fst N L) (hF : Fu N L n) : Fu N (stepL E L) (n + 1) := by
  constructor
  · intro v d s hv hm
    show sRow E L v d s ≠ .out
    unfold sRow
    split
    · exact hF.unary _ _ (by omega)
    · refine bind_out_ne (hF.row _ _ _ (by omega) (by omega)) fun a s1 h1 => hF.rows _ _ _ _ _ (by omega) ?_
      have := Mn.lt (hS.row _ _ _ _ _ h1) (hB.row _ _ _ _ _ h1).1
      omega
  · intro v d fr a s hv hm
    show sRows E L v d fr a s ≠ .out
    unfold sRows
    split
    · rename_i q
      have hs : s.i < N := wd_lt hW (by
        intro e; rw [e] at q
        match v, hv, q with
        | 0, _, q => exact absurd q (by decide)
        | 1, _, q => exact absurd q (by decide)
        | 2, _, q => exact absurd q (by decide)
        | 3, _, q => exact absurd q (by decide)
        | 4, _, q => exact absurd q (by decide))
      have a1 := Mn.lt hs (adv_up s).1
      refine bind_out_ne (hF.row _ _ _ (by omega) (by omega)) fun b s1 h1 => bind_out_ne put_no fun c s2 h2 => ?_
      split
      · exact fun e => by cases e
      · refine hF.rows _ _ _ _ _ hv ?_
        have b1 := Mn.le (N := N) (Nat.le_of_succ_le (hB.row _ _ _ _ _ h1).1)
        have b2 : s2.i = s1.i := by cases h2; rfl
        have b3 : Mn N s2 = Mn N s1 := by unfold Mn; rw [b2]
        omega
    · exact fun e => by cases e
  · intro d s hm
    refine bind_out_ne deep_no fun _ s1 h1 => ?_
    have e := deep_up h1
    subst e
    exact hF.row _ _ _ (by omega) (by omega)
  · intro d s hm
    show sUnary E L d s ≠ .out
    unfold sUnary
    split
    · rename_i q
      have a1 := Mn.lt (wd_lt hW (s := s) (by rcases q with q | q <;> (rw [q]; decide))) (adv_up s).1
      refine bind_out_ne deep_no fun _ s1 h1 => ?_
      have e := deep_up h1
      subst e
      exact bind_out_ne (hF.unary _ _ (by omega)) fun _ _ _ => put_no
    · exact hF.prim _ _ (by omega)
  · intro d s hm
    show sPrim E L d s ≠ .out
    unfold sPrim
    split
    · exact put_no
    split
    · exact put_no
    split
    · exact put_no
    split
    · exact put_no
    split
    · rename_i q
      have a1 := Mn.lt (wd_lt hW (s := s) (by rw [q]; decide)) (adv_up s).1
      exact bind_out_ne (hF.expr _ _ (by omega)) fun _ _ _ => bind_out_ne want_no fun _ _ _ e => by cases e
    · refine bind_out_ne knd_no fun _ s1 h1 => ?_
      have a1 := Mn.lt (knd_lt hT (by decide) h1) (knd_up h1).1
      split
      · have a2 := Mn.le (N := N) (Nat.le_of_succ_le (adv_up s1).1)
        exact bind_out_ne (hF.expr _ _ (by omega)) fun _ _ _ => bind_out_ne want_no fun _ _ _ => put_no
      split
      · exact call_no hW hF (by omega)
      · exact put_no
  · intro fr nm d l s hm
    show sArgs E L fr nm d l s ≠ .out
    unfold sArgs
    split
    · exact put_no
    · refine bind_out_ne (by split <;> first | exact want_no | exact fun e => (by cases e)) fun _ s1 h1 => ?_
      have u : s.i ≤ s1.i := by
        split at h1
        · cases h1; exact Nat.le_refl _
        · exact Nat.le_of_succ_le (want_up h1).1
      have a1 := Mn.le (N := N) u
      refine bind_out_ne (hF.expr _ _ (by omega)) fun _ s2 h2 => ?_
      have a2 := Mn.lt (hS.expr _ _ _ _ h2) (hB.expr _ _ _ _ h2).1
      split
      · exact hF.args _ _ _ _ _ (by omega)
      · exact fun e => by cases e
  · intro d l s hm
    show sStmts E L d l s ≠ .out
    unfold sStmts
    split
    · exact fun e => by cases e
    · refine bind_out_ne (hF.stmt _ _ (by omega)) fun _ s1 h1 => hF.stmts _ _ _ ?_
      have a2 := Mn.lt (hS.stmt _ _ _ _ h1) (hB.stmt _ _ _ _ h1).1
      omega
  · intro d s hm
    show sStmt E L d s ≠ .out
    unfold sStmt
    split
    · rename_i q
      have a1 := Mn.lt (wd_lt hW (s := s) (by rw [q]; decide)) (adv_up s).1
      exact bind_out_ne (sDecl_no hW hT hF (by omega)) fun _ _ _ => endS_no
    split
    · rename_i q
      have a1 := Mn.lt (wd_lt hW (s := s) (by rw [q]; decide)) (adv_up s).1
      exact hF.branch _ _ _ (by omega)
    split
    · rename_i q
      have a1 := Mn.lt (wd_lt hW (s := s) (by rw [q]; decide)) (adv_up s).1
      refine bind_out_ne (hF.expr _ _ (by omega)) fun _ s1 h1 => ?_
      have a2 := Mn.le (N := N) (Nat.le_of_succ_le (hB.expr _ _ _ _ h1).1)
      exact bind_out_ne (block_no hW hF (by omega)) fun _ _ _ => add_no
    split
    · exact endS_no
    split
    · exact endS_no
    split
    · split
      · exact endS_no
      · rename_i q _
        have a1 := Mn.lt (wd_lt hW (s := s) (by rw [q]; decide)) (adv_up s).1
        exact bind_out_ne (hF.expr _ _ (by omega)) fun _ _ _ => endS_no
    split
    · rename_i q
      have a1 := Mn.lt (wd_lt hW (s := s) (by rw [q]; decide)) (adv_up s).1
      exact bind_out_ne (hF.expr _ _ (by omega)) fun _ _ _ => endS_no
    · exact bind_out_ne (sNamed_no hW hT hB hF (by omega)) fun _ _ _ => endS_no
  · intro fr d s hm
    refine bind_out_ne (hF.expr _ _ (by omega)) fun _ s1 h1 => ?_
    have a1 := Mn.lt (hS.expr _ _ _ _ h1) (hB.expr _ _ _ _ h1).1
    refine bind_out_ne (block_no hW hF (by omega)) fun _ s2 h2 => ?_
    have a2 := Mn.le (N := N) (Nat.le_of_succ_le (Nat.le_of_succ_le (block_up hB h2).1))
    split
    · have a3 := Mn.le (N := N) (Nat.le_of_succ_le (adv_up s2).1)
      split
      · refine bind_out_ne deep_no fun _ s3 h3 => ?_
        have e := deep_up h3
        subst e
        have a4 := Mn.le (N := N) (Nat.le_of_succ_le (adv_up (adv s2)).1)
        exact bind_out_ne (hF.branch _ _ _ (by omega)) fun _ _ _ => add_no
      · exact bind_out_ne (block_no hW hF (by omega)) fun _ _ _ => add_no
    · exact add_no
end
theorem fu_lv {E : Env} {N : Nat} (hW : E.W.length = N) (hT : E.T.length = N) : ∀ n, Fu N (lv E n) n
  | 0 => ⟨fun _ _ _ _ h => by omega, fun _ _ _ _ _ _ h => by omega, fun _ _ h => by omega, fun _ _ h => by omega, fun _ _ h => by omega, fun _ _ _ _ _ h => by omega, fun _ _ _ h => by omega, fun _ _ h => by omega, fun _ _ _ h => by omega⟩
  | n + 1 => fu_step hW hT (bd_lv n) (fst_lv hW hT n) (fu_lv hW hT n)
section
variable {E : Env} {N : Nat}
theorem prms_no (hW : E.W.length = N) (hT : E.T.length = N) : ∀ n l s, Mn N s + 1 ≤ n → prms E n l s ≠ .out := by
  intro n
  induction n with
  | zero => intro l s h; omega
  | succ n ih =>
    intro l s h
    unfold prms
    split
    · exact fun e => by cases e
    · refine bind_out_ne (by split <;> first | exact want_no | exact fun e => (by cases e)) fun _ s1 h1 => ?_
      have u : s.i ≤ s1.i := by
        split at h1
        · cases h1; exact Nat.le_refl _
        · exact Nat.le_of_succ_le (want_up h1).1
      have a1 := Mn.le (N := N) u
      refine bind_out_ne knd_no fun _ s2 h2 => ?_
      have a2 := Mn.lt (knd_lt hT (by decide) h2) (knd_up h2).1
      split
      · exact ih _ _ (by omega)
      · exact fun e => by cases e
theorem prms_up : ∀ n l s x t, prms E n l s = .ok x t → Up 1 1 1 s t := by
  intro n
  induction n with
  | zero => intro l s x t h; cases h
  | succ n ih =>
    intro l s x t h
    unfold prms at h
    split at h
    · cases h; exact adv_up s
    · obtain ⟨_, s1, h1, h2⟩ := bind_inv h
      have u : Up 0 0 0 s s1 := by
        split at h1
        · cases h1; exact Up.refl _
        · exact (want_up h1).le (by omega) (by omega) (by omega)
      obtain ⟨_, s2, h3, h4⟩ := bind_inv h2
      split at h4
      · exact ((u.trans (knd_up h3)).trans (ih _ _ _ _ h4)).le (by omega) (by omega) (by omega)
      · cases h4
/-- What a function's head takes. -/
theorem fct_inv {n : Nat} {s t : PS} {x : Unit} (h : fct E n s = .ok x t) : s.fn.length < 32 ∧ ∃ nm s2 s3 ps s4 ty s5 bd s6, knd E 1 (adv s) = .ok nm s2 ∧ want E wLpar s2 = .ok () s3 ∧ prms E n [] s3 = .ok ps s4 ∧
    ((wd E s4 = wInt ∧ ty = 1 ∧ s5 = adv s4) ∨ (wd E s4 ≠ wInt ∧ ty = 4 ∧ s5 = s4)) ∧ wd E s = wFunc ∧ block E (lv E n) 1 s5 = .ok bd s6 ∧ t = { s6 with fn := s6.fn ++ [{ nm := nm, f := hr E s, e := pe E s6, ps := ps, ty := ty, bd := bd }] } := by
  obtain ⟨_, s0, h0, h⟩ := bind_inv h
  obtain ⟨_, s1, h1, h⟩ := bind_inv h
  have q : wd E s0 = wFunc ∧ s1 = adv s0 := by
    unfold want at h1
    split at h1
    · rename_i q; cases h1; exact ⟨q, rfl⟩
    · cases h1
  obtain ⟨q, rfl⟩ := q
  have e : s0 = s ∧ s.fn.length < 32 := by
    split at h0
    · cases h0
    · rename_i hq
      cases h0
      exact ⟨rfl, Nat.lt_of_not_le fun hl => hq ⟨q, hl⟩⟩
  obtain ⟨rfl, hl⟩ := e
  obtain ⟨nm, s2, h2, h⟩ := bind_inv h
  obtain ⟨_, s3, h3, h⟩ := bind_inv h
  obtain ⟨ps, s4, h4, h⟩ := bind_inv h
  obtain ⟨ty, s5, h5, h⟩ := bind_inv h
  obtain ⟨bd, s6, h6, h⟩ := bind_inv h
  cases h
  refine ⟨hl, nm, s2, s3, ps, s4, ty, s5, bd, s6, h2, h3, h4, ?_, q, h6, rfl⟩
  split at h5
  · rename_i q5; cases h5; exact .inl ⟨q5, rfl, rfl⟩
  · rename_i q5; cases h5; exact .inr ⟨q5, rfl, rfl⟩
theorem fct_up {n : Nat} {s t : PS} {x : Unit} (h : fct E n s = .ok x t) : s.i + 1 ≤ t.i ∧ t.ex.length + s.i ≤ s.ex.length + t.i ∧ t.fn.length = s.fn.length + 1 ∧ t.st.length + s.i + 1 ≤ s.st.length + t.i := by
  obtain ⟨hl, nm, s2, s3, ps, s4, ty, s5, bd, s6, h2, h3, h4, h5, q, h6, rfl⟩ := fct_inv h
  have u := ((((adv_up s).trans (knd_up h2)).trans (want_up h3)).trans (prms_up _ _ _ _ _ h4))
  have u5 : Up 0 0 0 s4 s5 := by
    rcases h5 with ⟨_, _, rfl⟩ | ⟨_, _, rfl⟩
    · exact (adv_up _).le (by omega) (by omega) (by omega)
    · exact Up.refl _
  obtain ⟨u6, u7, u8, u9, u10⟩ := (u.trans u5).trans (block_up (bd_lv n) h6)
  exact ⟨by simp only; omega, by simp only; omega, by simp [u8], by simp only; omega⟩
theorem fct_no (hW : E.W.length = N) (hT : E.T.length = N) {n : Nat} {s : PS} (h : Mn N s + 12 ≤ n) : fct E n s ≠ .out := by
  refine bind_out_ne (by split <;> exact fun e => by cases e) fun _ s0 h0 => ?_
  have e : s0 = s := by
    split at h0
    · cases h0
    · cases h0; rfl
  subst e
  refine bind_out_ne want_no fun _ s1 h1 => ?_
  have a1 := Mn.le (N := N) (Nat.le_of_succ_le (want_up h1).1)
  refine bind_out_ne knd_no fun _ s2 h2 => ?_
  have a2 := Mn.le (N := N) (Nat.le_of_succ_le (knd_up h2).1)
  refine bind_out_ne want_no fun _ s3 h3 => ?_
  have a3 := Mn.le (N := N) (Nat.le_of_succ_le (want_up h3).1)
  refine bind_out_ne (prms_no hW hT _ _ _ (by omega)) fun _ s4 h4 => ?_
  have a4 := Mn.le (N := N) (Nat.le_of_succ_le (prms_up _ _ _ _ _ h4).1)
  refine bind_out_ne (by split <;> exact fun e => by cases e) fun _ s5 h5 => ?_
  have a5 : Mn N s5 ≤ Mn N s4 := by
    split at h5
    · cases h5; exact Mn.le (N := N) (Nat.le_of_succ_le (adv_up _).1)
    · cases h5; exact Nat.le_refl _
  exact bind_out_ne (block_no hW (fu_lv hW hT n) (by omega)) fun _ _ _ e => by cases e
theorem fcts_no (hW : E.W.length = N) (hT : E.T.length = N) {m : Nat} : ∀ n s, Mn N s + 1 ≤ n → Mn N s + 12 ≤ m → fcts E m n s ≠ .out := by
  intro n
  induction n with
  | zero => intro s h; omega
  | succ n ih =>
    intro s h hm
    unfold fcts
    split
    · exact fun e => by cases e
    · refine bind_out_ne (fct_no hW hT hm) fun _ s1 h1 => ?_
      have hs : s.i < N := by
        obtain ⟨hl, nm, s2, s3, ps, s4, ty, s5, bd, s6, h2, h3, h4, h5, q, h6, rfl⟩ := fct_inv h1
        exact wd_lt hW (by rw [q]; decide)
      have a1 := Mn.lt hs (fct_up h1).1
      exact ih _ (by omega) (by omega)
end
theorem env_T (L : List Int) : (envOf L).T.length ≤ L.length + 1 := by
  show (Tk.allT L).1.length ≤ _
  unfold Tk.allT
  split
  · simp
  · have := Tk.als_len (L.length + 1) 0 L
    split <;> rename_i e <;> rw [e] at this <;> simp at this ⊢ <;> omega
/-- A text is parsed, or something is wrong. -/
theorem prs_no (L : List Int) : prs L ≠ .out := by
  unfold prs
  split
  · exact fun e => by cases e
  · have hW : (envOf L).W.length = (envOf L).T.length := by simp [envOf]
    have := env_T L
    refine fcts_no hW rfl _ _ ?_ ?_ <;> (unfold Mn fuel; simp only; omega)
end Go.Proofs.YtfnbgbeinmekgaaGreatDoor.Sy
namespace Go.Proofs.YtfnbgbeinmekgaaGreatDoor.Sy
open Go
set_option linter.unusedVariables false
/-- Tokens of one text stand in another one: m tokens, o bytes on; xo, so, fo: how much was put before; ex: nothing is other. -/
structure Mv where
  E : Env
  E' : Env
  K : Nat
  m : Nat
  o : Int
  xo : Nat
  so : Nat
  fo : Nat
  ex : Prop
structure Mv.Ok (M : Mv) : Prop where
  T : ∀ i t, i < M.K → M.E.T[i]? = some t → M.E'.T[i + M.m]? = some (t.1, t.2.1 + M.o, t.2.2 + M.o)
  W : ∀ i x, i < M.K → M.E.W[i]? = some x → M.E'.W[i + M.m]? = some x
  KT : M.K ≤ M.E.T.length
  KW : M.K ≤ M.E.W.length
  ex : M.ex → M.o = 0
def Mv.St (M : Mv) (x x' : St) : Prop := x'.k = x.k ∧ (M.ex → x' = x)
structure Mv.S (M : Mv) (s s' : PS) : Prop where
  i : s'.i = s.i + M.m
  x : s'.ex.length = s.ex.length + M.xo
  st : s'.st.length = s.st.length + M.so
  ss : ∀ j x, s.st[j]? = some x → ∃ y, s'.st[j + M.so]? = some y ∧ y.k = x.k ∧ y.f = x.f + M.o ∧ y.e = x.e + M.o
  fn : s'.fn.length = s.fn.length + M.fo
  eq : M.ex → s' = s
/-- A result that goes alike. -/
def Mv.R (M : Mv) {α : Type} (V : α → α → Prop) (a : α) (t : PS) (r : Rs α) : Prop := ∃ a' t', r = .ok a' t' ∧ V a a' ∧ M.S t t'
def Mv.L {α : Type} (M : Mv) (l l' : List α) : Prop := l'.length = l.length ∧ (M.ex → l' = l)
def Mv.U (M : Mv) (_ _ : Unit) : Prop := True
theorem Mv.R.bind {M : Mv} {α β : Type} {V : α → α → Prop} {W : β → β → Prop} {r : Rs α} {g : α → PS → Rs β} {a : α} {b : β} {t u : PS} (h : M.R V a t r) (k : ∀ a' t', V a a' → M.S t t' → M.R W b u (g a' t')) : M.R W b u (r.bind g) := by
  obtain ⟨a', t', rfl, hv, hs⟩ := h
  exact k a' t' hv hs
section
variable {M : Mv} {s s' : PS}
theorem Mv.S.kd (h : M.S s s') (ok : M.Ok) (hi : s.i < M.K) : kd M.E' s' = kd M.E s := by
  obtain ⟨t, ht⟩ : ∃ t, M.E.T[s.i]? = some t := ⟨_, List.getElem?_eq_getElem (Nat.lt_of_lt_of_le hi ok.KT)⟩
  unfold Sy.kd
  rw [h.i, ok.T _ _ hi ht, ht]
theorem Mv.S.hr (h : M.S s s') (ok : M.Ok) (hi : s.i < M.K) : hr M.E' s' = hr M.E s + M.o := by
  obtain ⟨t, ht⟩ : ∃ t, M.E.T[s.i]? = some t := ⟨_, List.getElem?_eq_getElem (Nat.lt_of_lt_of_le hi ok.KT)⟩
  unfold Sy.hr
  rw [h.i, ok.T _ _ hi ht, ht]
theorem Mv.S.wd (h : M.S s s') (ok : M.Ok) (hi : s.i < M.K) : wd M.E' s' = wd M.E s := by
  obtain ⟨x, hx⟩ : ∃ x, M.E.W[s.i]? = some x := ⟨_, List.getElem?_eq_getElem (Nat.lt_of_lt_of_le hi ok.KW)⟩
  unfold Sy.wd
  rw [h.i, ok.W _ _ hi hx, hx]
theorem Mv.S.pe (h : M.S s s') (ok : M.Ok) (h1 : 1 ≤ s.i) (hi : s.i ≤ M.K) : pe M.E' s' = pe M.E s + M.o := by
  obtain ⟨t, ht⟩ : ∃ t, M.E.T[s.i - 1]? = some t := ⟨_, List.getElem?_eq_getElem (by have := ok.KT; omega)⟩
  unfold Sy.pe
  rw [h.i, show s.i + M.m - 1 = s.i - 1 + M.m by omega, ok.T _ _ (by omega) ht, ht]
theorem Mv.S.adv (h : M.S s s') : M.S (adv s) (adv s') :=
  ⟨by show s'.i + 1 = s.i + 1 + M.m; rw [h.i]; omega, h.x, h.st, h.ss, h.fn, fun e => by rw [h.eq e]⟩
theorem Mv.R.ok {α : Type} {V : α → α → Prop} {a a' : α} (hv : V a a') (h : M.S s s') : M.R V a s (.ok a' s') := ⟨a', s', rfl, hv, h⟩
end
end Go.Proofs.YtfnbgbeinmekgaaGreatDoor.Sy
namespace Go.Proofs.YtfnbgbeinmekgaaGreatDoor.Tk
open Go Fw
set_option linter.unusedVariables false
theorem sk_blanks (n : Nat) (L : List Int) (c : Int) (hc : blan c = true) : sk false (List.replicate n c ++ L) = n + sk false L := by
  induction n with
  | zero => simp
  | succ n ih => rw [List.replicate_succ, List.cons_append, sk, if_pos hc, ih]; omega
theorem two_no (L : List Int) (h : L.length < 2) : pairsL.any (fun p => p.isPrefixOf L) = false := by
  rw [Bool.eq_false_iff]
  intro hh
  obtain ⟨p, hp, hq⟩ := List.any_eq_true.1 hh
  have h2 : ∀ p ∈ pairsL, p.length = 2 := by decide
  have := (List.isPrefixOf_iff_prefix.1 hq).length_le
  have := h2 p hp
  omega
theorem als_zero (a : Nat) (L : List Int) : als 0 a L = ([], some (a : Int)) := rfl
theorem als_bad {f a : Nat} {L : List Int} (h : (nx L).ok = false) : als (f + 1) a L = ([], some ((a + (nx L).n : Nat) : Int)) := by
  rw [als, if_neg (by rw [h]; exact Bool.false_ne_true)]
theorem als_end {f a : Nat} {L : List Int} (h : (nx L).ok = true) (hk : (nx L).k = 0) : als (f + 1) a L = ([(0, ((a + (nx L).n : Nat) : Int), ((a + (nx L).n + (nx L).m : Nat) : Int))], none) := by
  rw [als, if_pos h, if_pos hk]
theorem als_more {f a : Nat} {L : List Int} (h : (nx L).ok = true) (hk : (nx L).k ≠ 0) :
    als (f + 1) a L = (((nx L).k, ((a + (nx L).n : Nat) : Int), ((a + (nx L).n + (nx L).m : Nat) : Int)) :: (als f (a + (nx L).n + (nx L).m) (L.drop ((nx L).n + (nx L).m))).1, (als f (a + (nx L).n + (nx L).m) (L.drop ((nx L).n + (nx L).m))).2) := by
  rw [als, if_pos h, if_neg hk]
/-- The first of all. -/
theorem als_cons {f a : Nat} {L : List Int} {x : T3} {r : List T3} (h : als f a L = (x :: r, none)) :
    (nx L).ok = true ∧ x = ((nx L).k, ((a + (nx L).n : Nat) : Int), ((a + (nx L).n + (nx L).m : Nat) : Int)) ∧
      ((nx L).k = 0 ∧ r = [] ∨ (nx L).k ≠ 0 ∧ ∃ g, f = g + 1 ∧ als g (a + (nx L).n + (nx L).m) (L.drop ((nx L).n + (nx L).m)) = (r, none)) := by
  cases f with
  | zero => rw [als_zero] at h; cases h
  | succ g =>
    by_cases hok : (nx L).ok = true
    · by_cases hk : (nx L).k = 0
      · rw [als_end hok hk] at h
        simp only [Prod.mk.injEq, List.cons.injEq, and_true] at h
        exact ⟨hok, by rw [hk]; exact h.1.symm, .inl ⟨hk, h.2.symm⟩⟩
      · rw [als_more hok hk] at h
        simp only [Prod.mk.injEq, List.cons.injEq] at h
        exact ⟨hok, h.1.1.symm, .inr ⟨hk, g, rfl, Prod.ext h.1.2 h.2⟩⟩
    · rw [als_bad (by simpa using hok)] at h; cases h
theorem als_ne {f a : Nat} {L : List Int} : als f a L ≠ ([], none) := by
  intro h
  cases f with
  | zero => rw [als_zero] at h; cases h
  | succ g =>
    by_cases hok : (nx L).ok = true
    · by_cases hk : (nx L).k = 0
      · rw [als_end hok hk] at h; cases h
      · rw [als_more hok hk] at h; cases h
    · rw [als_bad (by simpa using hok)] at h; cases h
/-- More fuel changes nothing. -/
theorem als_fuel : ∀ (f f' a : Nat) (L : List Int), L.length < f → L.length < f' → als f a L = als f' a L := by
  intro f
  induction f with
  | zero => intro f' a L h; omega
  | succ g ih =>
    intro f' a L h h'
    cases f' with
    | zero => omega
    | succ g' =>
      by_cases hok : (nx L).ok = true
      · by_cases hk : (nx L).k = 0
        · rw [als_end hok hk, als_end hok hk]
        · have h1 := nx_pos hok hk
          have h2 := nx_le L
          rw [als_more hok hk, als_more hok hk, ih g' _ _ (by rw [List.length_drop]; omega) (by rw [List.length_drop]; omega)]
      · rw [als_bad (by simpa using hok), als_bad (by simpa using hok)]
/-- All is good: what it says. -/
theorem all_ok {L : List Int} (h : (allT L).2.2 = 0) : L.length ≤ 20000 ∧ als (L.length + 1) 0 L = ((allT L).1, none) ∧ (allT L).2.1 = 0 := by
  unfold allT at h ⊢
  split
  · rename_i hb; rw [if_pos hb] at h; cases h
  · rename_i hb
    rw [if_neg hb] at h
    split
    · rename_i l he; exact ⟨by omega, by rw [he], rfl⟩
    · rename_i l p he; rw [he] at h; cases h
theorem all_bad {L : List Int} (h : (allT L).2.2 ≠ 0) : (allT L).1 = [] := by
  unfold allT at h ⊢
  split
  · rfl
  · rename_i hb
    rw [if_neg hb] at h
    split
    · rename_i l he; rw [he] at h; exact absurd rfl h
    · rfl
theorem all_of {L : List Int} {ts : List T3} {f : Nat} (h0 : L.length ≤ 20000) (hf : L.length < f) (h : als f 0 L = (ts, none)) : allT L = (ts, 0, 0) := by
  rw [allT, if_neg (by omega), als_fuel (L.length + 1) f 0 L (by omega) hf, h]
theorem all_len {L : List Int} (h : L.length ≤ 20000) : (allT L).1.length ≤ L.length + 1 := by
  have := als_len (L.length + 1) 0 L
  rw [allT, if_neg (by omega)]
  split
  · rename_i l he; rw [he] at this; exact this
  · simp
def shift (c : Nat) (t : T3) : T3 := (t.1, t.2.1 + c, t.2.2 + c)
theorem als_shift (c : Nat) : ∀ (f a : Nat) (L : List Int), als f (a + c) L = ((als f a L).1.map (shift c), (als f a L).2.map (· + (c : Int))) := by
  intro f
  induction f with
  | zero => intro a L; simp [als_zero]
  | succ g ih =>
    intro a L
    by_cases hok : (nx L).ok = true
    · by_cases hk : (nx L).k = 0
      · rw [als_end hok hk, als_end hok hk]
        simp only [List.map_cons, List.map_nil, shift, Option.map_none, Prod.mk.injEq, List.cons.injEq, true_and, and_true]
        omega
      · rw [als_more hok hk, als_more hok hk]
        have e : a + c + (nx L).n + (nx L).m = a + (nx L).n + (nx L).m + c := by omega
        rw [e, ih]
        simp only [List.map_cons, shift, Prod.mk.injEq, List.cons.injEq, true_and, and_true]
        omega
    · rw [als_bad (by simpa using hok), als_bad (by simpa using hok)]
      simp only [List.map_nil, Option.map_some, Prod.mk.injEq, Option.some.injEq, true_and]
      omega
theorem nx_blanks (c : Nat) (b : Int) (hb : blan b = true) (L : List Int) : nx (List.replicate c b ++ L) = ⟨(nx L).ok, (nx L).k, c + (nx L).n, (nx L).m⟩ := by
  have h := sk_blanks c L b hb
  have hd : (List.replicate c b ++ L).drop (c + sk false L) = L.drop (sk false L) := by
    rw [← List.drop_drop, List.drop_left' (by simp)]
  simp only [nx, h, hd]
theorem als_blanks (c : Nat) (b : Int) (hb : blan b = true) (f a : Nat) (L : List Int) : als (f + 1) a (List.replicate c b ++ L) = als (f + 1) (a + c) L := by
  have h := nx_blanks c b hb L
  have h1 : (nx (List.replicate c b ++ L)).ok = (nx L).ok := by rw [h]
  have h2 : (nx (List.replicate c b ++ L)).k = (nx L).k := by rw [h]
  have h3 : (nx (List.replicate c b ++ L)).n = c + (nx L).n := by rw [h]
  have h4 : (nx (List.replicate c b ++ L)).m = (nx L).m := by rw [h]
  by_cases hok : (nx L).ok = true
  · by_cases hk : (nx L).k = 0
    · rw [als_end (h1.trans hok) (h2.trans hk), als_end hok hk, h3, h4]
      simp only [Prod.mk.injEq, List.cons.injEq, true_and, and_true]; omega
    · have e : a + (c + (nx L).n) + (nx L).m = a + c + (nx L).n + (nx L).m := by omega
      have e2 : (List.replicate c b ++ L).drop (c + (nx L).n + (nx L).m) = L.drop ((nx L).n + (nx L).m) := by
        rw [show c + (nx L).n + (nx L).m = c + ((nx L).n + (nx L).m) from by omega, ← List.drop_drop, List.drop_left' (by simp)]
      rw [als_more (h1.trans hok) (by rw [h2]; exact hk), als_more hok hk, h2, h3, h4, e, e2]
      simp only [Prod.mk.injEq, List.cons.injEq, true_and, and_true]; omega
  · have hok' : (nx L).ok = false := by simpa using hok
    rw [als_bad (h1.trans hok'), als_bad hok', h3]
    simp only [Prod.mk.injEq, Option.some.injEq, true_and]; omega
/-- Where tokens stand. -/
theorem als_bounds : ∀ (f a : Nat) (L : List Int) (t : T3), t ∈ (als f a L).1 → (a : Int) ≤ t.2.1 ∧ t.2.1 ≤ t.2.2 ∧ t.2.2 ≤ ((a + L.length : Nat) : Int) := by
  intro f
  induction f with
  | zero => intro a L t h; simp [als_zero] at h
  | succ g ih =>
    intro a L t h
    have hle := nx_le L
    by_cases hok : (nx L).ok = true
    · by_cases hk : (nx L).k = 0
      · rw [als_end hok hk] at h
        simp only [List.mem_singleton] at h
        subst h
        simp only
        omega
      · rw [als_more hok hk] at h
        simp only [List.mem_cons] at h
        rcases h with rfl | h
        · simp only; omega
        · have := ih _ _ t h
          rw [List.length_drop] at this
          omega
    · rw [als_bad (by simpa using hok)] at h; simp at h
theorem all_bounds {L : List Int} {t : T3} (h : t ∈ (allT L).1) : 0 ≤ t.2.1 ∧ t.2.1 ≤ t.2.2 ∧ t.2.2 ≤ (L.length : Int) := by
  by_cases h0 : (allT L).2.2 = 0
  · obtain ⟨_, h1, _⟩ := all_ok h0
    have := als_bounds (L.length + 1) 0 L t (by rw [h1]; exact h)
    omega
  · rw [all_bad h0] at h; simp at h
/-- A token's bytes. -/
def tx (s : ByteArray) (t : T3) : ByteArray := s.extract t.2.1.toNat t.2.2.toNat
theorem nx_end {L : List Int} (hok : (nx L).ok = true) (hk : (nx L).k = 0) : (nx L).m = 0 ∧ (nx L).n = L.length := by
  by_cases h0 : L.drop (sk false L) = []
  · have hn : (nx L).n = sk false L := rfl
    have hle := sk_le L false
    have := congrArg List.length h0
    rw [List.length_drop, List.length_nil] at this
    refine ⟨?_, by omega⟩
    have : (nx L).m = (body (L.drop (sk false L))).2.2 := rfl
    rw [this, h0]; rfl
  · exact absurd hk (body_pos (L := L.drop (sk false L)) hok h0).2
theorem rn_append (p : Int → Bool) (x : Int) (hx : p x = false) (Y : List Int) : ∀ L : List Int, rn p (L ++ x :: Y) = rn p L := by
  intro L
  induction L with
  | nil =>
    show rn p (x :: Y) = 0
    rw [rn, if_neg (by rw [hx]; exact Bool.false_ne_true)]
  | cons c r ih => rw [List.cons_append, rn, rn, ih]
theorem rn_take (p : Int → Bool) : ∀ L : List Int, rn p (L.take (rn p L)) = rn p L := by
  intro L
  induction L with
  | nil => rfl
  | cons c r ih =>
    by_cases h : p c = true
    · rw [rn, if_pos h, List.take_succ_cons, rn, if_pos h, ih]
    · rw [rn, if_neg h, List.take_zero]; rfl
theorem pairs_any {L : List Int} : pairsL.any (fun p => p.isPrefixOf L) = true ↔ ∃ a b r, L = a :: b :: r ∧ [a, b] ∈ pairsL := by
  rw [List.any_eq_true]
  constructor
  · rintro ⟨p, hp, hq⟩
    have h2 : ∀ p ∈ pairsL, p.length = 2 := by decide
    have hl := h2 p hp
    obtain ⟨r, rfl⟩ := List.isPrefixOf_iff_prefix.1 hq
    match p, hl with
    | [a, b], _ => exact ⟨a, b, r, rfl, hp⟩
  · rintro ⟨a, b, r, rfl, h⟩
    exact ⟨[a, b], h, List.isPrefixOf_iff_prefix.2 ⟨r, rfl⟩⟩
theorem pairs_snd : ∀ p ∈ pairsL, ∀ a b, p = [a, b] → b ≠ 32 ∧ b ≠ 10 ∧ a ≠ 35 ∧ blan a = false := by
  have : ∀ p ∈ pairsL, (p.getD 1 0) ≠ 32 ∧ (p.getD 1 0) ≠ 10 ∧ (p.getD 0 0) ≠ 35 ∧ blan (p.getD 0 0) = false := by decide
  intro p hp a b e
  subst e
  exact this _ hp
theorem signs_ok : ∀ c ∈ signsL, c ≠ 35 ∧ blan c = false := by decide
theorem sk_0 {c : Int} {r : List Int} (h : blan c = false) (h35 : c ≠ 35) : sk false (c :: r) = 0 := by
  rw [sk, if_neg (by rw [h]; exact Bool.false_ne_true), if_neg h35]
theorem lett_ok {c : Int} (h : lett c = true) : blan c = false ∧ c ≠ 35 := by
  simp only [lett, Bool.or_eq_true, beq_iff_eq, Bool.and_eq_true, decide_eq_true_eq] at h
  refine ⟨?_, by omega⟩
  rw [Bool.eq_false_iff]
  simp only [blan, ne_eq, Bool.or_eq_true, beq_iff_eq]
  omega
theorem digi_ok {c : Int} (h : digi c = true) : blan c = false ∧ c ≠ 35 := by
  simp only [digi, Bool.and_eq_true, decide_eq_true_eq] at h
  refine ⟨?_, by omega⟩
  rw [Bool.eq_false_iff]
  simp only [blan, ne_eq, Bool.or_eq_true, beq_iff_eq]
  omega
/-- A byte behind which nothing that stands ahead goes on. -/
structure Stop (x : Int) : Prop where
  e : eith x = false
  l : lett x = false
  d : digi x = false
  p : ∀ p ∈ pairsL, ∀ a b, p = [a, b] → b ≠ x
theorem stop32 : Stop 32 := ⟨rfl, rfl, rfl, fun p hp a b e => (pairs_snd p hp a b e).1⟩
theorem sg_append {x : Int} (hx : Stop x) (Y L : List Int) (h0 : L ≠ []) : sg (L ++ x :: Y) = sg L := by
  match L, h0 with
  | [c], _ =>
    have h1 : pairsL.any (fun p => p.isPrefixOf ([c] ++ x :: Y)) = false := by
      rw [Bool.eq_false_iff]
      intro h
      obtain ⟨a, b, r, e, hm⟩ := pairs_any.1 h
      simp only [List.cons_append, List.nil_append, List.cons.injEq] at e
      exact hx.p _ hm a b rfl e.2.1.symm
    have h2 : pairsL.any (fun p => p.isPrefixOf [c]) = false := two_no [c] (by simp)
    rw [List.cons_append] at h1 ⊢
    cases h3 : signsL.contains c
    · rw [sg_0 h2 h3, sg_0 h1 h3]
    · rw [sg_1 h2 h3, sg_1 h1 h3]
  | c :: d :: r, _ =>
    have h1 : pairsL.any (fun p => p.isPrefixOf (c :: d :: r ++ x :: Y)) = pairsL.any (fun p => p.isPrefixOf (c :: d :: r)) := by
      rw [Bool.eq_iff_iff, pairs_any, pairs_any]
      constructor
      · rintro ⟨a, b, s, e, hm⟩
        simp only [List.cons_append, List.cons.injEq] at e
        exact ⟨a, b, r, by rw [e.1, e.2.1], hm⟩
      · rintro ⟨a, b, s, e, hm⟩
        simp only [List.cons.injEq] at e
        exact ⟨a, b, r ++ x :: Y, by rw [e.1, e.2.1]; rfl, hm⟩
    cases h4 : pairsL.any (fun p => p.isPrefixOf (c :: d :: r))
    · rw [h4] at h1
      rw [List.cons_append] at h1 ⊢
      cases h3 : signsL.contains c
      · rw [sg_0 h4 h3, sg_0 h1 h3]
      · rw [sg_1 h4 h3, sg_1 h1 h3]
    · rw [sg_2 h4, sg_2 (h1.trans h4)]
/-- What stands behind such a byte changes no token. -/
theorem body_append {x : Int} (hx : Stop x) (Y L : List Int) (h0 : L ≠ []) : body (L ++ x :: Y) = body L := by
  cases L with
  | nil => exact absurd rfl h0
  | cons c r =>
    have e1 := rn_append eith x hx.e Y (c :: r)
    have e2 := rn_append digi x hx.d Y (c :: r)
    have l1 := rn_le eith (c :: r)
    have l2 := rn_le digi (c :: r)
    have e3 : ((c :: r) ++ x :: Y).take (rn eith (c :: r)) = (c :: r).take (rn eith (c :: r)) := List.take_append_of_le_length l1
    have e4 : ((c :: r) ++ x :: Y).drop (rn digi (c :: r)) = (c :: r).drop (rn digi (c :: r)) ++ x :: Y := List.drop_append_of_le_length l2
    have e5 := sg_append hx Y (c :: r) (by simp)
    rw [List.cons_append] at e1 e2 e3 e4 e5 ⊢
    rw [body, body, e1, e2, e3, e4, rn_append lett x hx.l, e5]
/-- A token's own bytes, and such a byte behind them, are that token. -/
theorem body_alone {x : Int} (hx : Stop x) (Y L : List Int) (hok : (body L).1 = true) (hk : (body L).2.1 ≠ 0) :
    body (L.take (body L).2.2 ++ x :: Y) = body L ∧ sk false (L.take (body L).2.2 ++ x :: Y) = 0 := by
  cases L with
  | nil => exact absurd rfl hk
  | cons c r =>
    by_cases hl : lett c = true
    · have hb : body (c :: r) = (true, (if wordsL.contains ((c :: r).take (rn eith (c :: r))) then 3 else 1), rn eith (c :: r)) := by rw [body, if_pos hl]
      have hpos : 0 < rn eith (c :: r) := rn_pos (by simp [eith, hl])
      have ht : (c :: r).take (rn eith (c :: r)) = c :: r.take (rn eith (c :: r) - 1) := by
        rw [show rn eith (c :: r) = (rn eith (c :: r) - 1) + 1 from by omega, List.take_succ_cons]; rfl
      have hlen : ((c :: r).take (rn eith (c :: r))).length = rn eith (c :: r) := by rw [List.length_take]; have := rn_le eith (c :: r); omega
      have hrn : rn eith ((c :: r).take (rn eith (c :: r)) ++ x :: Y) = rn eith (c :: r) := by rw [rn_append eith x hx.e, rn_take]
      have htk : ((c :: r).take (rn eith (c :: r)) ++ x :: Y).take (rn eith (c :: r)) = (c :: r).take (rn eith (c :: r)) := List.take_left' hlen
      rw [hb]
      simp only
      refine ⟨?_, ?_⟩
      · rw [ht] at hrn htk ⊢
        rw [List.cons_append] at hrn htk ⊢
        rw [body, if_pos hl, hrn, htk]
      · rw [ht, List.cons_append]; exact sk_0 (lett_ok hl).1 (lett_ok hl).2
    · by_cases hd : digi c = true
      · have hb : body (c :: r) = if rn digi (c :: r) ≤ 18 ∧ (rn digi (c :: r) = 1 ∨ c ≠ 48) ∧ rn lett ((c :: r).drop (rn digi (c :: r))) = 0 then (true, 2, rn digi (c :: r)) else (false, 0, 0) := by rw [body, if_neg hl, if_pos hd]
        have hif : rn digi (c :: r) ≤ 18 ∧ (rn digi (c :: r) = 1 ∨ c ≠ 48) ∧ rn lett ((c :: r).drop (rn digi (c :: r))) = 0 := by
          rw [hb] at hok
          split at hok
          · assumption
          · cases hok
        rw [if_pos hif] at hb
        have hpos : 0 < rn digi (c :: r) := rn_pos hd
        have ht : (c :: r).take (rn digi (c :: r)) = c :: r.take (rn digi (c :: r) - 1) := by
          rw [show rn digi (c :: r) = (rn digi (c :: r) - 1) + 1 from by omega, List.take_succ_cons]; rfl
        have hlen : ((c :: r).take (rn digi (c :: r))).length = rn digi (c :: r) := by rw [List.length_take]; have := rn_le digi (c :: r); omega
        have hrn : rn digi ((c :: r).take (rn digi (c :: r)) ++ x :: Y) = rn digi (c :: r) := by rw [rn_append digi x hx.d, rn_take]
        have hdr : ((c :: r).take (rn digi (c :: r)) ++ x :: Y).drop (rn digi (c :: r)) = x :: Y := List.drop_left' hlen
        have hl0 : rn lett (x :: Y) = 0 := by rw [rn, if_neg (by rw [hx.l]; exact Bool.false_ne_true)]
        rw [hb]
        simp only
        refine ⟨?_, ?_⟩
        · rw [ht] at hrn hdr ⊢
          rw [List.cons_append] at hrn hdr ⊢
          rw [body, if_neg hl, if_pos hd, hrn, hdr, if_pos ⟨hif.1, hif.2.1, hl0⟩]
        · rw [ht, List.cons_append]; exact sk_0 (digi_ok hd).1 (digi_ok hd).2
      · have hb : body (c :: r) = if sg (c :: r) = 0 then (false, 0, 0) else (true, 4, sg (c :: r)) := by rw [body, if_neg hl, if_neg hd]
        have hne : sg (c :: r) ≠ 0 := by
          intro h0
          rw [hb, if_pos h0] at hok
          cases hok
        rw [if_neg hne] at hb
        rw [hb]
        simp only
        cases hp : pairsL.any (fun p => p.isPrefixOf (c :: r))
        · cases hs : signsL.contains c
          · exact absurd (sg_0 hp hs) hne
          · have h1 := sg_1 hp hs
            have hso := signs_ok c (by simpa using hs)
            rw [h1]
            simp only [List.take_succ_cons, List.take_zero, List.cons_append, List.nil_append]
            have h2 := sg_append hx Y [c] (by simp)
            rw [sg_1 (two_no [c] (by simp)) hs] at h2
            simp only [List.cons_append, List.nil_append] at h2
            exact ⟨by rw [body, if_neg hl, if_neg hd, h2]; rfl, sk_0 hso.2 hso.1⟩
        · have h1 := sg_2 hp
          obtain ⟨a, b, s, e, hm⟩ := pairs_any.1 hp
          simp only [List.cons.injEq] at e
          obtain ⟨rfl, rfl⟩ := e
          have hpo := pairs_snd _ hm c b rfl
          rw [h1]
          simp only [List.take_succ_cons, List.take_zero, List.cons_append, List.nil_append]
          have h2 : sg (c :: b :: x :: Y) = 2 := sg_2 (pairs_any.2 ⟨c, b, _, rfl, hm⟩)
          exact ⟨by rw [body, if_neg hl, if_neg hd, h2]; rfl, sk_0 hpo.2.2.2 hpo.2.2.1⟩
/-- A token's bytes. -/
def wd (L : List Int) (t : T3) : List Int := (L.take t.2.2.toNat).drop t.2.1.toNat
def km (L : List Int) (t : T3) : Int × Nat := (t.1, (wd L t).length)
theorem B_tx (s : ByteArray) (t : T3) : B (tx s t) = wd (B s) t := by rw [tx, B_extract, wd]
end Go.Proofs.YtfnbgbeinmekgaaGreatDoor.Tk
namespace Go.Proofs.YtfnbgbeinmekgaaGreatDoor.Sy
open Go
set_option linter.unusedVariables false
/-- What is wrong is told at a token. -/
def Ge {α : Type} (E : Env) (r : Rs α) : Prop := ∀ c p, r = .er c p → (c = 3 ∨ c = 4 ∨ c = 5) ∧ ∃ s, p = hr E s
section
variable {E : Env} {α β : Type}
theorem Ge.ok {x : α} {s : PS} : Ge E (.ok x s) := fun c p h => by cases h
theorem Ge.out : Ge E (.out : Rs α) := fun c p h => by cases h
theorem Ge.bind {r : Rs α} {g : α → PS → Rs β} (h : Ge E r) (k : ∀ x s, Ge E (g x s)) : Ge E (r.bind g) := by
  cases r with
  | ok x s => exact k x s
  | er c p => exact fun c' p' e => h c' p' (by cases e; rfl)
  | out => exact Ge.out
theorem Ge.er {c : Int} {s : PS} (hc : c = 3 ∨ c = 4 ∨ c = 5) : Ge E (Sy.er E c s : Rs α) := fun c' p h => by cases h; exact ⟨hc, s, rfl⟩
theorem Ge.want {w : List Int} {s : PS} : Ge E (want E w s) := by unfold Sy.want; split; exact Ge.ok; exact Ge.er (.inl rfl)
theorem Ge.knd {k : Int} {s : PS} : Ge E (knd E k s) := by unfold Sy.knd; split; exact Ge.ok; exact Ge.er (.inl rfl)
theorem Ge.deep {d : Int} {s : PS} : Ge E (deep E d s) := by unfold Sy.deep; split; exact Ge.er (.inr (.inl rfl)); exact Ge.ok
theorem Ge.put {fr : Int} {x : Ex} {s : PS} : Ge E (put E fr x s) := Ge.ok
theorem Ge.add {fr : Int} {x : St} {s : PS} : Ge E (add E fr x s) := by unfold Sy.add; split; exact Ge.er (.inr (.inr rfl)); exact Ge.ok
theorem Ge.endS {fr : Int} {x : St} {s : PS} : Ge E (endS E fr x s) := Ge.bind Ge.want fun _ _ => Ge.add
end
structure GeL (E : Env) (L : Lv) : Prop where
  row : ∀ v d s, Ge E (L.row v d s)
  rows : ∀ v d fr a s, Ge E (L.rows v d fr a s)
  expr : ∀ d s, Ge E (L.expr d s)
  unary : ∀ d s, Ge E (L.unary d s)
  prim : ∀ d s, Ge E (L.prim d s)
  args : ∀ fr nm d l s, Ge E (L.args fr nm d l s)
  stmts : ∀ d l s, Ge E (L.stmts d l s)
  stmt : ∀ d s, Ge E (L.stmt d s)
  branch : ∀ fr d s, Ge E (L.branch fr d s)
section
variable {E : Env} {L : Lv}
theorem Ge.call (h : GeL E L) {fr : Int} {nm : List Int} {d : Int} {s : PS} : Ge E (call E L fr nm d s) := Ge.bind Ge.want fun _ _ => h.args _ _ _ _ _
theorem Ge.block (h : GeL E L) {d : Int} {s : PS} : Ge E (block E L d s) := by
  refine Ge.bind ?_ fun _ _ => Ge.bind Ge.want fun _ _ => h.stmts _ _ _
  split
  · exact Ge.deep
  · exact Ge.ok
theorem Ge.decl (h : GeL E L) {d : Int} {s : PS} : Ge E (sDecl E L d s) := by
  refine Ge.bind Ge.knd fun _ s1 => ?_
  split
  · exact Ge.bind Ge.knd fun _ _ => Ge.bind Ge.want fun _ _ => Ge.ok
  · exact Ge.bind Ge.want fun _ _ => Ge.bind (h.expr _ _) fun _ _ => Ge.ok
theorem Ge.named (h : GeL E L) {d : Int} {s : PS} : Ge E (sNamed E L d s) := by
  refine Ge.bind Ge.knd fun _ s1 => ?_
  split
  · exact Ge.bind (Ge.call h) fun _ _ => Ge.ok
  split
  · exact Ge.bind (h.expr _ _) fun _ _ => Ge.bind Ge.want fun _ _ => Ge.bind Ge.want fun _ _ => Ge.bind (h.expr _ _) fun _ _ => Ge.ok
  · exact Ge.bind Ge.want fun _ _ => Ge.bind (h.expr _ _) fun _ _ => Ge.ok
theorem ge_step (h : GeL E L) : GeL E (stepL E L) := by
  constructor
  · intro v d s
    show Ge E (sRow E L v d s)
    unfold sRow
    split
    · exact h.unary _ _
    · exact Ge.bind (h.row _ _ _) fun _ _ => h.rows _ _ _ _ _
  · intro v d fr a s
    show Ge E (sRows E L v d fr a s)
    unfold sRows
    split
    · refine Ge.bind (h.row _ _ _) fun _ _ => Ge.bind Ge.put fun _ _ => ?_
      split
      · exact Ge.ok
      · exact h.rows _ _ _ _ _
    · exact Ge.ok
  · intro d s
    exact Ge.bind Ge.deep fun _ _ => h.row _ _ _
  · intro d s
    show Ge E (sUnary E L d s)
    unfold sUnary
    split
    · exact Ge.bind Ge.deep fun _ _ => Ge.bind (h.unary _ _) fun _ _ => Ge.put
    · exact h.prim _ _
  · intro d s
    show Ge E (sPrim E L d s)
    unfold sPrim
    split
    · exact Ge.put
    split
    · exact Ge.put
    split
    · exact Ge.put
    split
    · exact Ge.put
    split
    · exact Ge.bind (h.expr _ _) fun _ _ => Ge.bind Ge.want fun _ _ => Ge.ok
    · refine Ge.bind Ge.knd fun _ _ => ?_
      split
      · exact Ge.bind (h.expr _ _) fun _ _ => Ge.bind Ge.want fun _ _ => Ge.put
      split
      · exact Ge.call h
      · exact Ge.put
  · intro fr nm d l s
    show Ge E (sArgs E L fr nm d l s)
    unfold sArgs
    split
    · exact Ge.put
    · refine Ge.bind ?_ fun _ _ => Ge.bind (h.expr _ _) fun _ _ => ?_
      · split
        · exact Ge.ok
        · exact Ge.want
      · split
        · exact h.args _ _ _ _ _
        · exact Ge.er (.inl rfl)
  · intro d l s
    show Ge E (sStmts E L d l s)
    unfold sStmts
    split
    · exact Ge.ok
    · exact Ge.bind (h.stmt _ _) fun _ _ => h.stmts _ _ _
  · intro d s
    show Ge E (sStmt E L d s)
    unfold sStmt
    split
    · exact Ge.bind (Ge.decl h) fun _ _ => Ge.endS
    split
    · exact h.branch _ _ _
    split
    · exact Ge.bind (h.expr _ _) fun _ _ => Ge.bind (Ge.block h) fun _ _ => Ge.add
    split
    · exact Ge.endS
    split
    · exact Ge.endS
    split
    · split
      · exact Ge.endS
      · exact Ge.bind (h.expr _ _) fun _ _ => Ge.endS
    split
    · exact Ge.bind (h.expr _ _) fun _ _ => Ge.endS
    · exact Ge.bind (Ge.named h) fun _ _ => Ge.endS
  · intro fr d s
    refine Ge.bind (h.expr _ _) fun _ _ => Ge.bind (Ge.block h) fun _ _ => ?_
    split
    · split
      · exact Ge.bind Ge.deep fun _ _ => Ge.bind (h.branch _ _ _) fun _ _ => Ge.add
      · exact Ge.bind (Ge.block h) fun _ _ => Ge.add
    · exact Ge.add
theorem ge_lv : ∀ n, GeL E (lv E n)
  | 0 => ⟨fun _ _ _ => Ge.out, fun _ _ _ _ _ => Ge.out, fun _ _ => Ge.out, fun _ _ => Ge.out, fun _ _ => Ge.out, fun _ _ _ _ _ => Ge.out, fun _ _ _ => Ge.out, fun _ _ => Ge.out, fun _ _ _ => Ge.out⟩
  | n + 1 => ge_step (ge_lv n)
theorem Ge.prms : ∀ n l s, Ge E (prms E n l s) := by
  intro n
  induction n with
  | zero => intro l s; exact Ge.out
  | succ n ih =>
    intro l s
    unfold Sy.prms
    split
    · exact Ge.ok
    · refine Ge.bind ?_ fun _ _ => Ge.bind Ge.knd fun _ _ => ?_
      · split
        · exact Ge.ok
        · exact Ge.want
      · split
        · exact ih _ _
        · exact Ge.er (.inl rfl)
theorem Ge.fct {n : Nat} {s : PS} : Ge E (fct E n s) := by
  refine Ge.bind ?_ fun _ _ => Ge.bind Ge.want fun _ _ => Ge.bind Ge.knd fun _ _ => Ge.bind Ge.want fun _ _ => Ge.bind (Ge.prms _ _ _) fun _ _ => Ge.bind ?_ fun _ _ => Ge.bind (Ge.block (ge_lv n)) fun _ _ => Ge.ok
  · split
    · exact Ge.er (.inr (.inr rfl))
    · exact Ge.ok
  · split <;> exact Ge.ok
theorem Ge.fcts {m : Nat} : ∀ n s, Ge E (fcts E m n s) := by
  intro n
  induction n with
  | zero => intro s; exact Ge.out
  | succ n ih =>
    intro s
    unfold Sy.fcts
    split
    · exact Ge.ok
    · exact Ge.bind Ge.fct fun _ _ => ih _
end
/-- What is wrong, and where. -/
theorem prs_er {L : List Int} {c p : Int} (h : prs L = .er c p) : c ≠ 0 ∧ 0 ≤ p ∧ p ≤ (L.length : Int) := by
  unfold prs at h
  split at h
  · rename_i h0
    cases h
    refine ⟨h0, ?_⟩
    unfold Tk.allT
    split
    · exact ⟨Int.le_refl _, Int.natCast_nonneg _⟩
    · have hb : ∀ (f a : Nat) (L : List Int) (ts : List Tk.T3) (p : Int), Tk.als f a L = (ts, some p) → (a : Int) ≤ p ∧ p ≤ ((a + L.length : Nat) : Int) := by
        intro f
        induction f with
        | zero => intro a L ts p h; cases h; omega
        | succ f ih =>
          intro a L ts p h
          have hle := Tk.nx_le L
          cases hok : (Tk.nx L).ok with
          | false =>
            rw [Tk.als_bad hok] at h
            cases h
            omega
          | true =>
            by_cases hk : (Tk.nx L).k = 0
            · rw [Tk.als_end hok hk] at h; cases h
            · rw [Tk.als_more hok hk] at h
              simp only [Prod.mk.injEq] at h
              have := ih (a + (Tk.nx L).n + (Tk.nx L).m) (L.drop ((Tk.nx L).n + (Tk.nx L).m)) _ p (by rw [← h.2])
              rw [List.length_drop] at this
              omega
      split
      · simp
      · rename_i e
        have := hb _ _ _ _ _ e
        simp only
        omega
  · obtain ⟨hc, s, rfl⟩ := Ge.fcts _ _ c p h
    refine ⟨by omega, ?_⟩
    unfold hr
    split
    · rename_i t ht
      have := Tk.all_bounds (L := L) (t := t) (List.mem_of_getElem? ht)
      omega
    · omega
theorem fcts_fn {E : Env} {m : Nat} : ∀ n s x t, fcts E m n s = .ok x t → t.fn ≠ [] := by
  intro n
  induction n with
  | zero => intro s x t h; cases h
  | succ n ih =>
    intro s x t h
    unfold fcts at h
    split at h
    · rename_i q; cases h; exact q.1
    · obtain ⟨_, s1, h1, h2⟩ := bind_inv h
      exact ih _ _ _ h2
theorem prs_fn {L : List Int} {x : Unit} {S : PS} (h : prs L = .ok x S) : S.fn ≠ [] := by
  unfold prs at h
  split at h
  · cases h
  · exact fcts_fn _ _ _ _ h
end Go.Proofs.YtfnbgbeinmekgaaGreatDoor.Sy
namespace Go.Proofs.YtfnbgbeinmekgaaGreatDoor.Tk
open Go Fw
set_option linter.unusedVariables false
theorem als_each (L : List Int) : ∀ (ts : List T3) (f a : Nat), als f a (L.drop a) = (ts, none) → ∀ t ∈ ts, ∃ b : Nat, (nx (L.drop b)).ok = true ∧ t = ((nx (L.drop b)).k, ((b + (nx (L.drop b)).n : Nat) : Int), ((b + (nx (L.drop b)).n + (nx (L.drop b)).m : Nat) : Int)) := by
  intro ts
  induction ts with
  | nil => intro f a h t ht; cases ht
  | cons x r ih =>
    intro f a h t ht
    obtain ⟨h1, h2, h3⟩ := als_cons h
    rcases List.mem_cons.1 ht with ht | ht
    · exact ⟨a, h1, by rw [ht, h2]⟩
    · rcases h3 with ⟨_, rfl⟩ | ⟨_, g, _, h4⟩
      · cases ht
      · rw [List.drop_drop] at h4
        rw [Nat.add_assoc] at h4
        exact ih _ _ h4 t ht
theorem als_last : ∀ (ts : List T3) (f a : Nat) (L : List Int), als f a L = (ts, none) → ∀ (i : Nat) (t : T3), ts[i]? = some t → (i + 1 = ts.length ↔ t.1 = 0) := by
  intro ts
  induction ts with
  | nil => intro f a L h i t ht; simp at ht
  | cons x r ih =>
    intro f a L h i t ht
    obtain ⟨h1, h2, h3⟩ := als_cons h
    cases i with
    | zero =>
      simp only [List.getElem?_cons_zero, Option.some.injEq] at ht
      subst ht
      rcases h3 with ⟨hk, rfl⟩ | ⟨hk, g, _, h4⟩
      · simp [h2, hk]
      · have : r ≠ [] := fun e => by rw [e] at h4; exact als_ne h4
        have hl : 0 < r.length := by cases r with | nil => exact (this rfl).elim | cons => simp
        rw [h2]
        simp only [List.length_cons]
        constructor
        · intro e; omega
        · intro e; exact (hk e).elim
    | succ i =>
      simp only [List.getElem?_cons_succ] at ht
      rcases h3 with ⟨hk, rfl⟩ | ⟨hk, g, _, h4⟩
      · simp at ht
      · have := ih _ _ _ h4 i t ht
        simp only [List.length_cons]
        rw [← this]
        omega
theorem rn_all' (p : Int → Bool) : ∀ L : List Int, ∀ c ∈ L.take (rn p L), p c = true := by
  intro L
  induction L with
  | nil => intro c hc; simp [rn] at hc
  | cons x r ih =>
    intro c hc
    unfold rn at hc
    split at hc
    · rename_i h
      rw [List.take_succ_cons] at hc
      rcases List.mem_cons.1 hc with rfl | hc
      · exact h
      · exact ih c hc
    · simp at hc
theorem body_kind (L : List Int) : 0 ≤ (body L).2.1 ∧ (body L).2.1 ≤ 4 := by
  unfold body
  split
  · decide
  · split
    · simp only; split <;> omega
    · split
      · split <;> simp
      · split <;> simp
theorem body_num {L : List Int} (h : (body L).2.1 = 2) : (body L).2.2 ≤ 18 ∧ ∀ c ∈ L.take (body L).2.2, 48 ≤ c ∧ c ≤ 57 := by
  unfold body at h ⊢
  split at h
  · simp at h
  · split at h
    · simp only at h; split at h <;> omega
    · rename_i hl
      rw [if_neg hl]
      split at h
      · rename_i hd
        rw [if_pos hd]
        split at h
        · rename_i hc
          rw [if_pos hc]
          refine ⟨hc.1, fun c hm => ?_⟩
          have := rn_all' digi _ c hm
          simp only [digi, Bool.and_eq_true, decide_eq_true_eq] at this
          exact this
        · simp at h
      · split at h <;> simp at h
end Go.Proofs.YtfnbgbeinmekgaaGreatDoor.Tk
namespace Go.Proofs.YtfnbgbeinmekgaaGreatDoor.Sy
open Go Fw
set_option linter.unusedVariables false
theorem wd_take {L : List Int} {b n m : Nat} : (L.take (b + n + m)).drop (b + n) = ((L.drop b).drop n).take m := by
  rw [List.drop_take, List.drop_drop]
  congr 1; omega
/-- A token's bytes. -/
def tkw (L : List Int) (t : Tk.T3) : List Int := (L.take t.2.2.toNat).drop t.2.1.toNat
/-- What a text's tokens are like. -/
structure TOk (L : List Int) : Prop where
  size : L.length ≤ 20000
  len : (Tk.allT L).1.length ≤ L.length + 1
  last : ∀ (i : Nat) t, (Tk.allT L).1[i]? = some t → i + 1 = (Tk.allT L).1.length → t.1 = 0
  lastw : ∀ (i : Nat) t, (Tk.allT L).1[i]? = some t → i + 1 = (Tk.allT L).1.length → tkw L t = []
  rng : ∀ (i : Nat) t, (Tk.allT L).1[i]? = some t → (0 ≤ t.1 ∧ t.1 ≤ 4) ∧ 0 ≤ t.2.1 ∧ t.2.1 ≤ t.2.2 ∧ t.2.2 ≤ L.length
  num : ∀ (i : Nat) t, (Tk.allT L).1[i]? = some t → t.1 = 2 → (tkw L t).length ≤ 18 ∧ ∀ c ∈ tkw L t, 48 ≤ c ∧ c ≤ 57
  ne : (Tk.allT L).1 ≠ []
  k0 : ∀ (i : Nat) t, (Tk.allT L).1[i]? = some t → t.1 = 0 → i + 1 = (Tk.allT L).1.length
theorem tok_of {L : List Int} (h0 : (Tk.allT L).2.2 = 0) : TOk L := by
  obtain ⟨hL, hals, _⟩ := Tk.all_ok h0
  have hlen := Tk.all_len hL
  have hbd := fun t => Tk.all_bounds (L := L) (t := t)
  have hls := Tk.als_last _ _ _ _ hals
  have heach := Tk.als_each L _ _ 0 (by rw [List.drop_zero]; exact hals)
  refine ⟨by omega, by omega, fun i t ht hi => (hls i t ht).1 hi, fun i t ht hi => ?_, fun i t ht => ?_, fun i t ht hk => ?_, fun e => (by rw [e] at hals; exact Tk.als_ne hals), fun i t ht hk => (hls i t ht).2 hk⟩
  · have hk := (hls i t ht).1 hi
    obtain ⟨b, h1, h2⟩ := heach t (List.mem_of_getElem? ht)
    rw [h2] at hk
    obtain ⟨hm, _⟩ := Tk.nx_end h1 hk
    rw [tkw, h2]
    simp only [hm]
    rw [Int.toNat_natCast, Int.toNat_natCast]
    exact List.drop_eq_nil_of_le (by rw [List.length_take]; omega)
  · obtain ⟨b, h1, h2⟩ := heach t (List.mem_of_getElem? ht)
    have := hbd t (List.mem_of_getElem? ht)
    refine ⟨?_, by omega, by omega, by omega⟩
    rw [h2]
    exact Tk.body_kind _
  · obtain ⟨b, h1, h2⟩ := heach t (List.mem_of_getElem? ht)
    rw [h2] at hk
    obtain ⟨hl, hd⟩ := Tk.body_num (L := (L.drop b).drop (Tk.nx (L.drop b)).n) hk
    have e : tkw L t = ((L.drop b).drop (Tk.nx (L.drop b)).n).take (Tk.nx (L.drop b)).m := by
      rw [tkw, h2]
      simp only [Int.toNat_natCast]
      exact wd_take
    refine ⟨?_, fun c hc => hd c (by rw [e] at hc; exact hc)⟩
    rw [e, List.length_take]
    exact Nat.le_trans (Nat.min_le_left _ _) hl
end Go.Proofs.YtfnbgbeinmekgaaGreatDoor.Sy
namespace Go.Proofs.YtfnbgbeinmekgaaGreatDoor.Sy
open Go
set_option linter.unusedVariables false
section
variable {M : Mv} {s s' : PS}
theorem fct_st {E : Env} {n : Nat} {t : PS} {x : Unit} (e : fct E n s = .ok x t) : s.i + 1 ≤ t.i ∧ t.fn.length = s.fn.length + 1 ∧ s.st.length ≤ t.st.length ∧ t.st.length + s.i ≤ s.st.length + t.i := by
  obtain ⟨hl, nm, s2, s3, ps, s4, ty, s5, bd, s6, h2, h3, h4, h5, q, h6, rfl⟩ := fct_inv e
  have u := ((((adv_up s).trans (knd_up h2)).trans (want_up h3)).trans (prms_up _ _ _ _ _ h4))
  have u5 : Up 0 0 0 s4 s5 := by
    rcases h5 with ⟨_, _, rfl⟩ | ⟨_, _, rfl⟩
    · exact (adv_up _).le (by omega) (by omega) (by omega)
    · exact Up.refl _
  obtain ⟨u6, u7, u8, u9, u10⟩ := (u.trans u5).trans (block_up (bd_lv n) h6)
  exact ⟨by simp only; omega, by simp [u8], u9, by simp only; omega⟩
theorem fcts_st {E : Env} {m : Nat} : ∀ n s t x, fcts E m n s = .ok x t → s.i ≤ t.i ∧ s.fn.length ≤ t.fn.length ∧ s.st.length ≤ t.st.length ∧ t.st.length + s.i ≤ s.st.length + t.i := by
  intro n
  induction n with
  | zero => intro s t x h; cases h
  | succ n ih =>
    intro s t x h
    unfold fcts at h
    split at h
    · cases h; omega
    · obtain ⟨_, s1, h1, h2⟩ := bind_inv h
      have := fct_st h1
      have := ih _ _ _ h2
      omega
end
section
variable {E : Env}
theorem stmts_end : ∀ n d l s x t, (lv E n).stmts d l s = .ok x t → ∃ u, wd E u = wRcur ∧ t.i = u.i + 1 := by
  intro n
  induction n with
  | zero => intro d l s x t h; cases h
  | succ n ih =>
    intro d l s x t h
    have h : sStmts E (lv E n) d l s = .ok x t := h
    unfold sStmts at h
    split at h
    · rename_i q; cases h; exact ⟨s, q, rfl⟩
    · obtain ⟨_, s1, h1, h2⟩ := bind_inv h
      exact ih _ _ _ _ _ h2
theorem fct_end {n : Nat} {s t : PS} {x : Unit} (h : fct E n s = .ok x t) : ∃ u, wd E u = wRcur ∧ t.i = u.i + 1 := by
  obtain ⟨hl, nm, s2, s3, ps, s4, ty, s5, bd, s6, h2, h3, h4, h5, q, h6, rfl⟩ := fct_inv h
  obtain ⟨_, s7, h7, h8⟩ := bind_inv h6
  obtain ⟨_, s8, h9, h10⟩ := bind_inv h8
  obtain ⟨u, hu, hi⟩ := stmts_end _ _ _ _ _ _ h10
  exact ⟨u, hu, hi⟩
theorem fcts_end {m : Nat} : ∀ n s x t, fcts E m n s = .ok x t → (t = s ∨ ∃ u, wd E u = wRcur ∧ t.i = u.i + 1) ∧ t.fn ≠ [] ∧ kd E t = 0 := by
  intro n
  induction n with
  | zero => intro s x t h; cases h
  | succ n ih =>
    intro s x t h
    unfold fcts at h
    split at h
    · rename_i q; cases h; exact ⟨.inl rfl, q⟩
    · obtain ⟨_, s1, h1, h2⟩ := bind_inv h
      obtain ⟨h3, h4⟩ := ih _ _ _ h2
      refine ⟨.inr ?_, h4⟩
      rcases h3 with rfl | h3
      · exact fct_end h1
      · exact h3
end
/-- Facts of a text's tokens. -/
structure Txt (L : List Int) : Prop where
  len : L.length ≤ 20000
  als : Tk.als (L.length + 1) 0 L = ((Tk.allT L).1, none)
theorem txt_of {L : List Int} {S : PS} (h : prs L = .ok () S) : Txt L ∧ (Tk.allT L).2 = (0, 0) ∧ fcts (envOf L) (fuel L) (fuel L) ⟨0, [], [], []⟩ = .ok () S := by
  unfold prs at h
  split at h
  · cases h
  · rename_i q
    have q : (Tk.allT L).2.2 = 0 := Decidable.not_not.1 q
    obtain ⟨h1, h2, h3⟩ := Tk.all_ok q
    exact ⟨⟨h1, h2⟩, Prod.ext h3 q, h⟩
theorem Txt.ne {L : List Int} (h : Txt L) : (Tk.allT L).1 ≠ [] := fun e => by have := h.als; rw [e] at this; exact Tk.als_ne this
theorem Txt.last {L : List Int} (h : Txt L) {s : PS} (hs : (envOf L).T.length ≤ s.i + 1) : kd (envOf L) s = 0 ∧ wd (envOf L) s = [] := by
  rcases Nat.lt_or_ge s.i (envOf L).T.length with h1 | h1
  · obtain ⟨t, ht⟩ : ∃ t, (envOf L).T[s.i]? = some t := ⟨_, List.getElem?_eq_getElem h1⟩
    have hk := (Tk.als_last _ _ _ _ h.als s.i t ht).1 (by show s.i + 1 = (envOf L).T.length; omega)
    refine ⟨by unfold kd; rw [ht]; exact hk, ?_⟩
    obtain ⟨b, h2, h3⟩ := Tk.als_each L _ _ 0 (by rw [List.drop_zero]; exact h.als) t (List.mem_of_getElem? ht)
    rw [h3] at hk
    obtain ⟨hm, _⟩ := Tk.nx_end h2 hk
    have ht' : (Tk.allT L).1[s.i]? = some t := ht
    show (envOf L).W[s.i]?.getD [] = []
    show (List.map (fun t : Tk.T3 => (L.take t.2.2.toNat).drop t.2.1.toNat) (Tk.allT L).1)[s.i]?.getD [] = []
    rw [List.getElem?_map, ht', h3]
    simp only [Option.map_some, Option.getD_some, hm, Int.toNat_natCast]
    exact List.drop_eq_nil_of_le (by rw [List.length_take]; omega)
  · refine ⟨by unfold kd; rw [List.getElem?_eq_none h1], ?_⟩
    unfold wd
    rw [List.getElem?_eq_none (by have : (envOf L).W.length = (envOf L).T.length := by simp [envOf]
                                  omega)]
    rfl
theorem Txt.k0 {L : List Int} (h : Txt L) {s : PS} (hs : kd (envOf L) s = 0) : (envOf L).T.length ≤ s.i + 1 := by
  rcases Nat.lt_or_ge s.i (envOf L).T.length with h1 | h1
  · obtain ⟨t, ht⟩ : ∃ t, (envOf L).T[s.i]? = some t := ⟨_, List.getElem?_eq_getElem h1⟩
    have : t.1 = 0 := by unfold kd at hs; rw [ht] at hs; exact hs
    have := (Tk.als_last _ _ _ _ h.als s.i t ht).2 this
    have e : (envOf L).T.length = (Tk.allT L).1.length := rfl
    omega
  · omega
/-- Where a program's parse ends: at its last token. -/
theorem prs_end {L : List Int} {S : PS} (h : prs L = .ok () S) : S.i + 1 = (envOf L).T.length ∧ S.fn ≠ [] := by
  obtain ⟨ht, h0, hf⟩ := txt_of h
  obtain ⟨h1, h2, h3⟩ := fcts_end _ _ _ _ hf
  refine ⟨?_, h2⟩
  have h4 := ht.k0 h3
  rcases h1 with rfl | ⟨u, hu, h5⟩
  · exact (h2 rfl).elim
  · rcases Nat.lt_or_ge (u.i + 1) (envOf L).T.length with h6 | h6
    · omega
    · have := (ht.last h6).2
      rw [hu] at this
      cases this
end Go.Proofs.YtfnbgbeinmekgaaGreatDoor.Sy
namespace Go.Proofs.YtfnbgbeinmekgaaGreatDoor.Sy
open Go
set_option linter.unusedVariables false
/-- Where a token begins, and ends. -/
def hI (E : Env) (i : Nat) : Int := match E.T[i]? with | some t => t.2.1 | none => 0
def eI (E : Env) (i : Nat) : Int := match E.T[i]? with | some t => t.2.2 | none => 0
/-- Tokens stand one behind the other. -/
structure Mono (E : Env) (N : Nat) : Prop where
  W : E.W.length = N
  T : E.T.length = N
  le : ∀ i, i < N → hI E i ≤ eI E i
  nx : ∀ i, i + 1 < N → eI E i ≤ hI E (i + 1)
section
variable {E : Env} {N : Nat}
theorem Mono.hh (M : Mono E N) {i : Nat} : ∀ j, i ≤ j → j < N → hI E i ≤ hI E j := by
  intro j
  induction j with
  | zero => intro h _; rw [show i = 0 by omega]; exact Int.le_refl _
  | succ j ih =>
    intro h hj
    rcases Nat.lt_or_ge j i with h1 | h1
    · rw [show i = j + 1 by omega]; exact Int.le_refl _
    · have := ih h1 (by omega); have := M.le j (by omega); have := M.nx j hj; omega
theorem Mono.he (M : Mono E N) {i j : Nat} (h : i ≤ j) (hj : j < N) : hI E i ≤ eI E j := by
  have := M.hh j h hj; have := M.le j hj; omega
theorem Mono.ee (M : Mono E N) {i j : Nat} (h : i ≤ j) (hj : j < N) : eI E i ≤ eI E j := by
  rcases Nat.lt_or_ge i j with h1 | h1
  · have := M.nx i (by omega); have := M.he (i := i + 1) (j := j) (by omega) hj; omega
  · rw [show i = j by omega]; exact Int.le_refl _
end
/-- An expression's parts. -/
def prt (x : Ex) : List Int := if x.k = 5 ∨ x.k = 8 then [x.a] else if x.k = 9 then [x.a, x.b] else if x.k = 6 then x.l else []
/-- Parts are ahead of j, within f to e, each behind the one ahead of it. -/
def Chain (ex : List Ex) (j : Nat) (f e : Int) : Int → List Int → Prop
  | _, [] => True
  | last, k :: r => ∃ (m : Nat) (y : Ex), k = (m : Int) ∧ m < j ∧ ex[m]? = some y ∧ f ≤ y.f ∧ y.e ≤ e ∧ last ≤ y.f ∧ Chain ex j f e y.e r
theorem Chain.mono {ex ex' : List Ex} {j j' : Nat} {f e e' : Int} (hx : ∀ (m : Nat) y, m < j → ex[m]? = some y → ex'[m]? = some y) (hj : j ≤ j') (he : e ≤ e') : ∀ {l : List Int} {last : Int}, Chain ex j f e last l → Chain ex' j' f e' last l := by
  intro l
  induction l with
  | nil => intro last _; trivial
  | cons k r ih =>
    rintro last ⟨m, y, rfl, h1, h2, h3, h4, h5, h6⟩
    exact ⟨m, y, rfl, by omega, hx m y h1 h2, h3, by omega, h5, ih h6⟩
def GdE (ex : List Ex) (j : Nat) (x : Ex) : Prop := Chain ex j x.f x.e x.f (prt x)
/-- Expressions were put, good ones. -/
structure Xs (s t : PS) : Prop where
  pre : ∃ n, t.ex = s.ex ++ n
  gd : ∀ j x, s.ex.length ≤ j → t.ex[j]? = some x → GdE t.ex j x
theorem pre_get {s t : PS} (h : ∃ n, t.ex = s.ex ++ n) {m : Nat} {y : Ex} (hy : s.ex[m]? = some y) : t.ex[m]? = some y := by
  obtain ⟨n, e⟩ := h
  rw [e, List.getElem?_append_left (List.getElem?_eq_some_iff.1 hy).1]; exact hy
theorem Xs.refl (s : PS) : Xs s s := ⟨⟨[], by simp⟩, fun j x hj hx => by rw [List.getElem?_eq_none hj] at hx; cases hx⟩
theorem Xs.trans {s t u : PS} (h : Xs s t) (g : Xs t u) : Xs s u := by
  refine ⟨?_, fun j x hj hx => ?_⟩
  · obtain ⟨n, e⟩ := h.pre
    obtain ⟨n', e'⟩ := g.pre
    exact ⟨n ++ n', by rw [e', e, List.append_assoc]⟩
  · rcases Nat.lt_or_ge j t.ex.length with h1 | h1
    · obtain ⟨y, hy⟩ : ∃ y, t.ex[j]? = some y := ⟨_, List.getElem?_eq_getElem h1⟩
      have := pre_get g.pre hy
      rw [this] at hx
      cases hx
      exact (h.gd j _ hj hy).mono (fun m y _ hm => pre_get g.pre hm) (Nat.le_refl _) (Int.le_refl _)
    · exact g.gd j x h1 hx
/-- A state that has the same expressions. -/
theorem Xs.same {s t u : PS} (h : Xs s t) (e : u.ex = t.ex) : Xs s u := ⟨by rw [e]; exact h.pre, fun j x hj hx => by rw [e] at hx ⊢; exact h.gd j x hj hx⟩
theorem Xs.from {s t u : PS} (h : Xs s t) (e : u.ex = s.ex) : Xs u t := ⟨by rw [e]; exact h.pre, fun j x hj hx => h.gd j x (by rw [← e]; exact hj) hx⟩
/-- An expression of a state, from a place to another. -/
def At_ (t : PS) (f e : Int) (a : Int) : Prop := ∃ (m : Nat) (x : Ex), a = (m : Int) ∧ t.ex[m]? = some x ∧ f ≤ x.f ∧ x.e ≤ e
theorem At_.up {s t : PS} {f f' e e' a : Int} (h : At_ s f e a) (k : Xs s t) (hf : f' ≤ f) (he : e ≤ e') : At_ t f' e' a := by
  obtain ⟨m, x, rfl, h1, h2, h3⟩ := h
  exact ⟨m, x, rfl, pre_get k.pre h1, by omega, by omega⟩
section
variable {E : Env} {N : Nat} {L : Lv}
theorem adv_ex (s : PS) : (adv s).ex = s.ex := rfl
theorem want_ex {w : List Int} {s t : PS} {x : Unit} (h : want E w s = .ok x t) : t.ex = s.ex ∧ t.i = s.i + 1 ∧ t.st = s.st := by
  unfold want at h; split at h <;> cases h; exact ⟨rfl, rfl, rfl⟩
theorem knd_ex {k : Int} {s t : PS} {x : List Int} (h : knd E k s = .ok x t) : t.ex = s.ex ∧ t.i = s.i + 1 ∧ t.st = s.st := by
  unfold knd at h; split at h <;> cases h; exact ⟨rfl, rfl, rfl⟩
end
end Go.Proofs.YtfnbgbeinmekgaaGreatDoor.Sy
