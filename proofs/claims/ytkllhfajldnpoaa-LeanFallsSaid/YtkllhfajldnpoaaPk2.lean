/- What the proofs of this seat lean on, part 2. -/
import Derived.Test.YtkllhfajldnpoaaPk1
import Derived.Test.YtkllhfajldnpoaaProg
namespace Go.Proofs.Ytkllhfajldnpoaa.Tk
open Go Fw
set_option linter.unusedVariables false
def lett (c : Int) : Bool := c == 95 || (decide (97 ≤ c) && decide (c ≤ 122)) || (decide (65 ≤ c) && decide (c ≤ 90))
def digi (c : Int) : Bool := decide (48 ≤ c) && decide (c ≤ 57)
def eith (c : Int) : Bool := lett c || digi c
def blan (c : Int) : Bool := c == 32 || c == 9 || c == 10 || c == 13
/-- How many bytes are blanks, comments among them; true: within a comment. -/
def sk : Bool → List Int → Nat
  | _, [] => 0
  | false, c :: r => if blan c then sk false r + 1 else if c = 35 then sk true r + 1 else 0
  | true, c :: r => if c = 10 then sk false r + 1 else sk true r + 1
/-- How many bytes of a kind stand ahead. -/
def rn (p : Int → Bool) : List Int → Nat
  | [] => 0
  | c :: r => if p c then rn p r + 1 else 0
def pairsL : List (List Int) := [[61, 61], [33, 61], [60, 61], [62, 61], [38, 38], [124, 124]]
def signsL : List Int := [43, 45, 42, 47, 37, 60, 62, 33, 61, 40, 41, 123, 125, 91, 93, 44, 59]
def wordsL : List (List Int) := [[98, 114, 101, 97, 107], [99, 111, 110, 116, 105, 110, 117, 101], [101, 108, 115, 101], [102, 97, 108, 115, 101], [102, 117, 110, 99], [105, 102], [105, 110, 116], [112, 114, 105, 110, 116], [114, 101, 97, 100], [114, 101, 116, 117, 114, 110], [116, 114, 117, 101], [118, 97, 114], [119, 104, 105, 108, 101]]
def strOf (l : List Int) : ByteArray := ⟨(l.map fun c => c.toNat.toUInt8).toArray⟩
def wordsB : List ByteArray := wordsL.map strOf
def pairsB : List ByteArray := pairsL.map strOf
def sg (L : List Int) : Nat := if pairsL.any (fun p => p.isPrefixOf L) then 2 else match L with | [] => 0 | c :: _ => if signsL.contains c then 1 else 0
/-- The token at a text's beginning: is it one; its kind; how many bytes. -/
def body : List Int → Bool × Int × Nat
  | [] => (true, 0, 0)
  | c :: r =>
    if lett c then (true, (if wordsL.contains ((c :: r).take (rn eith (c :: r))) then 3 else 1), rn eith (c :: r))
    else if digi c then
      if rn digi (c :: r) ≤ 18 ∧ (rn digi (c :: r) = 1 ∨ c ≠ 48) ∧ rn lett ((c :: r).drop (rn digi (c :: r))) = 0 then (true, 2, rn digi (c :: r)) else (false, 0, 0)
    else if sg (c :: r) = 0 then (false, 0, 0) else (true, 4, sg (c :: r))
structure Tok where
  ok : Bool
  k : Int
  n : Nat
  m : Nat
def nx (L : List Int) : Tok := let b := body (L.drop (sk false L)); ⟨b.1, b.2.1, sk false L, b.2.2⟩
theorem sk_le : ∀ (L : List Int) (b : Bool), sk b L ≤ L.length := by
  intro L
  induction L with
  | nil => intro b; cases b <;> simp [sk]
  | cons c r ih =>
    intro b
    have h1 := ih true
    have h2 := ih false
    cases b <;> simp only [sk, List.length_cons] <;> split <;> (try split) <;> omega
theorem rn_le (p : Int → Bool) : ∀ L : List Int, rn p L ≤ L.length := by
  intro L
  induction L with
  | nil => simp [rn]
  | cons c r ih => simp only [rn, List.length_cons]; split <;> omega
theorem sg_2 {L : List Int} (h : pairsL.any (fun p => p.isPrefixOf L) = true) : sg L = 2 := by unfold sg; rw [if_pos h]
theorem sg_1 {c : Int} {r : List Int} (h : pairsL.any (fun p => p.isPrefixOf (c :: r)) = false) (h1 : signsL.contains c = true) : sg (c :: r) = 1 := by
  unfold sg; rw [if_neg (by rw [h]; exact Bool.false_ne_true)]; simp only; rw [if_pos h1]
theorem sg_0 {c : Int} {r : List Int} (h : pairsL.any (fun p => p.isPrefixOf (c :: r)) = false) (h1 : signsL.contains c = false) : sg (c :: r) = 0 := by
  unfold sg; rw [if_neg (by rw [h]; exact Bool.false_ne_true)]; simp only; rw [if_neg (by rw [h1]; exact Bool.false_ne_true)]
theorem sg_le (L : List Int) : sg L ≤ L.length := by
  unfold sg
  split
  · rename_i h
    obtain ⟨p, hp, hq⟩ := List.any_eq_true.1 h
    have h1 := (List.isPrefixOf_iff_prefix.1 hq).length_le
    have h2 : ∀ p ∈ pairsL, p.length = 2 := by decide
    have := h2 p hp
    omega
  · split
    · simp
    · rename_i c r
      split <;> simp
theorem body_le (L : List Int) : (body L).2.2 ≤ L.length := by
  unfold body
  split
  · simp
  · rename_i c r
    split
    · exact rn_le _ _
    · split
      · split
        · exact rn_le _ _
        · simp
      · split
        · simp
        · exact sg_le _
theorem nx_le (L : List Int) : (nx L).n + (nx L).m ≤ L.length := by
  have h1 := body_le (L.drop (sk false L))
  have h2 := sk_le L false
  rw [List.length_drop] at h1
  show sk false L + (body (L.drop (sk false L))).2.2 ≤ L.length
  omega
theorem rn_pos {p : Int → Bool} {c : Int} {r : List Int} (h : p c = true) : 0 < rn p (c :: r) := by rw [rn, if_pos h]; omega
theorem body_pos {L : List Int} (h1 : (body L).1 = true) (h0 : L ≠ []) : 0 < (body L).2.2 ∧ (body L).2.1 ≠ 0 := by
  revert h1
  unfold body
  cases L with
  | nil => exact absurd rfl h0
  | cons c r =>
    simp only
    split
    · rename_i h
      intro _
      refine ⟨rn_pos (by simp [eith, h]), ?_⟩
      simp only
      split <;> decide
    · split
      · rename_i h
        split
        · intro _; exact ⟨rn_pos h, (by show (2 : Int) ≠ 0; decide)⟩
        · intro h1; cases h1
      · split
        · intro h1; cases h1
        · intro _; exact ⟨by simp only; omega, (by show (4 : Int) ≠ 0; decide)⟩
theorem drop_at (s : ByteArray) (i : Nat) (h : i < s.size) : (B s).drop i = bt s i :: (B s).drop (i + 1) := by
  have := B_at s i h
  rw [List.drop_eq_getElem_cons (by rw [B_len]; exact h)]
  rw [List.getElem?_eq_getElem (by rw [B_len]; exact h)] at this
  rw [Option.some.inj this]
theorem drop_end (s : ByteArray) (i : Nat) (h : s.size ≤ i) : (B s).drop i = [] := List.drop_eq_nil_of_le (by rw [B_len]; exact h)
theorem B_words : wordsB.map B = wordsL := by kernel_rfl
theorem B_pairs : pairsB.map B = pairsL := by kernel_rfl
end Go.Proofs.Ytkllhfajldnpoaa.Tk
namespace Go.Proofs.Ytkllhfajldnpoaa
open Go Go.RowKit Fw
set_option linter.unusedVariables false
set_option maxRecDepth 20000
namespace Tk
end Tk
end Go.Proofs.Ytkllhfajldnpoaa
namespace Go.Proofs.Ytkllhfajldnpoaa
open Go Go.RowKit Fw
set_option linter.unusedVariables false
set_option maxRecDepth 20000
namespace Tk
/-- A row of texts that is read. -/
def Rd (w : World) (a : Option Addr) (ls : List ByteArray) : Prop := ls = [] ∨ ∃ b o, a = some ⟨b, o, none⟩ ∧ ∀ j s, ls[j]? = some s → w.cell? ⟨b, o + j, none⟩ = some (.string s)
theorem Rd.kp {w w' : World} {a : Option Addr} {ls : List ByteArray} (h : Rd w a ls) (k : Kp No w w') : Rd w' a ls := by
  rcases h with h | ⟨b, o, rfl, h⟩
  · exact .inl h
  · exact .inr ⟨b, o, rfl, fun j s hj => k.cell0 (h j s hj)⟩
theorem Rd.at {w : World} {a : Option Addr} {ls : List ByteArray} (h : Rd w a ls) {j : Nat} {s : ByteArray} (hj : ls[j]? = some s) : ∃ b o, a = some ⟨b, o, none⟩ ∧ w.cell? ⟨b, o + (j : Int).toNat * 1, none⟩ = some (.string s) := by
  rcases h with h | ⟨b, o, rfl, h⟩
  · subst h; simp at hj
  · exact ⟨b, o, rfl, by simpa using h j s hj⟩
/-- What the next token is, as a value. -/
def tokV (a : Nat) (t : Tok) : Value := .agg #[.int .i64 t.k, .int .i64 ((a + t.n : Nat) : Int), .int .i64 ((a + t.n + t.m : Nat) : Int)]
def nxV (s : ByteArray) (i : Nat) : Value := .tuple #[tokV i (nx ((B s).drop i)), .int .i64 (if (nx ((B s).drop i)).ok then 0 else 2)]
theorem nxV_of {s : ByteArray} {i j m : Nat} {ok : Bool} {k e p q : Int} (hj : j = i + sk false ((B s).drop i)) (hb : body ((B s).drop j) = (ok, k, m)) (he : e = if ok then 0 else 2) (hp : p = j) (hq : q = ((j + m : Nat) : Int)) :
    .tuple #[.agg #[.int .i64 k, .int .i64 p, .int .i64 q], .int .i64 e] = nxV s i := by
  subst hp hq he
  have h1 : nx ((B s).drop i) = ⟨ok, k, sk false ((B s).drop i), m⟩ := by
    rw [nx]; simp only [List.drop_drop]; rw [← hj, hb]
  rw [nxV, h1, tokV, hj]
end Tk
end Go.Proofs.Ytkllhfajldnpoaa
namespace Go.Proofs.Ytkllhfajldnpoaa
open Go Go.RowKit Fw
set_option linter.unusedVariables false
set_option maxRecDepth 20000
namespace Tk
end Tk
end Go.Proofs.Ytkllhfajldnpoaa
namespace Go.Proofs.Ytkllhfajldnpoaa
open Go Go.RowKit Fw
set_option linter.unusedVariables false
set_option maxRecDepth 20000
namespace Tk
/-- A token: kind, from, to. -/
abbrev T3 := Int × Int × Int
def tc (ts : List T3) : List Value := ts.flatMap fun t => [.int .i64 t.1, .int .i64 t.2.1, .int .i64 t.2.2]
theorem tc_get {ts : List T3} {i : Nat} {t : T3} (h : ts[i]? = some t) : (tc ts)[i * 3]? = some (.int .i64 t.1) ∧ (tc ts)[i * 3 + 1]? = some (.int .i64 t.2.1) ∧ (tc ts)[i * 3 + 2]? = some (.int .i64 t.2.2) :=
  ⟨flat_get (f := fun t : T3 => [.int .i64 t.1, .int .i64 t.2.1, .int .i64 t.2.2]) (sz := 3) (fun _ => rfl) ts i 0 t h (by omega), flat_get (f := fun t : T3 => [.int .i64 t.1, .int .i64 t.2.1, .int .i64 t.2.2]) (sz := 3) (fun _ => rfl) ts i 1 t h (by omega),
    flat_get (f := fun t : T3 => [.int .i64 t.1, .int .i64 t.2.1, .int .i64 t.2.2]) (sz := 3) (fun _ => rfl) ts i 2 t h (by omega)⟩
/-- All tokens from a place; or where there is none. -/
def als : Nat → Nat → List Int → List T3 × Option Int
  | 0, a, _ => ([], some a)
  | f + 1, a, L =>
    if (nx L).ok then
      if (nx L).k = 0 then ([(0, ((a + (nx L).n : Nat) : Int), ((a + (nx L).n + (nx L).m : Nat) : Int))], none)
      else match als f (a + (nx L).n + (nx L).m) (L.drop ((nx L).n + (nx L).m)) with
        | (l, e) => (((nx L).k, ((a + (nx L).n : Nat) : Int), ((a + (nx L).n + (nx L).m : Nat) : Int)) :: l, e)
    else ([], some ((a + (nx L).n : Nat) : Int))
/-- A text's tokens; a place; the error. -/
def allT (L : List Int) : List T3 × Int × Int :=
  if 20000 < L.length then ([], 0, 1) else match als (L.length + 1) 0 L with
    | (l, none) => (l, 0, 0)
    | (_, some p) => ([], p, 2)
theorem nx_pos {L : List Int} (h : (nx L).ok = true) (hk : (nx L).k ≠ 0) : 0 < (nx L).m := by
  by_cases h0 : L.drop (sk false L) = []
  · exact absurd (show (nx L).k = 0 by rw [nx, h0]; rfl) hk
  · exact (body_pos (L := L.drop (sk false L)) h h0).1
/-- What both do: one walk, for the program and for the document. -/
theorem als_len (f a : Nat) (L : List Int) : (als f a L).1.length ≤ L.length + 1 := by
  induction f generalizing a L with
  | zero => simp [als]
  | succ f ih =>
    rw [als]
    split
    · rename_i hok
      split
      · simp
      · rename_i hk
        have h1 := nx_pos hok hk
        have h2 := nx_le L
        have h3 := ih (a + (nx L).n + (nx L).m) (L.drop ((nx L).n + (nx L).m))
        rw [List.length_drop] at h3
        simp only [List.length_cons]
        omega
    · simp
end Tk
end Go.Proofs.Ytkllhfajldnpoaa
namespace Go.Proofs.Ytkllhfajldnpoaa
open Go Go.RowKit Fw
set_option linter.unusedVariables false
namespace Tk
/-- A row of tokens that is read. -/
def RdT (w : World) (a : Option Addr) (ts : List T3) : Prop := ts = [] ∨ ∃ b o, a = some ⟨b, o, none⟩ ∧ ∀ j u, (tc ts)[j]? = some u → w.cell? ⟨b, o + j, none⟩ = some u
theorem RdT.kp {S : Nat → Prop} {w w' : World} {a : Option Addr} {ts : List T3} (h : RdT w a ts) (k : Kp S w w') (hS : ∀ ad, a = some ad → ¬ S ad.block) : RdT w' a ts := by
  rcases h with h | ⟨b, o, rfl, h⟩
  · exact .inl h
  · exact .inr ⟨b, o, rfl, fun j s hj => k.cell (h j s hj) (show ¬ S b from hS ⟨b, o, none⟩ rfl)⟩
theorem RdT.at {w : World} {a : Option Addr} {ts : List T3} (h : RdT w a ts) {i : Nat} {t : T3} (ht : ts[i]? = some t) :
    ∃ b o, a = some ⟨b, o, none⟩ ∧ ∀ w', Kp No w w' → ∀ j, j < 3 → w'.cell? ⟨b, o + (i : Int).toNat * 3 + j, none⟩ = [Value.int .i64 t.1, .int .i64 t.2.1, .int .i64 t.2.2][j]? := by
  rcases h with h | ⟨b, o, rfl, h⟩
  · subst h; simp at ht
  · obtain ⟨h1, h2, h3⟩ := tc_get ht
    refine ⟨b, o, rfl, fun w' k j hj => ?_⟩
    have e : o + (i : Int).toNat * 3 + j = o + (i * 3 + j) := by simp; omega
    rw [e]
    match j, hj with
    | 0, _ => exact k.cell0 (h _ _ h1)
    | 1, _ => exact k.cell0 (h _ _ h2)
    | 2, _ => exact k.cell0 (h _ _ h3)
theorem RdT.of {w : World} {base c : Nat} {T : TypeId} {a : Option Addr} {ts : List T3} (h : w.ownsRow base T 3 (.slice a ts.length c) ts.length (tc ts)) : RdT w a ts := by
  obtain ⟨a', c', e, hc, ha, hr⟩ := own_read h
  simp only [Value.slice.injEq, true_and] at e
  obtain ⟨rfl, rfl⟩ := e
  cases a with
  | none => exact .inl (List.length_eq_zero_iff.1 (ha rfl))
  | some ad =>
    obtain ⟨g, rfl, _, _, hcell⟩ := hr _ rfl
    exact .inr ⟨g, 0, rfl, hcell⟩
end Tk
end Go.Proofs.Ytkllhfajldnpoaa
namespace Go.Proofs.Ytkllhfajldnpoaa
open Go Go.RowKit Fw
set_option linter.unusedVariables false
set_option maxRecDepth 20000
namespace Tk
theorem rletter (c : Int) (w : World) : Ret Try.prog 69 [.int .u8 c] w fun v w1 => v = .bool (lett c) ∧ w1 = w := by
  refine ret_enter Try.func69 rfl Try.ntmps69 rfl ?_
  (repeat refine Zr ?_)
  by_cases h1 : 97 ≤ c
  · refine s_set 5 true rfl (by simp [h1]) ?_
    (repeat (first | refine Zr ?_ | refine Zn ?_ | refine Zu ?_ | refine Zg ?_))
    by_cases h2 : c ≤ 122
    · refine s_set 9 true rfl (by simp [h2]) ?_
      (repeat (first | refine Zr ?_ | refine Zn ?_ | refine Zu ?_ | refine Zg ?_))
      refine ret_1 rfl rfl ⟨congrArg Value.bool ?_, rfl⟩
      simp [lett, h1, h2]
    · refine s_set 9 false rfl (by simp [h2]) ?_
      (repeat (first | refine Zr ?_ | refine Zn ?_ | refine Zu ?_ | refine Zg ?_))
      refine s_set 12 true rfl (by simp; omega) ?_
      (repeat (first | refine Zr ?_ | refine Zn ?_ | refine Zu ?_ | refine Zg ?_))
      refine s_set 17 false rfl (by simp; omega) ?_
      (repeat (first | refine Zr ?_ | refine Zn ?_ | refine Zu ?_ | refine Zg ?_))
      refine ret_1 rfl rfl ⟨congrArg Value.bool ?_, rfl⟩
      simp [lett, h2, show ¬ c ≤ 90 from by omega]
  · refine s_set 5 false rfl (by simp [h1]) ?_
    (repeat (first | refine Zr ?_ | refine Zn ?_ | refine Zu ?_ | refine Zg ?_))
    by_cases h3 : 65 ≤ c
    · refine s_set 12 true rfl (by simp [h3]) ?_
      (repeat (first | refine Zr ?_ | refine Zn ?_ | refine Zu ?_ | refine Zg ?_))
      by_cases h4 : c ≤ 90
      · refine s_set 17 true rfl (by simp [h4]) ?_
        (repeat (first | refine Zr ?_ | refine Zn ?_ | refine Zu ?_ | refine Zg ?_))
        refine ret_1 rfl rfl ⟨congrArg Value.bool ?_, rfl⟩
        simp [lett, h3, h4]
      · refine s_set 17 false rfl (by simp [h4]) ?_
        (repeat (first | refine Zr ?_ | refine Zn ?_ | refine Zu ?_ | refine Zg ?_))
        refine ret_1 rfl rfl ⟨congrArg Value.bool ?_, rfl⟩
        simp [lett, h1, h4]
    · refine s_set 12 false rfl (by simp [h3]) ?_
      (repeat (first | refine Zr ?_ | refine Zn ?_ | refine Zu ?_ | refine Zg ?_))
      refine ret_1 rfl rfl ⟨congrArg Value.bool ?_, rfl⟩
      simp [lett, h1, h3]
theorem rdigit (c : Int) (w : World) : Ret Try.prog 70 [.int .u8 c] w fun v w1 => v = .bool (digi c) ∧ w1 = w := by
  refine ret_enter Try.func70 rfl Try.ntmps70 rfl ?_
  (repeat refine Zr ?_)
  refine s_split 5 rfl (fun h5 => ?_) (fun h5 => ?_)
  · (repeat (first | refine Zr ?_ | refine Zn ?_ | refine Zu ?_ | refine Zg ?_))
    refine ret_1 rfl rfl ⟨congrArg Value.bool ?_, rfl⟩
    simp [digi, h5]
  · (repeat (first | refine Zr ?_ | refine Zn ?_ | refine Zu ?_ | refine Zg ?_))
    refine ret_1 rfl rfl ⟨congrArg Value.bool ?_, rfl⟩
    simp [digi, h5]
end Tk
end Go.Proofs.Ytkllhfajldnpoaa
namespace Go.Proofs.Ytkllhfajldnpoaa
open Go Go.RowKit Fw
set_option linter.unusedVariables false
set_option maxRecDepth 20000
namespace Tk
theorem rhas (ls : List ByteArray) (a : Option Addr) (c : Nat) (x : ByteArray) (w : World) (h : Rd w a ls) (hl : ls.length ≤ 1000) :
    Ret Try.prog 71 [.slice a ls.length c, .string x] w fun v w1 => v = .bool ((ls.map B).contains (B x)) ∧ w1 = w := by
  refine ret_enter Try.func71 rfl Try.ntmps71 rfl ?_
  (repeat refine Zr ?_)
  refine k_loop (σ := Nat) (fun t => [(0, .slice a ls.length c), (1, .string x), (7, .int .i64 ls.length), (8, .int .i64 t)]) (fun t w' => t ≤ ls.length ∧ (∀ j y, j < t → ls[j]? = some y → B y ≠ B x) ∧ w' = w) (fun t => ls.length - t) 0 ⟨rfl, rfl, rfl, rfl, trivial⟩ ⟨by omega, fun j y hj => by omega, rfl⟩ ?_
  rintro t l w ⟨ht, hne, rfl⟩
  (repeat refine Zr ?_)
  refine c_dec rfl (fun hlt => ?_) (fun hge => ?_)
  · obtain ⟨y, hy⟩ : ∃ y, ls[t]? = some y := ⟨_, List.getElem?_eq_getElem (by omega)⟩
    obtain ⟨b, o, rfl, hcy⟩ := h.at hy
    (repeat refine Zr ?_)
    refine s_v (r_ia rfl rfl rfl rfl (by omega) (by omega)) ?_
    (repeat refine Zr ?_)
    refine c_b rfl (fun he => ?_) (fun he => ?_)
    · rw [str_eq] at he
      (repeat refine Zr ?_)
      refine ret_1 rfl rfl ⟨congrArg Value.bool ?_, rfl⟩
      symm
      simp only [List.contains_iff_mem, List.mem_map]
      exact ⟨y, List.mem_of_getElem? hy, of_decide_eq_true he⟩
    · rw [str_eq] at he
      (repeat refine Zr ?_)
      refine l_next (t + 1) ⟨rfl, rfl, rfl, rfl, trivial⟩ ⟨by omega, fun j z hj hz => ?_, rfl⟩ (by omega)
      by_cases hjt : j = t
      · subst hjt; rw [hy] at hz; cases hz; exact of_decide_eq_false he
      · exact hne j z (by omega) hz
  · (repeat refine Zr ?_)
    refine ret_1 rfl rfl ⟨congrArg Value.bool ?_, rfl⟩
    symm
    rw [Bool.eq_false_iff]
    simp only [ne_eq, List.contains_iff_mem, List.mem_map, not_exists, not_and]
    intro y hy
    obtain ⟨j, hj⟩ := List.mem_iff_getElem?.1 hy
    exact hne j y (by have := (List.getElem?_eq_some_iff.1 hj).1; omega) hj
theorem rWords (w : World) : Ret Try.prog 72 [] w fun v w1 => ∃ b, v = .slice (some ⟨b, 0, none⟩) 13 13 ∧ Rd w1 (some ⟨b, 0, none⟩) wordsB ∧ Kp No w w1 ∧ w.heap.size ≤ b := by
  refine ret_enter Try.func72 rfl Try.ntmps72 rfl ?_
  (repeat refine Zr ?_)
  refine s_bs (cs := sc wordsB) (e := 9) (by kernel_rfl) (fun b w1 n1 => ?_)
  (repeat refine Zr ?_)
  refine ret_1 rfl rfl ⟨b, rfl, .inr ⟨b, 0, rfl, fun j s hj => blk_cells n1.blk j _ (sc_get hj)⟩, n1.kp, n1.ge⟩
set_option maxHeartbeats 1000000 in
theorem rSkip (s : ByteArray) (i : Nat) (w : World) (hs : s.size ≤ 1000000) (hi : i ≤ s.size) :
    Ret Try.prog 68 [.string s, .int .i64 i] w fun v w1 => v = .int .i64 ((i + sk false ((B s).drop i) : Nat) : Int) ∧ w1 = w := by
  refine ret_enter Try.func68 rfl Try.ntmps68 rfl ?_
  (repeat refine Zr ?_)
  refine k_loop (σ := Nat) (fun t => [(0, .string s), (1, .int .i64 t)]) (fun t w' => t ≤ s.size ∧ t + sk false ((B s).drop t) = i + sk false ((B s).drop i) ∧ w' = w) (fun t => s.size - t) i ⟨rfl, rfl, trivial⟩ ⟨hi, rfl, rfl⟩ ?_
  rintro t l w ⟨ht, he, rfl⟩
  (repeat refine Zr ?_)
  refine c_dec rfl (fun hlt => ?_) (fun hge => ?_)
  · have hlt' : t < s.size := by omega
    have hd := drop_at s t hlt'
    have hr := bt_range s t
    have hyes : blan (bt s t) = true → t + 1 + sk false ((B s).drop (t + 1)) = i + sk false ((B s).drop i) := fun h => by
      rw [hd, sk, if_pos h] at he; omega
    (repeat refine Zr ?_)
    refine s_v (r_ix rfl rfl rfl (by omega) (by omega)) ?_
    (repeat refine Zr ?_)
    refine s_split 13 rfl (fun h13 => ?_) (fun h13 => ?_)
    · (repeat (first | refine Zr ?_ | refine Zn ?_ | refine Zu ?_ | refine Zg ?_))
      refine c_t rfl ?_
      (repeat refine Zr ?_)
      exact l_next (t + 1) ⟨rfl, rfl, trivial⟩ ⟨by omega, hyes (by simp [blan, h13]), rfl⟩ (by omega)
    (repeat (first | refine Zr ?_ | refine Zn ?_ | refine Zu ?_ | refine Zg ?_))
    refine s_gv rfl (r_ix rfl rfl rfl (by omega) (by omega)) ?_
    (repeat (first | refine Zr ?_ | refine Zn ?_ | refine Zu ?_ | refine Zg ?_))
    refine s_split 19 rfl (fun h19 => ?_) (fun h19 => ?_)
    · (repeat (first | refine Zr ?_ | refine Zn ?_ | refine Zu ?_ | refine Zg ?_))
      refine c_t rfl ?_
      (repeat refine Zr ?_)
      exact l_next (t + 1) ⟨rfl, rfl, trivial⟩ ⟨by omega, hyes (by simp [blan, h19]), rfl⟩ (by omega)
    (repeat (first | refine Zr ?_ | refine Zn ?_ | refine Zu ?_ | refine Zg ?_))
    refine s_gv rfl (r_ix rfl rfl rfl (by omega) (by omega)) ?_
    (repeat (first | refine Zr ?_ | refine Zn ?_ | refine Zu ?_ | refine Zg ?_))
    refine s_split 25 rfl (fun h25 => ?_) (fun h25 => ?_)
    · (repeat (first | refine Zr ?_ | refine Zn ?_ | refine Zu ?_ | refine Zg ?_))
      refine c_t rfl ?_
      (repeat refine Zr ?_)
      exact l_next (t + 1) ⟨rfl, rfl, trivial⟩ ⟨by omega, hyes (by simp [blan, h25]), rfl⟩ (by omega)
    (repeat (first | refine Zr ?_ | refine Zn ?_ | refine Zu ?_ | refine Zg ?_))
    refine s_gv rfl (r_ix rfl rfl rfl (by omega) (by omega)) ?_
    (repeat (first | refine Zr ?_ | refine Zn ?_ | refine Zu ?_ | refine Zg ?_))
    refine c_eq rfl (fun h30 => ?_) (fun h30 => ?_)
    · (repeat refine Zr ?_)
      exact l_next (t + 1) ⟨rfl, rfl, trivial⟩ ⟨by omega, hyes (by simp [blan, h30]), rfl⟩ (by omega)
    have hno : ¬ blan (bt s t) = true := by simp [blan, h13, h19, h25, h30]
    rw [hd, sk, if_neg hno] at he
    (repeat refine Zr ?_)
    refine s_v (r_ix rfl rfl rfl (by omega) (by omega)) ?_
    (repeat refine Zr ?_)
    refine c_ne rfl (fun h35 => ?_) (fun h35 => ?_)
    · (repeat refine Zr ?_)
      rw [if_neg h35] at he
      exact ret_1 rfl rfl ⟨by rw [← he]; rfl, rfl⟩
    · rw [if_pos h35] at he
      have he' : t + sk true ((B s).drop t) = i + sk false ((B s).drop i) := by
        rw [hd, sk, if_neg (by omega)]; exact he
      (repeat refine Zr ?_)
      refine k_loop (σ := Nat) (fun t => [(0, .string s), (1, .int .i64 t)]) (fun u w' => t ≤ u ∧ u ≤ s.size ∧ u + sk true ((B s).drop u) = i + sk false ((B s).drop i) ∧ w' = w ∧ (u = t ∨ t < u)) (fun t => s.size - t) t ⟨rfl, rfl, trivial⟩ ⟨Nat.le_refl _, ht, he', rfl, .inl rfl⟩ ?_
      rintro u l w ⟨hu1, hu2, hu, rfl, hu3⟩
      (repeat refine Zr ?_)
      by_cases hult : u < s.size
      · refine s_set 42 true rfl (by simp; omega) ?_
        have hdu := drop_at s u hult
        (repeat (first | refine Zr ?_ | refine Zn ?_ | refine Zu ?_ | refine Zg ?_))
        refine s_gv rfl (r_ix rfl rfl rfl (by omega) (by omega)) ?_
        (repeat (first | refine Zr ?_ | refine Zn ?_ | refine Zu ?_ | refine Zg ?_))
        refine c_ne rfl (fun h10 => ?_) (fun h10 => ?_)
        · (repeat refine Zr ?_)
          rw [hdu, sk, if_neg h10] at hu
          exact l_next (u + 1) ⟨rfl, rfl, trivial⟩ ⟨by omega, by omega, by omega, rfl, by omega⟩ (by omega)
        · have hut : u ≠ t := fun e => by subst e; omega
          (repeat refine Zr ?_)
          refine l_next u ⟨rfl, rfl, trivial⟩ ⟨by omega, ?_, rfl⟩ (by omega)
          rw [hdu, sk, if_pos h10] at hu
          rw [hdu, sk, if_pos (by simp [blan, h10])]
          exact hu
      · refine s_set 42 false rfl (by simp; omega) ?_
        (repeat (first | refine Zr ?_ | refine Zn ?_ | refine Zu ?_ | refine Zg ?_))
        refine c_f rfl ?_
        (repeat refine Zr ?_)
        refine l_next u ⟨rfl, rfl, trivial⟩ ⟨by omega, ?_, rfl⟩ (by omega)
        rw [drop_end s u (by omega), sk] at hu ⊢
        exact hu
  · (repeat refine Zr ?_)
    rw [drop_end s t (by omega), sk] at he
    exact ret_1 rfl rfl ⟨by rw [← he]; rfl, rfl⟩
def onesB : List ByteArray := signsL.map fun c => strOf [c]
theorem B_ones : onesB.map B = signsL.map fun c => [c] := by kernel_rfl
theorem two_eq (L : List Int) (h : 2 ≤ L.length) : pairsL.contains (L.take 2) = pairsL.any (fun p => p.isPrefixOf L) := by
  rw [Bool.eq_iff_iff, List.any_eq_true, List.contains_iff_mem]
  have h2 : ∀ p ∈ pairsL, p.length = 2 := by decide
  constructor
  · intro hm
    exact ⟨_, hm, List.isPrefixOf_iff_prefix.2 (List.take_prefix _ _)⟩
  · rintro ⟨p, hp, hq⟩
    have := List.prefix_iff_eq_take.1 (List.isPrefixOf_iff_prefix.1 hq)
    rw [h2 p hp] at this
    rw [← this]; exact hp
theorem two_no (L : List Int) (h : L.length < 2) : pairsL.any (fun p => p.isPrefixOf L) = false := by
  rw [Bool.eq_false_iff]
  intro hh
  obtain ⟨p, hp, hq⟩ := List.any_eq_true.1 hh
  have h2 : ∀ p ∈ pairsL, p.length = 2 := by decide
  have := (List.isPrefixOf_iff_prefix.1 hq).length_le
  have := h2 p hp
  omega
theorem one_eq (c : Int) (r : List Int) : (signsL.map fun c => [c]).contains ((c :: r).take 1) = signsL.contains c := by
  rw [Bool.eq_iff_iff, List.contains_iff_mem, List.contains_iff_mem, List.mem_map]
  constructor
  · rintro ⟨x, hx, h⟩; simp at h; subst h; exact hx
  · intro h; exact ⟨c, h, by simp⟩
set_option maxHeartbeats 2000000 in
set_option maxRecDepth 100000 in
theorem rNext (s : ByteArray) (i : Nat) (w : World) (hs : s.size ≤ 1000000) (hi : i ≤ s.size) :
    Ret Try.prog 53 [.string s, .int .i64 i] w fun v w1 => v = nxV s i ∧ Kp No w w1 := by
  refine ret_enter Try.func53 rfl Try.ntmps53 rfl ?_
  (repeat refine Zr ?_)
  refine s_al rfl (fun b4 w1 n1 => ?_)
  (repeat refine Zr ?_)
  refine s_call (us := []) (zs := []) (by kernel_rfl) rfl rfl (rSkip s i w1 hs hi) ?_
  rintro _ w2 ⟨rfl, rfl⟩
  obtain ⟨j, hj⟩ : ∃ j, j = i + sk false ((B s).drop i) := ⟨_, rfl⟩
  have hjl : j ≤ s.size := by
    have := sk_le ((B s).drop i) false
    rw [List.length_drop, B_len] at this; omega
  rw [← hj]
  have y1 := n1.ge
  have x1 := n1.lt
  have z1 := n1.kp.size
  have b4' := n1.blk
  have ag : ∀ w', Kp No w2 w' → w'.heap[b4]? = some (.cells [.int .i64 0, .int .i64 0, .int .i64 0].toArray 101 (0, 0)) := fun w' k => k.get0 b4'
  have kw2 := n1.kp
  clear b4' n1
  (repeat refine Zr ?_)
  refine c_eq rfl (fun hend => ?_) (fun hne => ?_)
  · (repeat refine Zr ?_)
    refine s_st rfl rfl rfl rfl rfl (ag w2 (Kp.refl _ _)) (Nat.le_of_ble_eq_true rfl) (fun w5 s5 => ?_)
    (repeat refine Zr ?_)
    refine ret_c2 rfl (rv_ag (vs := [.int .i64 0, .int .i64 j, .int .i64 j]) rfl rfl rfl s5.blk rfl rfl) (rv_t rfl) ⟨nxV_of (ok := true) (m := 0) hj ?_ rfl rfl (by simp), kw2.trans s5.kp (fun _ _ e => by omega)⟩
    rw [drop_end s j (by omega)]; rfl
  have hlt : j < s.size := by omega
  have hd := drop_at s j hlt
  have hr := bt_range s j
  (repeat refine Zr ?_)
  refine s_v (r_ix rfl rfl rfl (by omega) (by omega)) ?_
  refine s_call (us := []) (zs := []) (by kernel_rfl) rfl rfl (rletter (bt s j) w2) ?_
  rintro _ w5 ⟨rfl, rfl⟩
  (repeat refine Zr ?_)
  refine c_b rfl (fun hl => ?_) (fun hl => ?_)
  · obtain ⟨m, hm⟩ : ∃ m, rn eith ((B s).drop j) = m := ⟨_, rfl⟩
    have hm0 : 0 < m := by rw [← hm, hd]; exact rn_pos (by simp [eith, hl])
    have hml : j + m ≤ s.size := by
      have := rn_le eith ((B s).drop j)
      rw [List.length_drop, B_len, hm] at this; omega
    have hx : B (s.extract j (j + m)) = ((B s).drop j).take m := by rw [B_extract, List.drop_take]; congr 1; omega
    (repeat refine Zr ?_)
    refine k_cutb (σ := Unit) (fun _ => [(0, .string s), (1, .int .i64 j), (4, .pointer (some ⟨b4, 0, none⟩)), (6, .int .i64 ((j + m : Nat) : Int))]) (fun _ w' => w' = w5) ?_ ?_
    · refine k_loop (σ := Nat) (fun t => [(0, .string s), (1, .int .i64 j), (4, .pointer (some ⟨b4, 0, none⟩)), (6, .int .i64 t)]) (fun t w' => t ≤ s.size ∧ t + rn eith ((B s).drop t) = j + m ∧ w' = w5) (fun t => s.size - t) j ⟨rfl, rfl, rfl, rfl, trivial⟩ ⟨hjl, by rw [hm], rfl⟩ ?_
      rintro t l w5 ⟨ht, he, rfl⟩
      (repeat refine Zr ?_)
      by_cases hlt2 : t < s.size
      · have hdt := drop_at s t hlt2
        have hrt := bt_range s t
        rw [hdt, rn] at he
        refine s_set 29 true rfl (by simp; omega) ?_
        (repeat (first | refine Zr ?_ | refine Zn ?_ | refine Zu ?_ | refine Zg ?_))
        refine s_gv rfl (r_ix rfl rfl rfl (by omega) (by omega)) ?_
        refine s_gcall (us := []) (zs := []) rfl (by kernel_rfl) rfl rfl (rletter (bt s t) w5) ?_
        rintro _ w6 ⟨rfl, rfl⟩
        (repeat (first | refine Zr ?_ | refine Zn ?_ | refine Zu ?_ | refine Zg ?_))
        refine s_split 34 rfl (fun h34 => ?_) (fun h34 => ?_)
        · rw [if_pos (by simp [eith, h34])] at he
          (repeat (first | refine Zr ?_ | refine Zn ?_ | refine Zu ?_ | refine Zg ?_))
          refine c_t rfl ?_
          (repeat refine Zr ?_)
          exact l_next (t + 1) ⟨rfl, rfl, rfl, rfl, trivial⟩ ⟨by omega, by omega, rfl⟩ (by omega)
        · (repeat (first | refine Zr ?_ | refine Zn ?_ | refine Zu ?_ | refine Zg ?_))
          refine s_gv rfl (r_ix rfl rfl rfl (by omega) (by omega)) ?_
          refine s_gcall (us := []) (zs := []) rfl (by kernel_rfl) rfl rfl (rdigit (bt s t) w6) ?_
          rintro _ w7 ⟨rfl, rfl⟩
          (repeat (first | refine Zr ?_ | refine Zn ?_ | refine Zu ?_ | refine Zg ?_))
          refine c_b rfl (fun hdg => ?_) (fun hdg => ?_)
          · rw [if_pos (by simp [eith, hdg])] at he
            (repeat refine Zr ?_)
            exact l_next (t + 1) ⟨rfl, rfl, rfl, rfl, trivial⟩ ⟨by omega, by omega, rfl⟩ (by omega)
          · rw [if_neg (by simp [eith, h34, hdg])] at he
            have htt : t = j + m := by omega
            subst htt
            (repeat refine Zr ?_)
            exact l_cut () ⟨rfl, rfl, rfl, rfl, trivial⟩ rfl
      · rw [drop_end s t (by omega), rn] at he
        have htt : t = j + m := by omega
        subst htt
        refine s_set 29 false rfl (by simp; omega) ?_
        (repeat (first | refine Zr ?_ | refine Zn ?_ | refine Zu ?_ | refine Zg ?_))
        refine c_f rfl ?_
        (repeat refine Zr ?_)
        exact l_cut () ⟨rfl, rfl, rfl, rfl, trivial⟩ rfl
    rintro _ l w6 rfl
    (repeat refine Zr ?_)
    refine k_h (fun w' => Kp No w6 w') [(1, false), (2, false), (3, false), (4, false), (0, true), (5, true)] 5 (by kernel_rfl) (by exact waits_of_last (by kernel_rfl)) (by kernel_rfl) (by kernel_rfl) rfl rfl ?_
    intro w7 k7 e7
    refine h_v k7 (fun w' hw => r_mv rfl) ?_
    refine h_v k7 (fun w' hw => r_mv rfl) ?_
    refine h_v k7 (fun w' hw => r_mv rfl) ?_
    refine h_v k7 (fun w' hw => r_ss rfl rfl rfl rfl (by omega) (by omega) (by omega)) ?_
    refine h_call (us := []) (zs := []) (by kernel_rfl) rfl rfl (rWords w7) ?_
    rintro _ w8 ⟨bw, rfl, hrd, k8, g8⟩
    refine ⟨fun _ => k7.no k8, ?_⟩
    refine h_call (us := []) (zs := []) (by kernel_rfl) rfl rfl (rhas wordsB (some ⟨bw, 0, none⟩) 13 (s.extract j (j + m)) w8 hrd (by decide +kernel)) ?_
    rintro _ w9 ⟨rfl, rfl⟩
    refine ⟨fun h => absurd rfl h, ?_⟩
    refine h_nil ?_
    rw [B_words, hx]
    have k9 : Kp No w6 w9 := k7.no k8
    have kw9 := kw2.no k9
    (repeat refine Zr ?_)
    refine c_b rfl (fun hw => ?_) (fun hw => ?_)
    · (repeat refine Zr ?_)
      refine s_st rfl rfl rfl rfl rfl (ag w9 k9) (Nat.le_of_ble_eq_true rfl) (fun w10 s10 => ?_)
      (repeat refine Zr ?_)
      refine ret_c2 rfl (rv_ag (vs := [.int .i64 3, .int .i64 j, .int .i64 ((j + m : Nat) : Int)]) rfl rfl rfl s10.blk rfl rfl) (rv_t rfl) ⟨nxV_of (ok := true) (m := m) hj ?_ rfl rfl rfl, kw9.trans s10.kp (fun _ _ e => by omega)⟩
      rw [← hm] at hw ⊢
      rw [hd] at hw ⊢
      rw [body, if_pos hl, if_pos hw]
    · (repeat refine Zr ?_)
      refine s_st rfl rfl rfl rfl rfl (ag w9 k9) (Nat.le_of_ble_eq_true rfl) (fun w10 s10 => ?_)
      (repeat refine Zr ?_)
      refine ret_c2 rfl (rv_ag (vs := [.int .i64 1, .int .i64 j, .int .i64 ((j + m : Nat) : Int)]) rfl rfl rfl s10.blk rfl rfl) (rv_t rfl) ⟨nxV_of (ok := true) (m := m) hj ?_ rfl rfl rfl, kw9.trans s10.kp (fun _ _ e => by omega)⟩
      rw [← hm] at hw ⊢
      rw [hd] at hw ⊢
      rw [body, if_pos hl, if_neg (by rw [hw]; exact Bool.false_ne_true)]
  have hl' : ¬ lett (bt s j) = true := by rw [hl]; exact Bool.false_ne_true
  (repeat refine Zr ?_)
  refine s_v (r_ix rfl rfl rfl (by omega) (by omega)) ?_
  refine s_call (us := []) (zs := []) (by kernel_rfl) rfl rfl (rdigit (bt s j) w5) ?_
  rintro _ w6 ⟨rfl, rfl⟩
  (repeat refine Zr ?_)
  refine c_b rfl (fun hg => ?_) (fun hg => ?_)
  · obtain ⟨m, hm⟩ : ∃ m, rn digi ((B s).drop j) = m := ⟨_, rfl⟩
    have hm0 : 0 < m := by rw [← hm, hd]; exact rn_pos hg
    have hml : j + m ≤ s.size := by
      have := rn_le digi ((B s).drop j)
      rw [List.length_drop, B_len, hm] at this; omega
    have hbody : body ((B s).drop j) = if m ≤ 18 ∧ (m = 1 ∨ bt s j ≠ 48) ∧ rn lett (((B s).drop j).drop m) = 0 then (true, 2, m) else (false, 0, 0) := by
      rw [← hm, hd, body, if_neg hl', if_pos hg]
    rw [List.drop_drop] at hbody
    (repeat refine Zr ?_)
    refine k_cutb (σ := Unit) (fun _ => [(0, .string s), (1, .int .i64 j), (4, .pointer (some ⟨b4, 0, none⟩)), (6, .int .i64 ((j + m : Nat) : Int))]) (fun _ w' => w' = w6) ?_ ?_
    · refine k_loop (σ := Nat) (fun t => [(0, .string s), (1, .int .i64 j), (4, .pointer (some ⟨b4, 0, none⟩)), (6, .int .i64 t)]) (fun t w' => t ≤ s.size ∧ t + rn digi ((B s).drop t) = j + m ∧ w' = w6) (fun t => s.size - t) j ⟨rfl, rfl, rfl, rfl, trivial⟩ ⟨hjl, by rw [hm], rfl⟩ ?_
      rintro t l w6 ⟨ht, he, rfl⟩
      (repeat refine Zr ?_)
      by_cases hlt2 : t < s.size
      · have hdt := drop_at s t hlt2
        rw [hdt, rn] at he
        refine s_set 65 true rfl (by simp; omega) ?_
        (repeat (first | refine Zr ?_ | refine Zn ?_ | refine Zu ?_ | refine Zg ?_))
        refine s_gv rfl (r_ix rfl rfl rfl (by omega) (by omega)) ?_
        refine s_gcall (us := []) (zs := []) rfl (by kernel_rfl) rfl rfl (rdigit (bt s t) w6) ?_
        rintro _ w7 ⟨rfl, rfl⟩
        (repeat (first | refine Zr ?_ | refine Zn ?_ | refine Zu ?_ | refine Zg ?_))
        refine c_b rfl (fun hdg => ?_) (fun hdg => ?_)
        · rw [if_pos hdg] at he
          (repeat refine Zr ?_)
          exact l_next (t + 1) ⟨rfl, rfl, rfl, rfl, trivial⟩ ⟨by omega, by omega, rfl⟩ (by omega)
        · rw [if_neg (by rw [hdg]; exact Bool.false_ne_true)] at he
          have htt : t = j + m := by omega
          subst htt
          (repeat refine Zr ?_)
          exact l_cut () ⟨rfl, rfl, rfl, rfl, trivial⟩ rfl
      · rw [drop_end s t (by omega), rn] at he
        have htt : t = j + m := by omega
        subst htt
        refine s_set 65 false rfl (by simp; omega) ?_
        (repeat (first | refine Zr ?_ | refine Zn ?_ | refine Zu ?_ | refine Zg ?_))
        refine c_f rfl ?_
        (repeat refine Zr ?_)
        exact l_cut () ⟨rfl, rfl, rfl, rfl, trivial⟩ rfl
    rintro _ l w5 rfl
    have k5 : Kp No w5 w5 := Kp.refl _ _
    have kw5 := kw2
    (repeat refine Zr ?_)
    by_cases h18 : m ≤ 18
    · refine s_set 77 false rfl (by simp; omega) ?_
      (repeat (first | refine Zr ?_ | refine Zn ?_ | refine Zu ?_ | refine Zg ?_))
      by_cases h1m : m = 1
      · refine s_set 82 false rfl (by simp; omega) ?_
        (repeat (first | refine Zr ?_ | refine Zn ?_ | refine Zu ?_ | refine Zg ?_))
        by_cases hlt2 : j + m < s.size
        · refine s_set 94 true rfl (by simp; omega) ?_
          have hd2 := drop_at s (j + m) hlt2
          (repeat (first | refine Zr ?_ | refine Zn ?_ | refine Zu ?_ | refine Zg ?_))
          refine s_gv rfl (r_ix rfl rfl rfl (by omega) (by omega)) ?_
          refine s_gcall (us := []) (zs := []) rfl (by kernel_rfl) rfl rfl (rletter (bt s ((j + m : Nat) : Int)) w5) ?_
          rintro _ w6 ⟨rfl, rfl⟩
          (repeat (first | refine Zr ?_ | refine Zn ?_ | refine Zu ?_ | refine Zg ?_))
          refine c_b rfl (fun hlt3 => ?_) (fun hlt3 => ?_)
          · (repeat refine Zr ?_)
            refine s_st rfl rfl rfl rfl rfl (ag w6 k5) (Nat.le_of_ble_eq_true rfl) (fun w11 s11 => ?_)
            (repeat refine Zr ?_)
            refine ret_c2 rfl (rv_ag (vs := [.int .i64 0, .int .i64 j, .int .i64 j]) rfl rfl rfl s11.blk rfl rfl) (rv_t rfl) ⟨nxV_of (ok := false) (m := 0) hj ?_ rfl rfl (by simp), (kw5).trans s11.kp (fun _ _ e => by omega)⟩
            rw [hbody, if_neg (by rintro ⟨h1, h2, h3⟩; rw [hd2, rn, if_pos hlt3] at h3; omega)]
          · (repeat refine Zr ?_)
            refine s_st rfl rfl rfl rfl rfl (ag w6 k5) (Nat.le_of_ble_eq_true rfl) (fun w11 s11 => ?_)
            (repeat refine Zr ?_)
            refine ret_c2 rfl (rv_ag (vs := [.int .i64 2, .int .i64 j, .int .i64 ((j + m : Nat) : Int)]) rfl rfl rfl s11.blk rfl rfl) (rv_t rfl) ⟨nxV_of (ok := true) (m := m) hj ?_ rfl rfl rfl, (kw5).trans s11.kp (fun _ _ e => by omega)⟩
            rw [hbody, if_pos ⟨h18, .inl h1m, by rw [hd2, rn, if_neg (by rw [hlt3]; exact Bool.false_ne_true)]⟩]
        · refine s_set 94 false rfl (by simp; omega) ?_
          have hd2 := drop_end s (j + m) (by omega)
          (repeat (first | refine Zr ?_ | refine Zn ?_ | refine Zu ?_ | refine Zg ?_))
          refine c_f rfl ?_
          (repeat refine Zr ?_)
          refine s_st rfl rfl rfl rfl rfl (ag w5 k5) (Nat.le_of_ble_eq_true rfl) (fun w11 s11 => ?_)
          (repeat refine Zr ?_)
          refine ret_c2 rfl (rv_ag (vs := [.int .i64 2, .int .i64 j, .int .i64 ((j + m : Nat) : Int)]) rfl rfl rfl s11.blk rfl rfl) (rv_t rfl) ⟨nxV_of (ok := true) (m := m) hj ?_ rfl rfl rfl, (kw5).trans s11.kp (fun _ _ e => by omega)⟩
          rw [hbody, if_pos ⟨h18, .inl h1m, by rw [hd2]; rfl⟩]
      · refine s_set 82 true rfl (by simp; omega) ?_
        (repeat (first | refine Zr ?_ | refine Zn ?_ | refine Zu ?_ | refine Zg ?_))
        refine s_gv rfl (r_ix rfl rfl rfl (by omega) (by omega)) ?_
        (repeat (first | refine Zr ?_ | refine Zn ?_ | refine Zu ?_ | refine Zg ?_))
        by_cases h48 : bt s j = 48
        · refine s_set 89 true rfl (by simp [h48]) ?_
          (repeat (first | refine Zr ?_ | refine Zn ?_ | refine Zu ?_ | refine Zg ?_))
          refine c_t rfl ?_
          (repeat refine Zr ?_)
          refine s_st rfl rfl rfl rfl rfl (ag w5 k5) (Nat.le_of_ble_eq_true rfl) (fun w11 s11 => ?_)
          (repeat refine Zr ?_)
          refine ret_c2 rfl (rv_ag (vs := [.int .i64 0, .int .i64 j, .int .i64 j]) rfl rfl rfl s11.blk rfl rfl) (rv_t rfl) ⟨nxV_of (ok := false) (m := 0) hj ?_ rfl rfl (by simp), (kw5).trans s11.kp (fun _ _ e => by omega)⟩
          rw [hbody, if_neg (by rintro ⟨h1, h2, h3⟩; rcases h2 with h2 | h2 <;> omega)]
        · refine s_set 89 false rfl (by simp [h48]) ?_
          (repeat (first | refine Zr ?_ | refine Zn ?_ | refine Zu ?_ | refine Zg ?_))
          by_cases hlt2 : j + m < s.size
          · refine s_set 94 true rfl (by simp; omega) ?_
            have hd2 := drop_at s (j + m) hlt2
            (repeat (first | refine Zr ?_ | refine Zn ?_ | refine Zu ?_ | refine Zg ?_))
            refine s_gv rfl (r_ix rfl rfl rfl (by omega) (by omega)) ?_
            refine s_gcall (us := []) (zs := []) rfl (by kernel_rfl) rfl rfl (rletter (bt s ((j + m : Nat) : Int)) w5) ?_
            rintro _ w6 ⟨rfl, rfl⟩
            (repeat (first | refine Zr ?_ | refine Zn ?_ | refine Zu ?_ | refine Zg ?_))
            refine c_b rfl (fun hlt3 => ?_) (fun hlt3 => ?_)
            · (repeat refine Zr ?_)
              refine s_st rfl rfl rfl rfl rfl (ag w6 k5) (Nat.le_of_ble_eq_true rfl) (fun w11 s11 => ?_)
              (repeat refine Zr ?_)
              refine ret_c2 rfl (rv_ag (vs := [.int .i64 0, .int .i64 j, .int .i64 j]) rfl rfl rfl s11.blk rfl rfl) (rv_t rfl) ⟨nxV_of (ok := false) (m := 0) hj ?_ rfl rfl (by simp), (kw5).trans s11.kp (fun _ _ e => by omega)⟩
              rw [hbody, if_neg (by rintro ⟨h1, h2, h3⟩; rw [hd2, rn, if_pos hlt3] at h3; omega)]
            · (repeat refine Zr ?_)
              refine s_st rfl rfl rfl rfl rfl (ag w6 k5) (Nat.le_of_ble_eq_true rfl) (fun w11 s11 => ?_)
              (repeat refine Zr ?_)
              refine ret_c2 rfl (rv_ag (vs := [.int .i64 2, .int .i64 j, .int .i64 ((j + m : Nat) : Int)]) rfl rfl rfl s11.blk rfl rfl) (rv_t rfl) ⟨nxV_of (ok := true) (m := m) hj ?_ rfl rfl rfl, (kw5).trans s11.kp (fun _ _ e => by omega)⟩
              rw [hbody, if_pos ⟨h18, .inr h48, by rw [hd2, rn, if_neg (by rw [hlt3]; exact Bool.false_ne_true)]⟩]
          · refine s_set 94 false rfl (by simp; omega) ?_
            have hd2 := drop_end s (j + m) (by omega)
            (repeat (first | refine Zr ?_ | refine Zn ?_ | refine Zu ?_ | refine Zg ?_))
            refine c_f rfl ?_
            (repeat refine Zr ?_)
            refine s_st rfl rfl rfl rfl rfl (ag w5 k5) (Nat.le_of_ble_eq_true rfl) (fun w11 s11 => ?_)
            (repeat refine Zr ?_)
            refine ret_c2 rfl (rv_ag (vs := [.int .i64 2, .int .i64 j, .int .i64 ((j + m : Nat) : Int)]) rfl rfl rfl s11.blk rfl rfl) (rv_t rfl) ⟨nxV_of (ok := true) (m := m) hj ?_ rfl rfl rfl, (kw5).trans s11.kp (fun _ _ e => by omega)⟩
            rw [hbody, if_pos ⟨h18, .inr h48, by rw [hd2]; rfl⟩]
    · refine s_set 77 true rfl (by simp; omega) ?_
      (repeat (first | refine Zr ?_ | refine Zn ?_ | refine Zu ?_ | refine Zg ?_))
      refine c_t rfl ?_
      (repeat refine Zr ?_)
      refine s_st rfl rfl rfl rfl rfl (ag w5 k5) (Nat.le_of_ble_eq_true rfl) (fun w11 s11 => ?_)
      (repeat refine Zr ?_)
      refine ret_c2 rfl (rv_ag (vs := [.int .i64 0, .int .i64 j, .int .i64 j]) rfl rfl rfl s11.blk rfl rfl) (rv_t rfl) ⟨nxV_of (ok := false) (m := 0) hj ?_ rfl rfl (by simp), (kw5).trans s11.kp (fun _ _ e => by omega)⟩
      rw [hbody, if_neg (by rintro ⟨h1, h2, h3⟩; omega)]
  · have hg' : ¬ digi (bt s j) = true := by rw [hg]; exact Bool.false_ne_true
    obtain ⟨m, hm⟩ : ∃ m, sg ((B s).drop j) = m := ⟨_, rfl⟩
    have hbody : body ((B s).drop j) = if m = 0 then (false, 0, 0) else (true, 4, m) := by
      rw [← hm, hd, body, if_neg hl', if_neg hg']
    have hx2 : B (s.extract j (j + 2)) = ((B s).drop j).take 2 := by rw [B_extract, List.drop_take]; congr 1; omega
    have hx1 : B (s.extract j (j + 1)) = ((B s).drop j).take 1 := by rw [B_extract, List.drop_take]; congr 1; omega
    (repeat refine Zr ?_)
    refine s_bs (cs := sc pairsB) (e := 9) (by kernel_rfl) (fun b7 w7 n7 => ?_)
    (repeat refine Zr ?_)
    refine s_bs (cs := sc onesB) (e := 9) (by kernel_rfl) (fun b8 w8 n8 => ?_)
    have hp8 : Rd w8 (some ⟨b7, 0, none⟩) pairsB := .inr ⟨b7, 0, rfl, fun j s hj => n8.kp.cell0 (blk_cells n7.blk j _ (sc_get hj))⟩
    have ho8 : Rd w8 (some ⟨b8, 0, none⟩) onesB := .inr ⟨b8, 0, rfl, fun j s hj => blk_cells n8.blk j _ (sc_get hj)⟩
    have k8 : Kp No w6 w8 := n7.kp.no n8.kp
    have kw8 := kw2.no k8
    refine s_v (r_as rfl) ?_
    refine k_nil ?_
    refine k_n ?_
    refine k_cut (σ := Unit) (fun _ => [(0, .string s), (1, .int .i64 j), (4, .pointer (some ⟨b4, 0, none⟩)), (6, .int .i64 ((j + m : Nat) : Int))]) (fun _ w' => w' = w8) ?_ ?_
    · (repeat refine Zr ?_)
      by_cases h2 : j + 2 ≤ s.size
      · refine s_set 116 true rfl (by simp; omega) ?_
        (repeat (first | refine Zr ?_ | refine Zn ?_ | refine Zu ?_ | refine Zg ?_))
        refine s_gv rfl (r_ss rfl rfl rfl rfl (by omega) (by omega) (by omega)) ?_
        refine s_gcall (us := []) (zs := []) rfl (by kernel_rfl) rfl rfl (rhas pairsB (some ⟨b7, 0, none⟩) 6 (s.extract j (j + 2)) w8 hp8 (by decide +kernel)) ?_
        rintro _ w9 ⟨rfl, rfl⟩
        rw [B_pairs, hx2, two_eq _ (by rw [List.length_drop, B_len]; omega)]
        (repeat (first | refine Zr ?_ | refine Zn ?_ | refine Zu ?_ | refine Zg ?_))
        refine c_b rfl (fun hy => ?_) (fun hn => ?_)
        · have hm2 : m = 2 := by rw [← hm, sg_2 hy]
          (repeat refine Zr ?_)
          refine l_cut () ⟨rfl, rfl, rfl, ?_, trivial⟩ rfl
          rw [hm2]; rfl
        · (repeat refine Zr ?_)
          refine s_v (r_ss rfl rfl rfl rfl (by omega) (by omega) (by omega)) ?_
          refine s_call (us := []) (zs := []) (by kernel_rfl) rfl rfl (rhas onesB (some ⟨b8, 0, none⟩) 17 (s.extract j (j + 1)) w9 ho8 (by decide +kernel)) ?_
          rintro _ w10 ⟨rfl, rfl⟩
          rw [B_ones, hx1, hd, one_eq]
          rw [hd] at hn
          (repeat refine Zr ?_)
          refine c_b rfl (fun h1 => ?_) (fun h1 => ?_)
          · have hm2 : m = 1 := by rw [← hm, hd, sg_1 hn h1]
            (repeat refine Zr ?_)
            refine l_cut () ⟨rfl, rfl, rfl, ?_, trivial⟩ rfl
            rw [hm2]; rfl
          · have hm2 : m = 0 := by rw [← hm, hd, sg_0 hn h1]
            (repeat refine Zr ?_)
            refine l_cut () ⟨rfl, rfl, rfl, ?_, trivial⟩ rfl
            rw [hm2]; rfl
      · have hn := two_no ((B s).drop j) (by rw [List.length_drop, B_len]; omega)
        refine s_set 116 false rfl (by simp; omega) ?_
        (repeat (first | refine Zr ?_ | refine Zn ?_ | refine Zu ?_ | refine Zg ?_))
        refine c_f rfl ?_
        (repeat refine Zr ?_)
        refine s_v (r_ss rfl rfl rfl rfl (by omega) (by omega) (by omega)) ?_
        refine s_call (us := []) (zs := []) (by kernel_rfl) rfl rfl (rhas onesB (some ⟨b8, 0, none⟩) 17 (s.extract j (j + 1)) w8 ho8 (by decide +kernel)) ?_
        rintro _ w10 ⟨rfl, rfl⟩
        rw [B_ones, hx1, hd, one_eq]
        rw [hd] at hn
        (repeat refine Zr ?_)
        refine c_b rfl (fun h1 => ?_) (fun h1 => ?_)
        · have hm2 : m = 1 := by rw [← hm, hd, sg_1 hn h1]
          (repeat refine Zr ?_)
          refine l_cut () ⟨rfl, rfl, rfl, ?_, trivial⟩ rfl
          rw [hm2]; rfl
        · have hm2 : m = 0 := by rw [← hm, hd, sg_0 hn h1]
          (repeat refine Zr ?_)
          refine l_cut () ⟨rfl, rfl, rfl, ?_, trivial⟩ rfl
          rw [hm2]; rfl
    rintro _ l w9 rfl
    (repeat refine Zr ?_)
    refine c_eq rfl (fun h0 => ?_) (fun h0 => ?_)
    · (repeat refine Zr ?_)
      refine s_st rfl rfl rfl rfl rfl (ag w9 k8) (Nat.le_of_ble_eq_true rfl) (fun w11 s11 => ?_)
      (repeat refine Zr ?_)
      refine ret_c2 rfl (rv_ag (vs := [.int .i64 0, .int .i64 j, .int .i64 j]) rfl rfl rfl s11.blk rfl rfl) (rv_t rfl) ⟨nxV_of (ok := false) (m := 0) hj ?_ rfl rfl (by simp), kw8.trans s11.kp (fun _ _ e => by omega)⟩
      rw [hbody, if_pos (by omega)]
    · (repeat refine Zr ?_)
      refine s_st rfl rfl rfl rfl rfl (ag w9 k8) (Nat.le_of_ble_eq_true rfl) (fun w11 s11 => ?_)
      (repeat refine Zr ?_)
      refine ret_c2 rfl (rv_ag (vs := [.int .i64 4, .int .i64 j, .int .i64 ((j + m : Nat) : Int)]) rfl rfl rfl s11.blk rfl rfl) (rv_t rfl) ⟨nxV_of (ok := true) (m := m) hj ?_ rfl rfl rfl, kw8.trans s11.kp (fun _ _ e => by omega)⟩
      rw [hbody, if_neg (by omega)]
end Tk
end Go.Proofs.Ytkllhfajldnpoaa
namespace Go.Proofs.Ytkllhfajldnpoaa
open Go Go.RowKit Fw
set_option linter.unusedVariables false
set_option maxRecDepth 20000
namespace Tk
set_option maxHeartbeats 1000000 in
theorem rAll (s : ByteArray) (w : World) (hs : s.size ≤ 1000000) :
    Ret Try.prog 43 [.string s] w fun v w1 => ∃ u, v = .tuple #[u, .int .i64 (allT (B s)).2.1, .int .i64 (allT (B s)).2.2] ∧ w1.ownsRow w.heap.size 101 3 u (allT (B s)).1.length (tc (allT (B s)).1) ∧ Kp No w w1 := by
  have hlen := B_len s
  refine ret_enter Try.func43 rfl Try.ntmps43 rfl ?_
  (repeat refine Zr ?_)
  refine c_dec rfl (fun hbig => ?_) (fun hsm => ?_)
  · have hall : allT (B s) = ([], 0, 1) := by rw [allT, if_pos (by omega)]
    (repeat refine Zr ?_)
    refine ret_3 rfl rfl rfl rfl ⟨.slice none 0 0, by rw [hall], ?_, Kp.refl _ _⟩
    rw [hall]
    exact ⟨by simp [tc], .inl ⟨rfl, rfl⟩⟩
  · obtain ⟨R, hR⟩ : ∃ R, als (s.size + 1) 0 (B s) = R := ⟨_, rfl⟩
    (repeat refine Zr ?_)
    refine k_loop (σ := Nat × Value × List T3 × Nat) (fun t => [(0, .string s), (5, t.2.1), (6, .int .i64 t.1)])
      (fun t w' => t.1 ≤ s.size ∧ t.2.2.2 = s.size - t.1 + 1 ∧ w'.ownsRow w.heap.size 101 3 t.2.1 t.2.2.1.length (tc t.2.2.1) ∧ t.2.2.1.length ≤ t.1 ∧ Kp No w w' ∧
        (∃ f', s.size - t.1 + 1 ≤ f' ∧ R = (t.2.2.1 ++ (als f' t.1 ((B s).drop t.1)).1, (als f' t.1 ((B s).drop t.1)).2))) (fun t => s.size - t.1 + 1) (0, .slice none 0 0, [], s.size + 1) ⟨rfl, rfl, rfl, trivial⟩
      ⟨Nat.zero_le _, by simp, ⟨by simp [tc], .inl ⟨rfl, rfl⟩⟩, by simp, Kp.refl _ _, s.size + 1, by simp, by simp [hR]⟩ ?_
    rintro ⟨a, v, ts, fu⟩ l w1 ⟨ha, hfu, hown, htl, k1, f', hf', hals⟩
    simp only at ha hfu hown htl k1 hf' hals
    dsimp only
    have hnl := nx_le ((B s).drop a)
    rw [List.length_drop, B_len] at hnl
    obtain ⟨g, rfl⟩ : ∃ g, f' = g + 1 := ⟨f' - 1, by omega⟩
    obtain ⟨ok, k, n, m, hnx⟩ : ∃ ok k n m, nx ((B s).drop a) = ⟨ok, k, n, m⟩ := ⟨_, _, _, _, rfl⟩
    have hpos : ok = true → k ≠ 0 → 0 < m := fun h hk => by have := nx_pos (L := (B s).drop a) (by rw [hnx]; exact h) (by rw [hnx]; exact hk); rw [hnx] at this; exact this
    rw [hnx] at hnl
    simp only at hnl
    rw [als, hnx] at hals
    simp only at hals
    obtain ⟨av, cv, rfl, _, _, _⟩ := own_read hown
    (repeat refine Zr ?_)
    refine s_call (us := []) (zs := []) (by kernel_rfl) rfl rfl (rNext s a w1 hs ha) ?_
    rintro _ w2 ⟨rfl, k2⟩
    rw [nxV, tokV, hnx]
    (repeat refine Zr ?_)
    refine s_al rfl (fun b7 w3 n3 => ?_)
    refine s_st rfl rfl rfl rfl rfl n3.blk (Nat.le_of_ble_eq_true rfl) (fun w4 s4 => ?_)
    have y3 := n3.ge
    have z2 := k2.size
    have z3 := n3.kp.size
    have z4 := s4.sz
    have z1 := k1.size
    have hb7 := s4.blk
    have k4 : Kp No w1 w4 := (k2.no n3.kp).trans s4.kp (fun _ _ e => by omega)
    have kw4 := k1.no k4
    have own4 := own_kp hown k4 (fun _ _ => id)
    (repeat refine Zr ?_)
    cases ok with
    | false =>
      refine k_re 19 (v' := .bool true) rfl rfl ?_
      refine c_t rfl ?_
      have hall : allT (B s) = ([], ((a + n : Nat) : Int), 2) := by
        rw [allT, if_neg (by omega), hlen, hR, hals]; rfl
      (repeat refine Zr ?_)
      refine k_q (by kernel_rfl) (by kernel_rfl) ?_
      refine q_v (fun w' hw => r_fa rfl rfl) ?_
      refine q_v (fun w' hw => r_fa rfl rfl) ?_
      refine q_v (fun w' hw => r_ld rfl rfl (cell_of_blk (hw.get0 hb7) (by rfl))) ?_
      refine q_v (fun w' hw => r_mv rfl) ?_
      refine q_v (fun w' hw => r_as rfl) ?_
      refine q_v (fun w' hw => r_as rfl) ?_
      refine q_v (fun w' hw => r_as rfl) ?_
      refine q_nil (fun w5 k5 => ?_)
      (repeat refine Zr ?_)
      refine ret_3 rfl rfl rfl rfl ⟨.slice none 0 0, by rw [hall]; rfl, ?_, kw4.no k5⟩
      rw [hall]
      exact ⟨by simp [tc], .inl ⟨rfl, rfl⟩⟩
    | true =>
      refine k_re 19 (v' := .bool false) rfl rfl ?_
      refine c_f rfl ?_
      (repeat refine Zr ?_)
      refine s_v (r_ldb (vs := [.int .i64 k, .int .i64 ((a + n : Nat) : Int), .int .i64 ((a + n + m : Nat) : Int)]) rfl rfl rfl hb7 rfl rfl) ?_
      refine s_bs (cs := [.int .i64 k, .int .i64 ((a + n : Nat) : Int), .int .i64 ((a + n + m : Nat) : Int)]) rfl (fun b8 w5 n5 => ?_)
      have own5 := own_kp own4 n5.kp (fun _ _ => id)
      have z5 := n5.kp.size
      refine s_app (size := 3) (bytes := 24) (base := w.heap.size) (news := [.int .i64 k, .int .i64 ((a + n : Nat) : Int), .int .i64 ((a + n + m : Nat) : Int)]) rfl rfl rfl rfl rfl rfl rfl rfl own5 rfl (blk_cells n5.blk) rfl rfl (by omega) (by omega) (by omega) ?_
      intro v6 w6 a6
      have hbs : ∀ g, (Value.slice av ts.length cv).ownBlock = some g → w.heap.size ≤ g ∧ g < w1.heap.size := fun g e => own_lt hown e
      have hb7' := a6.kp.get (n5.kp.get0 hb7) (fun e => by have := hbs b7 e.symm; omega)
      have k6 : Kp No w w6 := (kw4.no n5.kp).trans a6.kp (fun i hi e => by have := hbs i e.symm; omega)
      have own6 : w6.ownsRow w.heap.size 101 3 v6 (ts ++ [(k, ((a + n : Nat) : Int), ((a + n + m : Nat) : Int))]).length (tc (ts ++ [(k, ((a + n : Nat) : Int), ((a + n + m : Nat) : Int))])) := by
        have := a6.own
        have e1 : tc (ts ++ [(k, ((a + n : Nat) : Int), ((a + n + m : Nat) : Int))]) = tc ts ++ [.int .i64 k, .int .i64 ((a + n : Nat) : Int), .int .i64 ((a + n + m : Nat) : Int)] := by simp [tc]
        rw [e1, List.length_append, List.length_singleton]
        exact this
      obtain ⟨a6', c6, rfl, _, _, _⟩ := own_read a6.own
      (repeat refine Zr ?_)
      refine c_eq rfl (fun hk => ?_) (fun hk => ?_)
      · subst hk
        have hall : allT (B s) = (ts ++ [(0, ((a + n : Nat) : Int), ((a + n + m : Nat) : Int))], 0, 0) := by
          rw [allT, if_neg (by omega), hlen, hR, hals]; rfl
        (repeat refine Zr ?_)
        refine ret_3 rfl rfl rfl rfl ⟨.slice a6' (ts.length + 1) c6, by rw [hall], ?_, k6⟩
        rw [hall]
        exact own6
      · have hm := hpos rfl hk
        (repeat refine Zr ?_)
        refine l_next (a + n + m, .slice a6' (ts.length + 1) c6, ts ++ [(k, ((a + n : Nat) : Int), ((a + n + m : Nat) : Int))], s.size - (a + n + m) + 1) ⟨rfl, rfl, rfl, trivial⟩
          ⟨by show a + n + m ≤ s.size; omega, rfl, own6, by simp only [List.length_append, List.length_singleton]; omega, k6, g, by show s.size - (a + n + m) + 1 ≤ g; omega, ?_⟩ (by show s.size - (a + n + m) + 1 < s.size - a + 1; omega)
        show R = (ts ++ [(k, ((a + n : Nat) : Int), ((a + n + m : Nat) : Int))] ++ (als g (a + n + m) ((B s).drop (a + n + m))).1, (als g (a + n + m) ((B s).drop (a + n + m))).2)
        rw [hals]
        simp only [if_true, if_neg hk, List.drop_drop]
        rw [show a + (n + m) = a + n + m from by omega]
        simp
end Tk
end Go.Proofs.Ytkllhfajldnpoaa
