/- What the proofs of this seat lean on, part 4. -/
import Derived.Test.YtkllhfajldnpoaaPk3
import Derived.Test.YtkllhfajldnpoaaChecked
namespace Go.Proofs.Ytkllhfajldnpoaa.Sy
open Go Go.RowKit Fw
set_option linter.unusedVariables false
abbrev nilS : Value := .slice none 0 0
def sv (p : List Int) : Value := .string (strOfNums p)
theorem sv_B (s : ByteArray) : sv (B s) = .string s := by
  rw [sv]; congr 1; exact B_inj (B_nums fun c hc => B_range hc)
/-- The slices of what was put; the blocks of the lists in it. -/
structure VS where
  x : Value
  s : Value
  f : Value
  o : Nat → Prop
def exC (r : Ex × Value) : List Value := [.int .i64 r.1.k, .int .i64 r.1.f, .int .i64 r.1.e, .int .i64 r.1.n, sv r.1.nm, sv r.1.op, .int .i64 r.1.a, .int .i64 r.1.b, r.2]
def stC (r : St × Value × Value) : List Value := [.int .i64 r.1.k, .int .i64 r.1.f, .int .i64 r.1.e, sv r.1.nm, .int .i64 r.1.n, .int .i64 r.1.a, .int .i64 r.1.b, r.2.1, r.2.2]
def fnC (r : Fn × Value × Value) : List Value := [sv r.1.nm, .int .i64 r.1.f, .int .i64 r.1.e, r.2.1, .int .i64 r.1.ty, r.2.2]
/-- A list of numbers, a list of texts. -/
def LI (w : World) (v : Value) (l : List Int) : Prop := w.ownsRow 0 3 1 v l.length (l.map (Value.int .i64))
def LS (w : World) (v : Value) (l : List (List Int)) : Prop := w.ownsRow 0 9 1 v l.length (l.map sv)
/-- The list's block is one of ours. -/
def Ow (V : VS) (v : Value) : Prop := ∀ g, v.ownBlock = some g → V.o g
def RX (w : World) (V : VS) (l : List Ex) : Prop := ∃ rx : List (Ex × Value), rx.map Prod.fst = l ∧ w.ownsRow 0 146 9 V.x l.length (rx.flatMap exC) ∧ ∀ r ∈ rx, LI w r.2 r.1.l ∧ Ow V r.2
def RS (w : World) (V : VS) (l : List St) : Prop := ∃ rx : List (St × Value × Value), rx.map Prod.fst = l ∧ w.ownsRow 0 86 9 V.s l.length (rx.flatMap stC) ∧ ∀ r ∈ rx, (LI w r.2.1 r.1.th ∧ Ow V r.2.1) ∧ LI w r.2.2 r.1.el ∧ Ow V r.2.2
def RF (w : World) (V : VS) (l : List Fn) : Prop := ∃ rx : List (Fn × Value × Value), rx.map Prod.fst = l ∧ w.ownsRow 0 46 6 V.f l.length (rx.flatMap fnC) ∧ ∀ r ∈ rx, (LS w r.2.1 r.1.ps ∧ Ow V r.2.1) ∧ LI w r.2.2 r.1.bd ∧ Ow V r.2.2
theorem own_ty {w : World} {base : Nat} {e : TypeId} {size : Nat} {v : Value} {n : Nat} {cs : List Value} (h : w.ownsRow base e size v n cs) {g : Nat} (hg : v.ownBlock = some g) : ∃ cur, w.heap[g]? = some (.cells cur e (0, 0)) := by
  obtain ⟨_, h⟩ := h
  rcases h with ⟨rfl, _⟩ | ⟨g', cap, cur, rfl, _, hb, _⟩
  · cases hg
  · cases hg; exact ⟨cur, hb⟩
theorem ty_ne {w : World} {g b : Nat} {cur cur' : Array Value} {e e' : TypeId} {fz fz' : Nat × Nat} (h : w.heap[g]? = some (.cells cur e fz)) (h' : w.heap[b]? = some (.cells cur' e' fz')) (he : Nat.beq e e' = false) : g ≠ b := by
  rintro rfl
  rw [h] at h'
  cases h'
  simp at he
/-- A list's value. -/
theorem LI.val {w : World} {v : Value} {l : List Int} (h : LI w v l) : ∃ a c, v = .slice a l.length c := by
  obtain ⟨a, c, e, _⟩ := own_read h
  exact ⟨a, c, e⟩
theorem LS.val {w : World} {v : Value} {l : List (List Int)} (h : LS w v l) : ∃ a c, v = .slice a l.length c := by
  obtain ⟨a, c, e, _⟩ := own_read h
  exact ⟨a, c, e⟩
theorem Ow.nil {V : VS} : Ow V (.slice none 0 0) := fun g hg => by cases hg
theorem LI.nil {w : World} : LI w (.slice none 0 0) [] := ⟨rfl, .inl ⟨rfl, rfl⟩⟩
/-- A row that was just made. -/
theorem own_new {w w1 : World} {b : Nat} {e : TypeId} {cs : List Value} (h : Nb w b cs e w1) (hl : cs.length ≤ maxLen) : w1.ownsRow 0 e 1 (.slice (some ⟨b, 0, none⟩) cs.length cs.length) cs.length cs :=
  ⟨by simp, .inr ⟨b, cs.length, cs.toArray, rfl, Nat.zero_le _, h.blk, Nat.le_refl _, hl, by simp, by simp⟩⟩
/-- A program in memory. -/
def Tr (w : World) (ux us uf : Value) (S : PS) : Prop := RX w ⟨ux, us, uf, fun _ => True⟩ S.ex ∧ RS w ⟨ux, us, uf, fun _ => True⟩ S.st ∧ RF w ⟨ux, us, uf, fun _ => True⟩ S.fn
theorem Tr.kp {w w' : World} {ux us uf : Value} {S : PS} (h : Tr w ux us uf S) (k : Kp No w w') : Tr w' ux us uf S := by
  have no : ∀ {base : Nat} {e : TypeId} {size : Nat} {v : Value} {n : Nat} {cs : List Value}, w.ownsRow base e size v n cs → w'.ownsRow base e size v n cs := fun ho => own_kp ho k fun _ _ h => h
  obtain ⟨⟨rx, e1, o1, l1⟩, ⟨ry, e2, o2, l2⟩, rz, e3, o3, l3⟩ := h
  exact ⟨⟨rx, e1, no o1, fun r hr => ⟨no (l1 r hr).1, (l1 r hr).2⟩⟩, ⟨ry, e2, no o2, fun r hr => ⟨⟨no (l2 r hr).1.1, (l2 r hr).1.2⟩, no (l2 r hr).2.1, (l2 r hr).2.2⟩⟩,
    ⟨rz, e3, no o3, fun r hr => ⟨⟨no (l3 r hr).1.1, (l3 r hr).1.2⟩, no (l3 r hr).2.1, (l3 r hr).2.2⟩⟩⟩
theorem nilown {w : World} {e : TypeId} {z : Nat} : w.ownsRow 0 e z nilS 0 [] := ⟨by simp, .inl ⟨rfl, rfl⟩⟩
theorem Tr.val {w : World} {ux us uf : Value} {S : PS} (h : Tr w ux us uf S) : ∃ a b c a' b' c', ux = .slice a S.ex.length a' ∧ us = .slice b S.st.length b' ∧ uf = .slice c S.fn.length c' := by
  obtain ⟨⟨rx, e1, o1, l1⟩, ⟨ry, e2, o2, l2⟩, rz, e3, o3, l3⟩ := h
  obtain ⟨a, a', h1, _⟩ := own_read o1
  obtain ⟨b, b', h2, _⟩ := own_read o2
  obtain ⟨c, c', h3, _⟩ := own_read o3
  exact ⟨a, b, c, a', b', c', h1, h2, h3⟩
theorem Tr.ex {w : World} {us uf : Value} {S : PS} {a : Option Addr} {n c : Nat} (h : Tr w (.slice a n c) us uf S) {i : Nat} {x : Ex} (hx : S.ex[i]? = some x) :
    ∃ g lv, a = some ⟨g, 0, none⟩ ∧ LI w lv x.l ∧ ∀ (j : Nat) (u : Value), (exC (x, lv))[j]? = some u → w.cell? ⟨g, 0 + (i : Int).toNat * 9 + j, none⟩ = some u := by
  obtain ⟨⟨rx, e1, o1, l1⟩, _⟩ := h
  rw [← e1, List.getElem?_map, Option.map_eq_some_iff] at hx
  obtain ⟨r, hr, rfl⟩ := hx
  obtain ⟨a', c', e, _, h0, hc⟩ := own_read o1
  simp only [Value.slice.injEq] at e
  obtain ⟨rfl, rfl, rfl⟩ := e
  have hl : 0 < S.ex.length := by
    rw [← e1, List.length_map]
    have := (List.getElem?_eq_some_iff.1 hr).1
    omega
  cases a with
  | none => have := h0 rfl; omega
  | some ad =>
    obtain ⟨g, rfl, _, _, hcell⟩ := hc _ rfl
    refine ⟨g, r.2, rfl, (l1 r (List.mem_of_getElem? hr)).1, fun j u hj => ?_⟩
    have hj9 : j < 9 := (List.getElem?_eq_some_iff.1 hj).1
    rw [Nat.add_assoc]
    exact hcell _ _ (by rw [Int.toNat_natCast, flat_get (f := exC) (sz := 9) (fun _ => rfl) rx i j r hr hj9]; exact hj)
theorem Tr.st {w : World} {ux uf : Value} {S : PS} {a : Option Addr} {n c : Nat} (h : Tr w ux (.slice a n c) uf S) {i : Nat} {x : St} (hx : S.st[i]? = some x) :
    ∃ g lv mv, a = some ⟨g, 0, none⟩ ∧ LI w lv x.th ∧ LI w mv x.el ∧ ∀ (j : Nat) (u : Value), (stC (x, lv, mv))[j]? = some u → w.cell? ⟨g, 0 + (i : Int).toNat * 9 + j, none⟩ = some u := by
  obtain ⟨_, ⟨rx, e1, o1, l1⟩, _⟩ := h
  rw [← e1, List.getElem?_map, Option.map_eq_some_iff] at hx
  obtain ⟨r, hr, rfl⟩ := hx
  obtain ⟨a', c', e, _, h0, hc⟩ := own_read o1
  simp only [Value.slice.injEq] at e
  obtain ⟨rfl, rfl, rfl⟩ := e
  have hl : 0 < S.st.length := by
    rw [← e1, List.length_map]
    have := (List.getElem?_eq_some_iff.1 hr).1
    omega
  cases a with
  | none => have := h0 rfl; omega
  | some ad =>
    obtain ⟨g, rfl, _, _, hcell⟩ := hc _ rfl
    refine ⟨g, r.2.1, r.2.2, rfl, (l1 r (List.mem_of_getElem? hr)).1.1, (l1 r (List.mem_of_getElem? hr)).2.1, fun j u hj => ?_⟩
    have hj9 : j < 9 := (List.getElem?_eq_some_iff.1 hj).1
    rw [Nat.add_assoc]
    exact hcell _ _ (by rw [Int.toNat_natCast, flat_get (f := stC) (sz := 9) (fun _ => rfl) rx i j r hr hj9]; exact hj)
theorem Tr.fn {w : World} {ux us : Value} {S : PS} {a : Option Addr} {n c : Nat} (h : Tr w ux us (.slice a n c) S) {i : Nat} {x : Fn} (hx : S.fn[i]? = some x) :
    ∃ g lv mv, a = some ⟨g, 0, none⟩ ∧ LS w lv x.ps ∧ LI w mv x.bd ∧ ∀ (j : Nat) (u : Value), (fnC (x, lv, mv))[j]? = some u → w.cell? ⟨g, 0 + (i : Int).toNat * 6 + j, none⟩ = some u := by
  obtain ⟨_, _, rx, e1, o1, l1⟩ := h
  rw [← e1, List.getElem?_map, Option.map_eq_some_iff] at hx
  obtain ⟨r, hr, rfl⟩ := hx
  obtain ⟨a', c', e, _, h0, hc⟩ := own_read o1
  simp only [Value.slice.injEq] at e
  obtain ⟨rfl, rfl, rfl⟩ := e
  have hl : 0 < S.fn.length := by
    rw [← e1, List.length_map]
    have := (List.getElem?_eq_some_iff.1 hr).1
    omega
  cases a with
  | none => have := h0 rfl; omega
  | some ad =>
    obtain ⟨g, rfl, _, _, hcell⟩ := hc _ rfl
    refine ⟨g, r.2.1, r.2.2, rfl, (l1 r (List.mem_of_getElem? hr)).1.1, (l1 r (List.mem_of_getElem? hr)).2.1, fun j u hj => ?_⟩
    have hj6 : j < 6 := (List.getElem?_eq_some_iff.1 hj).1
    rw [Nat.add_assoc]
    exact hcell _ _ (by rw [Int.toNat_natCast, flat_get (f := fnC) (sz := 6) (fun _ => rfl) rx i j r hr hj6]; exact hj)
theorem wrap_u8 {n : Int} (h : 0 ≤ n ∧ n < 256) : IntKind.u8.wrap n = n := by
  simp [IntKind.wrap, IntKind.bits, IntKind.signed]; omega
theorem num_step (l : List Int) (i : Nat) (c : Int) (h : l[i]? = some c) : num (l.take (i + 1)) = num (l.take i) * 10 + (c - 48) := by
  have : l.take (i + 1) = l.take i ++ [c] := by rw [List.take_add_one, h]; rfl
  rw [this, num, List.foldl_append]; rfl
theorem num_tk (l : List Int) (h : ∀ c ∈ l, 48 ≤ c ∧ c ≤ 57) : ∀ i, i ≤ l.length → 0 ≤ num (l.take i) ∧ num (l.take i) < 10 ^ i := by
  intro i
  induction i with
  | zero => intro _; simp [num]
  | succ i ih =>
    intro hi
    have h1 := ih (by omega)
    obtain ⟨c, hc⟩ : ∃ c, l[i]? = some c := ⟨_, List.getElem?_eq_getElem (by omega)⟩
    have h2 := h c (List.mem_of_getElem? hc)
    rw [num_step l i c hc, Int.pow_succ]
    omega
theorem B_of {l : List Int} (h : l.all (fun c => decide (0 ≤ c) && decide (c < 256)) = true) : B (Tk.strOf l) = l := by
  have e : Tk.strOf l = strOfNums l := rfl
  rw [e]
  refine B_nums fun c hc => ?_
  have := List.all_eq_true.1 h c hc
  simpa using this
def sgB (v : Nat) : List ByteArray := (sgs v).map Tk.strOf
theorem sgB_B : ∀ v, v < 5 → (sgB v).map B = sgs v := by
  intro v hv
  match v, hv with
  | 0, _ => exact (by kernel_rfl : (sgB 0).map B = sgs 0)
  | 1, _ => exact (by kernel_rfl : (sgB 1).map B = sgs 1)
  | 2, _ => exact (by kernel_rfl : (sgB 2).map B = sgs 2)
  | 3, _ => exact (by kernel_rfl : (sgB 3).map B = sgs 3)
  | 4, _ => exact (by kernel_rfl : (sgB 4).map B = sgs 4)
theorem sgB_ne {v : Nat} (hv : v < 5) : [] ∉ (sgB v).map B := by
  rw [sgB_B v hv]
  match v, hv with
  | 0, _ => decide
  | 1, _ => decide
  | 2, _ => decide
  | 3, _ => decide
  | 4, _ => decide
theorem sgB_len {v : Nat} (hv : v < 5) : (sgB v).length ≤ 1000 := by
  match v, hv with
  | 0, _ => decide
  | 1, _ => decide
  | 2, _ => decide
  | 3, _ => decide
  | 4, _ => decide
end Go.Proofs.Ytkllhfajldnpoaa.Sy
namespace Go.Proofs.Ytkllhfajldnpoaa.Tk
open Go Fw
set_option linter.unusedVariables false
theorem als_zero (a : Nat) (L : List Int) : als 0 a L = ([], some (a : Int)) := rfl
theorem als_bad {f a : Nat} {L : List Int} (h : (nx L).ok = false) : als (f + 1) a L = ([], some ((a + (nx L).n : Nat) : Int)) := by
  rw [als, if_neg (by rw [h]; exact Bool.false_ne_true)]
theorem als_end {f a : Nat} {L : List Int} (h : (nx L).ok = true) (hk : (nx L).k = 0) : als (f + 1) a L = ([(0, ((a + (nx L).n : Nat) : Int), ((a + (nx L).n + (nx L).m : Nat) : Int))], none) := by
  rw [als, if_pos h, if_pos hk]
theorem als_more {f a : Nat} {L : List Int} (h : (nx L).ok = true) (hk : (nx L).k ≠ 0) :
    als (f + 1) a L = (((nx L).k, ((a + (nx L).n : Nat) : Int), ((a + (nx L).n + (nx L).m : Nat) : Int)) :: (als f (a + (nx L).n + (nx L).m) (L.drop ((nx L).n + (nx L).m))).1, (als f (a + (nx L).n + (nx L).m) (L.drop ((nx L).n + (nx L).m))).2) := by
  rw [als, if_pos h, if_neg hk]
/-- The first of all. -/
theorem als_cons {f a : Nat} {L : List Int} {x : T3} {r : List T3} (h : als f a L = (x :: r, none)) :
    (nx L).ok = true ∧ x = ((nx L).k, ((a + (nx L).n : Nat) : Int), ((a + (nx L).n + (nx L).m : Nat) : Int)) ∧
      ((nx L).k = 0 ∧ r = [] ∨ (nx L).k ≠ 0 ∧ ∃ g, f = g + 1 ∧ als g (a + (nx L).n + (nx L).m) (L.drop ((nx L).n + (nx L).m)) = (r, none)) := by
  cases f with
  | zero => rw [als_zero] at h; cases h
  | succ g =>
    by_cases hok : (nx L).ok = true
    · by_cases hk : (nx L).k = 0
      · rw [als_end hok hk] at h
        simp only [Prod.mk.injEq, List.cons.injEq, and_true] at h
        exact ⟨hok, by rw [hk]; exact h.1.symm, .inl ⟨hk, h.2.symm⟩⟩
      · rw [als_more hok hk] at h
        simp only [Prod.mk.injEq, List.cons.injEq] at h
        exact ⟨hok, h.1.1.symm, .inr ⟨hk, g, rfl, Prod.ext h.1.2 h.2⟩⟩
    · rw [als_bad (by simpa using hok)] at h; cases h
theorem als_ne {f a : Nat} {L : List Int} : als f a L ≠ ([], none) := by
  intro h
  cases f with
  | zero => rw [als_zero] at h; cases h
  | succ g =>
    by_cases hok : (nx L).ok = true
    · by_cases hk : (nx L).k = 0
      · rw [als_end hok hk] at h; cases h
      · rw [als_more hok hk] at h; cases h
    · rw [als_bad (by simpa using hok)] at h; cases h
/-- All is good: what it says. -/
theorem all_ok {L : List Int} (h : (allT L).2.2 = 0) : L.length ≤ 20000 ∧ als (L.length + 1) 0 L = ((allT L).1, none) ∧ (allT L).2.1 = 0 := by
  unfold allT at h ⊢
  split
  · rename_i hb; rw [if_pos hb] at h; cases h
  · rename_i hb
    rw [if_neg hb] at h
    split
    · rename_i l he; exact ⟨by omega, by rw [he], rfl⟩
    · rename_i l p he; rw [he] at h; cases h
theorem all_bad {L : List Int} (h : (allT L).2.2 ≠ 0) : (allT L).1 = [] := by
  unfold allT at h ⊢
  split
  · rfl
  · rename_i hb
    rw [if_neg hb] at h
    split
    · rename_i l he; rw [he] at h; exact absurd rfl h
    · rfl
theorem all_len {L : List Int} (h : L.length ≤ 20000) : (allT L).1.length ≤ L.length + 1 := by
  have := als_len (L.length + 1) 0 L
  rw [allT, if_neg (by omega)]
  split
  · rename_i l he; rw [he] at this; exact this
  · simp
/-- Where tokens stand. -/
theorem als_bounds : ∀ (f a : Nat) (L : List Int) (t : T3), t ∈ (als f a L).1 → (a : Int) ≤ t.2.1 ∧ t.2.1 ≤ t.2.2 ∧ t.2.2 ≤ ((a + L.length : Nat) : Int) := by
  intro f
  induction f with
  | zero => intro a L t h; simp [als_zero] at h
  | succ g ih =>
    intro a L t h
    have hle := nx_le L
    by_cases hok : (nx L).ok = true
    · by_cases hk : (nx L).k = 0
      · rw [als_end hok hk] at h
        simp only [List.mem_singleton] at h
        subst h
        simp only
        omega
      · rw [als_more hok hk] at h
        simp only [List.mem_cons] at h
        rcases h with rfl | h
        · simp only; omega
        · have := ih _ _ t h
          rw [List.length_drop] at this
          omega
    · rw [als_bad (by simpa using hok)] at h; simp at h
theorem all_bounds {L : List Int} {t : T3} (h : t ∈ (allT L).1) : 0 ≤ t.2.1 ∧ t.2.1 ≤ t.2.2 ∧ t.2.2 ≤ (L.length : Int) := by
  by_cases h0 : (allT L).2.2 = 0
  · obtain ⟨_, h1, _⟩ := all_ok h0
    have := als_bounds (L.length + 1) 0 L t (by rw [h1]; exact h)
    omega
  · rw [all_bad h0] at h; simp at h
theorem nx_end {L : List Int} (hok : (nx L).ok = true) (hk : (nx L).k = 0) : (nx L).m = 0 ∧ (nx L).n = L.length := by
  by_cases h0 : L.drop (sk false L) = []
  · have hn : (nx L).n = sk false L := rfl
    have hle := sk_le L false
    have := congrArg List.length h0
    rw [List.length_drop, List.length_nil] at this
    refine ⟨?_, by omega⟩
    have : (nx L).m = (body (L.drop (sk false L))).2.2 := rfl
    rw [this, h0]; rfl
  · exact absurd hk (body_pos (L := L.drop (sk false L)) hok h0).2
/-- A token's bytes. -/
def wd (L : List Int) (t : T3) : List Int := (L.take t.2.2.toNat).drop t.2.1.toNat
def km (L : List Int) (t : T3) : Int × Nat := (t.1, (wd L t).length)
end Go.Proofs.Ytkllhfajldnpoaa.Tk
namespace Go.Proofs.Ytkllhfajldnpoaa.Tk
open Go Fw
set_option linter.unusedVariables false
theorem als_each (L : List Int) : ∀ (ts : List T3) (f a : Nat), als f a (L.drop a) = (ts, none) → ∀ t ∈ ts, ∃ b : Nat, (nx (L.drop b)).ok = true ∧ t = ((nx (L.drop b)).k, ((b + (nx (L.drop b)).n : Nat) : Int), ((b + (nx (L.drop b)).n + (nx (L.drop b)).m : Nat) : Int)) := by
  intro ts
  induction ts with
  | nil => intro f a h t ht; cases ht
  | cons x r ih =>
    intro f a h t ht
    obtain ⟨h1, h2, h3⟩ := als_cons h
    rcases List.mem_cons.1 ht with ht | ht
    · exact ⟨a, h1, by rw [ht, h2]⟩
    · rcases h3 with ⟨_, rfl⟩ | ⟨_, g, _, h4⟩
      · cases ht
      · rw [List.drop_drop] at h4
        rw [Nat.add_assoc] at h4
        exact ih _ _ h4 t ht
theorem als_last : ∀ (ts : List T3) (f a : Nat) (L : List Int), als f a L = (ts, none) → ∀ (i : Nat) (t : T3), ts[i]? = some t → (i + 1 = ts.length ↔ t.1 = 0) := by
  intro ts
  induction ts with
  | nil => intro f a L h i t ht; simp at ht
  | cons x r ih =>
    intro f a L h i t ht
    obtain ⟨h1, h2, h3⟩ := als_cons h
    cases i with
    | zero =>
      simp only [List.getElem?_cons_zero, Option.some.injEq] at ht
      subst ht
      rcases h3 with ⟨hk, rfl⟩ | ⟨hk, g, _, h4⟩
      · simp [h2, hk]
      · have : r ≠ [] := fun e => by rw [e] at h4; exact als_ne h4
        have hl : 0 < r.length := by cases r with | nil => exact (this rfl).elim | cons => simp
        rw [h2]
        simp only [List.length_cons]
        constructor
        · intro e; omega
        · intro e; exact (hk e).elim
    | succ i =>
      simp only [List.getElem?_cons_succ] at ht
      rcases h3 with ⟨hk, rfl⟩ | ⟨hk, g, _, h4⟩
      · simp at ht
      · have := ih _ _ _ h4 i t ht
        simp only [List.length_cons]
        rw [← this]
        omega
theorem rn_all' (p : Int → Bool) : ∀ L : List Int, ∀ c ∈ L.take (rn p L), p c = true := by
  intro L
  induction L with
  | nil => intro c hc; simp [rn] at hc
  | cons x r ih =>
    intro c hc
    unfold rn at hc
    split at hc
    · rename_i h
      rw [List.take_succ_cons] at hc
      rcases List.mem_cons.1 hc with rfl | hc
      · exact h
      · exact ih c hc
    · simp at hc
theorem body_kind (L : List Int) : 0 ≤ (body L).2.1 ∧ (body L).2.1 ≤ 4 := by
  unfold body
  split
  · decide
  · split
    · simp only; split <;> omega
    · split
      · split <;> simp
      · split <;> simp
theorem body_num {L : List Int} (h : (body L).2.1 = 2) : (body L).2.2 ≤ 18 ∧ ∀ c ∈ L.take (body L).2.2, 48 ≤ c ∧ c ≤ 57 := by
  unfold body at h ⊢
  split at h
  · simp at h
  · split at h
    · simp only at h; split at h <;> omega
    · rename_i hl
      rw [if_neg hl]
      split at h
      · rename_i hd
        rw [if_pos hd]
        split at h
        · rename_i hc
          rw [if_pos hc]
          refine ⟨hc.1, fun c hm => ?_⟩
          have := rn_all' digi _ c hm
          simp only [digi, Bool.and_eq_true, decide_eq_true_eq] at this
          exact this
        · simp at h
      · split at h <;> simp at h
end Go.Proofs.Ytkllhfajldnpoaa.Tk
namespace Go.Proofs.Ytkllhfajldnpoaa.Sy
open Go Fw
set_option linter.unusedVariables false
theorem wd_take {L : List Int} {b n m : Nat} : (L.take (b + n + m)).drop (b + n) = ((L.drop b).drop n).take m := by
  rw [List.drop_take, List.drop_drop]
  congr 1; omega
/-- A token's bytes. -/
def tkw (L : List Int) (t : Tk.T3) : List Int := (L.take t.2.2.toNat).drop t.2.1.toNat
/-- What a text's tokens are like. -/
structure TOk (L : List Int) : Prop where
  size : L.length ≤ 20000
  len : (Tk.allT L).1.length ≤ L.length + 1
  last : ∀ (i : Nat) t, (Tk.allT L).1[i]? = some t → i + 1 = (Tk.allT L).1.length → t.1 = 0
  lastw : ∀ (i : Nat) t, (Tk.allT L).1[i]? = some t → i + 1 = (Tk.allT L).1.length → tkw L t = []
  rng : ∀ (i : Nat) t, (Tk.allT L).1[i]? = some t → (0 ≤ t.1 ∧ t.1 ≤ 4) ∧ 0 ≤ t.2.1 ∧ t.2.1 ≤ t.2.2 ∧ t.2.2 ≤ L.length
  num : ∀ (i : Nat) t, (Tk.allT L).1[i]? = some t → t.1 = 2 → (tkw L t).length ≤ 18 ∧ ∀ c ∈ tkw L t, 48 ≤ c ∧ c ≤ 57
  ne : (Tk.allT L).1 ≠ []
  k0 : ∀ (i : Nat) t, (Tk.allT L).1[i]? = some t → t.1 = 0 → i + 1 = (Tk.allT L).1.length
theorem tok_of {L : List Int} (h0 : (Tk.allT L).2.2 = 0) : TOk L := by
  obtain ⟨hL, hals, _⟩ := Tk.all_ok h0
  have hlen := Tk.all_len hL
  have hbd := fun t => Tk.all_bounds (L := L) (t := t)
  have hls := Tk.als_last _ _ _ _ hals
  have heach := Tk.als_each L _ _ 0 (by rw [List.drop_zero]; exact hals)
  refine ⟨by omega, by omega, fun i t ht hi => (hls i t ht).1 hi, fun i t ht hi => ?_, fun i t ht => ?_, fun i t ht hk => ?_, fun e => (by rw [e] at hals; exact Tk.als_ne hals), fun i t ht hk => (hls i t ht).2 hk⟩
  · have hk := (hls i t ht).1 hi
    obtain ⟨b, h1, h2⟩ := heach t (List.mem_of_getElem? ht)
    rw [h2] at hk
    obtain ⟨hm, _⟩ := Tk.nx_end h1 hk
    rw [tkw, h2]
    simp only [hm]
    rw [Int.toNat_natCast, Int.toNat_natCast]
    exact List.drop_eq_nil_of_le (by rw [List.length_take]; omega)
  · obtain ⟨b, h1, h2⟩ := heach t (List.mem_of_getElem? ht)
    have := hbd t (List.mem_of_getElem? ht)
    refine ⟨?_, by omega, by omega, by omega⟩
    rw [h2]
    exact Tk.body_kind _
  · obtain ⟨b, h1, h2⟩ := heach t (List.mem_of_getElem? ht)
    rw [h2] at hk
    obtain ⟨hl, hd⟩ := Tk.body_num (L := (L.drop b).drop (Tk.nx (L.drop b)).n) hk
    have e : tkw L t = ((L.drop b).drop (Tk.nx (L.drop b)).n).take (Tk.nx (L.drop b)).m := by
      rw [tkw, h2]
      simp only [Int.toNat_natCast]
      exact wd_take
    refine ⟨?_, fun c hc => hd c (by rw [e] at hc; exact hc)⟩
    rw [e, List.length_take]
    exact Nat.le_trans (Nat.min_le_left _ _) hl
end Go.Proofs.Ytkllhfajldnpoaa.Sy
namespace Go.Proofs.Ytkllhfajldnpoaa.Sy
open Go
set_option linter.unusedVariables false
/-- From one state to another: j tokens are taken at least; the expressions that are put, and k more, are no more than these; so are the statements, and q more. -/
def Up (j k q : Nat) (s t : PS) : Prop := s.i + j ≤ t.i ∧ t.ex.length + s.i + k ≤ s.ex.length + t.i ∧ t.fn = s.fn ∧ s.st.length ≤ t.st.length ∧ t.st.length + s.i + q ≤ s.st.length + t.i
theorem Up.refl (s : PS) : Up 0 0 0 s s := ⟨Nat.le_refl _, Nat.le_refl _, rfl, Nat.le_refl _, Nat.le_refl _⟩
theorem Up.trans {j k q j' k' q' : Nat} {s t u : PS} (h : Up j k q s t) (g : Up j' k' q' t u) : Up (j + j') (k + k') (q + q') s u := by
  obtain ⟨h1, h2, h3, h4, h5⟩ := h
  obtain ⟨g1, g2, g3, g4, g5⟩ := g
  exact ⟨by omega, by omega, g3.trans h3, by omega, by omega⟩
theorem Up.le {j k q j' k' q' : Nat} {s t : PS} (h : Up j k q s t) (hj : j' ≤ j) (hk : k' ≤ k) (hq : q' ≤ q) : Up j' k' q' s t := ⟨by have := h.1; omega, by have := h.2.1; omega, h.2.2.1, h.2.2.2.1, by have := h.2.2.2.2; omega⟩
section
variable {E : Env}
theorem adv_up (s : PS) : Up 1 1 1 s (adv s) := ⟨Nat.le_refl _, by show s.ex.length + s.i + 1 ≤ s.ex.length + (s.i + 1); omega, rfl, Nat.le_refl _, by show s.st.length + s.i + 1 ≤ s.st.length + (s.i + 1); omega⟩
theorem want_up {w : List Int} {s t : PS} {x : Unit} (h : want E w s = .ok x t) : Up 1 1 1 s t := by
  unfold want at h
  split at h
  · cases h; exact adv_up s
  · cases h
theorem knd_up {k : Int} {s t : PS} {x : List Int} (h : knd E k s = .ok x t) : Up 1 1 1 s t := by
  unfold knd at h
  split at h
  · cases h; exact adv_up s
  · cases h
theorem deep_up {d : Int} {s t : PS} {x : Unit} (h : deep E d s = .ok x t) : t = s := by
  unfold deep at h
  split at h
  · cases h
  · cases h; rfl
theorem put_up {fr : Int} {x : Ex} {s s1 t : PS} {a : Int} {j k q : Nat} (h : put E fr x s1 = .ok a t) (u : Up j (k + 1) q s s1) : Up j k q s t := by
  unfold put at h
  cases h
  obtain ⟨u1, u2, u3, u4, u5⟩ := u
  exact ⟨u1, by simp only [List.length_append, List.length_singleton]; omega, u3, u4, u5⟩
theorem add_up {fr : Int} {x : St} {s s1 t : PS} {a : Int} {j k q : Nat} (h : add E fr x s1 = .ok a t) (u : Up j k (q + 1) s s1) : Up j k q s t := by
  unfold add at h
  split at h
  · cases h
  · cases h
    obtain ⟨u1, u2, u3, u4, u5⟩ := u
    exact ⟨u1, u2, u3, by simp only [List.length_append, List.length_singleton]; omega, by simp only [List.length_append, List.length_singleton]; omega⟩
end
structure Bd (L : Lv) : Prop where
  row : ∀ v d s a t, L.row v d s = .ok a t → Up 1 0 0 s t
  rows : ∀ v d fr a s b t, L.rows v d fr a s = .ok b t → Up 0 0 0 s t
  expr : ∀ d s a t, L.expr d s = .ok a t → Up 1 0 0 s t
  unary : ∀ d s a t, L.unary d s = .ok a t → Up 1 0 0 s t
  prim : ∀ d s a t, L.prim d s = .ok a t → Up 1 0 0 s t
  args : ∀ fr nm d l s a t, L.args fr nm d l s = .ok a t → Up 1 0 0 s t
  stmts : ∀ d l s a t, L.stmts d l s = .ok a t → Up 1 0 0 s t
  stmt : ∀ d s a t, L.stmt d s = .ok a t → Up 1 0 0 s t
  branch : ∀ fr d s a t, L.branch fr d s = .ok a t → Up 1 0 0 s t
section
variable {E : Env} {L : Lv}
theorem call_up (hB : Bd L) {fr : Int} {nm : List Int} {d : Int} {s t : PS} {a : Int} (h : call E L fr nm d s = .ok a t) : Up 1 0 0 s t := by
  obtain ⟨_, s1, h1, h2⟩ := bind_inv h
  exact ((want_up h1).trans (hB.args _ _ _ _ _ _ _ h2)).le (by omega) (by omega) (by omega)
theorem block_up (hB : Bd L) {d : Int} {s t : PS} {a : List Int} (h : block E L d s = .ok a t) : Up 2 1 1 s t := by
  obtain ⟨_, s1, h1, h2⟩ := bind_inv h
  have e : s1 = s := by
    split at h1
    · exact deep_up h1
    · cases h1; rfl
  subst e
  obtain ⟨_, s2, h3, h4⟩ := bind_inv h2
  exact ((want_up h3).trans (hB.stmts _ _ _ _ _ h4)).le (by omega) (by omega) (by omega)
theorem endS_up {fr : Int} {x : St} {s t : PS} {a : Int} (h : endS E fr x s = .ok a t) : Up 1 1 0 s t := by
  obtain ⟨_, s1, h1, h2⟩ := bind_inv h
  exact add_up h2 (want_up h1)
theorem sDecl_up (hB : Bd L) {d : Int} {s t : PS} {a : St} (h : sDecl E L d s = .ok a t) : Up 1 0 0 s t := by
  obtain ⟨_, s1, h1, h2⟩ := bind_inv h
  split at h2
  · obtain ⟨_, s2, h3, h4⟩ := bind_inv h2
    obtain ⟨_, s3, h5, h6⟩ := bind_inv h4
    cases h6
    exact ((((knd_up h1).trans (adv_up s1)).trans (knd_up h3)).trans (want_up h5)).le (by omega) (by omega) (by omega)
  · obtain ⟨_, s2, h3, h4⟩ := bind_inv h2
    obtain ⟨_, s3, h5, h6⟩ := bind_inv h4
    cases h6
    exact (((knd_up h1).trans (want_up h3)).trans (hB.expr _ _ _ _ h5)).le (by omega) (by omega) (by omega)
theorem sNamed_up (hB : Bd L) {d : Int} {s t : PS} {a : St} (h : sNamed E L d s = .ok a t) : Up 1 0 0 s t := by
  obtain ⟨_, s1, h1, h2⟩ := bind_inv h
  split at h2
  · obtain ⟨_, s2, h3, h4⟩ := bind_inv h2
    cases h4
    exact ((knd_up h1).trans (call_up hB h3)).le (by omega) (by omega) (by omega)
  split at h2
  · obtain ⟨_, s2, h3, h4⟩ := bind_inv h2
    obtain ⟨_, s3, h5, h6⟩ := bind_inv h4
    obtain ⟨_, s4, h7, h8⟩ := bind_inv h6
    obtain ⟨_, s5, h9, h10⟩ := bind_inv h8
    cases h10
    exact ((((((knd_up h1).trans (adv_up s1)).trans (hB.expr _ _ _ _ h3)).trans (want_up h5)).trans (want_up h7)).trans (hB.expr _ _ _ _ h9)).le (by omega) (by omega) (by omega)
  · obtain ⟨_, s2, h3, h4⟩ := bind_inv h2
    obtain ⟨_, s3, h5, h6⟩ := bind_inv h4
    cases h6
    exact (((knd_up h1).trans (want_up h3)).trans (hB.expr _ _ _ _ h5)).le (by omega) (by omega) (by omega)
end
section
variable {E : Env} {L : Lv}
theorem bd_step (hB : Bd L) : Bd (stepL E L) := by
  constructor
  · intro v d s a t h
    have h : sRow E L v d s = .ok a t := h
    unfold sRow at h
    split at h
    · exact hB.unary _ _ _ _ h
    · obtain ⟨_, s1, h1, h2⟩ := bind_inv h
      exact ((hB.row _ _ _ _ _ h1).trans (hB.rows _ _ _ _ _ _ _ h2)).le (by omega) (by omega) (by omega)
  · intro v d fr a s b t h
    have h : sRows E L v d fr a s = .ok b t := h
    unfold sRows at h
    split at h
    · obtain ⟨_, s1, h1, h2⟩ := bind_inv h
      obtain ⟨_, s2, h3, h4⟩ := bind_inv h2
      have u := put_up (j := 2) (k := 0) h3 ((adv_up s).trans (hB.row _ _ _ _ _ h1))
      split at h4
      · cases h4; exact u.le (by omega) (by omega) (by omega)
      · exact (u.trans (hB.rows _ _ _ _ _ _ _ h4)).le (by omega) (by omega) (by omega)
    · cases h; exact Up.refl _
  · intro d s a t h
    obtain ⟨_, s1, h1, h2⟩ := bind_inv (show sExpr E L d s = .ok a t from h)
    have e := deep_up h1
    subst e
    exact hB.row _ _ _ _ _ h2
  · intro d s a t h
    have h : sUnary E L d s = .ok a t := h
    unfold sUnary at h
    split at h
    · obtain ⟨_, s1, h1, h2⟩ := bind_inv h
      have e := deep_up h1
      subst e
      obtain ⟨_, s2, h3, h4⟩ := bind_inv h2
      exact (put_up (j := 2) (k := 0) h4 ((adv_up s).trans (hB.unary _ _ _ _ h3))).le (by omega) (by omega) (by omega)
    · exact hB.prim _ _ _ _ h
  · intro d s a t h
    have h : sPrim E L d s = .ok a t := h
    unfold sPrim at h
    split at h
    · exact put_up h ((adv_up s).le (by omega) (by omega) (by omega))
    split at h
    · exact put_up h ((adv_up s).le (by omega) (by omega) (by omega))
    split at h
    · exact put_up h ((adv_up s).le (by omega) (by omega) (by omega))
    split at h
    · exact put_up h ((adv_up s).le (by omega) (by omega) (by omega))
    split at h
    · obtain ⟨_, s1, h1, h2⟩ := bind_inv h
      obtain ⟨_, s2, h3, h4⟩ := bind_inv h2
      cases h4
      exact (((adv_up s).trans (hB.expr _ _ _ _ h1)).trans (want_up h3)).le (by omega) (by omega) (by omega)
    · obtain ⟨_, s1, h1, h2⟩ := bind_inv h
      split at h2
      · obtain ⟨_, s2, h3, h4⟩ := bind_inv h2
        obtain ⟨_, s3, h5, h6⟩ := bind_inv h4
        exact put_up h6 (((((knd_up h1).trans (adv_up s1)).trans (hB.expr _ _ _ _ h3)).trans (want_up h5)).le (by omega) (by omega) (by omega))
      split at h2
      · exact ((knd_up h1).trans (call_up hB h2)).le (by omega) (by omega) (by omega)
      · exact put_up h2 ((knd_up h1).le (by omega) (by omega) (by omega))
  · intro fr nm d l s a t h
    have h : sArgs E L fr nm d l s = .ok a t := h
    unfold sArgs at h
    split at h
    · exact put_up h ((adv_up s).le (by omega) (by omega) (by omega))
    · obtain ⟨_, s1, h1, h2⟩ := bind_inv h
      have u : Up 0 0 0 s s1 := by
        split at h1
        · cases h1; exact Up.refl _
        · exact (want_up h1).le (by omega) (by omega) (by omega)
      obtain ⟨_, s2, h3, h4⟩ := bind_inv h2
      split at h4
      · exact ((u.trans (hB.expr _ _ _ _ h3)).trans (hB.args _ _ _ _ _ _ _ h4)).le (by omega) (by omega) (by omega)
      · cases h4
  · intro d l s a t h
    have h : sStmts E L d l s = .ok a t := h
    unfold sStmts at h
    split at h
    · cases h; exact (adv_up s).le (by omega) (by omega) (by omega)
    · obtain ⟨_, s1, h1, h2⟩ := bind_inv h
      exact ((hB.stmt _ _ _ _ h1).trans (hB.stmts _ _ _ _ _ h2)).le (by omega) (by omega) (by omega)
  · intro d s a t h
    have h : sStmt E L d s = .ok a t := h
    unfold sStmt at h
    split at h
    · obtain ⟨_, s1, h1, h2⟩ := bind_inv h
      exact (((adv_up s).trans (sDecl_up hB h1)).trans (endS_up h2)).le (by omega) (by omega) (by omega)
    split at h
    · exact ((adv_up s).trans (hB.branch _ _ _ _ _ h)).le (by omega) (by omega) (by omega)
    split at h
    · obtain ⟨_, s1, h1, h2⟩ := bind_inv h
      obtain ⟨_, s2, h3, h4⟩ := bind_inv h2
      exact add_up h4 ((((adv_up s).trans (hB.expr _ _ _ _ h1)).trans (block_up hB h3)).le (by omega) (by omega) (by omega))
    split at h
    · exact ((adv_up s).trans (endS_up h)).le (by omega) (by omega) (by omega)
    split at h
    · exact ((adv_up s).trans (endS_up h)).le (by omega) (by omega) (by omega)
    split at h
    · split at h
      · exact ((adv_up s).trans (endS_up h)).le (by omega) (by omega) (by omega)
      · obtain ⟨_, s1, h1, h2⟩ := bind_inv h
        exact (((adv_up s).trans (hB.expr _ _ _ _ h1)).trans (endS_up h2)).le (by omega) (by omega) (by omega)
    split at h
    · obtain ⟨_, s1, h1, h2⟩ := bind_inv h
      exact (((adv_up s).trans (hB.expr _ _ _ _ h1)).trans (endS_up h2)).le (by omega) (by omega) (by omega)
    · obtain ⟨_, s1, h1, h2⟩ := bind_inv h
      exact ((sNamed_up hB h1).trans (endS_up h2)).le (by omega) (by omega) (by omega)
  · intro fr d s a t h
    obtain ⟨_, s1, h1, h2⟩ := bind_inv (show sBranch E L fr d s = .ok a t from h)
    obtain ⟨_, s2, h3, h4⟩ := bind_inv h2
    have u := (hB.expr _ _ _ _ h1).trans (block_up hB h3)
    split at h4
    · split at h4
      · obtain ⟨_, s3, h5, h6⟩ := bind_inv h4
        have e := deep_up h5
        subst e
        obtain ⟨_, s4, h7, h8⟩ := bind_inv h6
        exact add_up h8 ((((u.trans (adv_up s2)).trans (adv_up _)).trans (hB.branch _ _ _ _ _ h7)).le (by omega) (by omega) (by omega))
      · obtain ⟨_, s3, h5, h6⟩ := bind_inv h4
        exact add_up h6 (((u.trans (adv_up s2)).trans (block_up hB h5)).le (by omega) (by omega) (by omega))
    · exact add_up h4 (u.le (by omega) (by omega) (by omega))
theorem bd_lv : ∀ n, Bd (lv E n)
  | 0 => ⟨fun _ _ _ _ _ h => (by cases h), fun _ _ _ _ _ _ _ h => (by cases h), fun _ _ _ _ h => (by cases h), fun _ _ _ _ h => (by cases h), fun _ _ _ _ h => (by cases h), fun _ _ _ _ _ _ _ h => (by cases h), fun _ _ _ _ _ h => (by cases h), fun _ _ _ _ h => (by cases h), fun _ _ _ _ _ h => (by cases h)⟩
  | n + 1 => bd_step (bd_lv n)
end
end Go.Proofs.Ytkllhfajldnpoaa.Sy
namespace Go.Proofs.Ytkllhfajldnpoaa.Sy
open Go
set_option linter.unusedVariables false
theorem bind_out_ne {α β : Type} {r : Rs α} {g : α → PS → Rs β} (h : r ≠ .out) (k : ∀ x t, r = .ok x t → g x t ≠ .out) : r.bind g ≠ .out := by
  cases r with
  | ok x t => exact k x t rfl
  | er c p => exact fun e => by cases e
  | out => exact (h rfl).elim
section
variable {E : Env} {N : Nat}
theorem wd_lt (hW : E.W.length = N) {s : PS} (h : wd E s ≠ []) : s.i < N := by
  rcases Nat.lt_or_ge s.i N with h1 | h1
  · exact h1
  · exact (h (by simp [wd, List.getElem?_eq_none (show E.W.length ≤ s.i by omega)])).elim
theorem kd_lt (hT : E.T.length = N) {s : PS} (h : kd E s ≠ 0) : s.i < N := by
  rcases Nat.lt_or_ge s.i N with h1 | h1
  · exact h1
  · exact (h (by simp [kd, List.getElem?_eq_none (show E.T.length ≤ s.i by omega)])).elim
theorem want_lt (hW : E.W.length = N) {w : List Int} (hw : w ≠ []) {s t : PS} {x : Unit} (h : want E w s = .ok x t) : s.i < N := by
  unfold want at h
  split at h
  · rename_i e; exact wd_lt hW (by rw [e]; exact hw)
  · cases h
theorem knd_lt (hT : E.T.length = N) {k : Int} (hk : k ≠ 0) {s t : PS} {x : List Int} (h : knd E k s = .ok x t) : s.i < N := by
  unfold knd at h
  split at h
  · rename_i e; exact kd_lt hT (by rw [e]; exact hk)
  · cases h
theorem want_no {w : List Int} {s : PS} : want E w s ≠ .out := by
  unfold want; split <;> exact fun e => by cases e
theorem knd_no {k : Int} {s : PS} : knd E k s ≠ .out := by
  unfold knd; split <;> exact fun e => by cases e
theorem deep_no {d : Int} {s : PS} : deep E d s ≠ .out := by
  unfold deep; split <;> exact fun e => by cases e
theorem put_no {fr : Int} {x : Ex} {s : PS} : put E fr x s ≠ .out := fun e => by cases e
theorem add_no {fr : Int} {x : St} {s : PS} : add E fr x s ≠ .out := by
  unfold add; split <;> exact fun e => by cases e
theorem endS_no {fr : Int} {x : St} {s : PS} : endS E fr x s ≠ .out := bind_out_ne want_no fun _ _ _ => add_no
end
/-- What is parsed begins with a token. -/
structure Fst (N : Nat) (L : Lv) : Prop where
  row : ∀ v d s a t, L.row v d s = .ok a t → s.i < N
  expr : ∀ d s a t, L.expr d s = .ok a t → s.i < N
  unary : ∀ d s a t, L.unary d s = .ok a t → s.i < N
  prim : ∀ d s a t, L.prim d s = .ok a t → s.i < N
  stmts : ∀ d l s a t, L.stmts d l s = .ok a t → s.i < N
  stmt : ∀ d s a t, L.stmt d s = .ok a t → s.i < N
  branch : ∀ fr d s a t, L.branch fr d s = .ok a t → s.i < N
section
variable {E : Env} {N : Nat} {L : Lv}
theorem sNamed_lt (hT : E.T.length = N) {d : Int} {s t : PS} {a : St} (h : sNamed E L d s = .ok a t) : s.i < N := by
  obtain ⟨_, s1, h1, h2⟩ := bind_inv h
  exact knd_lt hT (by decide) h1
theorem fst_step (hW : E.W.length = N) (hT : E.T.length = N) (hB : Fst N L) : Fst N (stepL E L) := by
  constructor
  · intro v d s a t h
    have h : sRow E L v d s = .ok a t := h
    unfold sRow at h
    split at h
    · exact hB.unary _ _ _ _ h
    · obtain ⟨_, s1, h1, h2⟩ := bind_inv h
      exact hB.row _ _ _ _ _ h1
  · intro d s a t h
    obtain ⟨_, s1, h1, h2⟩ := bind_inv (show sExpr E L d s = .ok a t from h)
    have e := deep_up h1
    subst e
    exact hB.row _ _ _ _ _ h2
  · intro d s a t h
    have h : sUnary E L d s = .ok a t := h
    unfold sUnary at h
    split at h
    · rename_i q
      exact wd_lt hW (by rcases q with q | q <;> (rw [q]; decide))
    · exact hB.prim _ _ _ _ h
  · intro d s a t h
    have h : sPrim E L d s = .ok a t := h
    unfold sPrim at h
    split at h
    · rename_i q; exact kd_lt hT (by rw [q]; decide)
    split at h
    · rename_i q; exact wd_lt hW (by rw [q]; decide)
    split at h
    · rename_i q; exact wd_lt hW (by rw [q]; decide)
    split at h
    · rename_i q; exact wd_lt hW (by rw [q]; decide)
    split at h
    · rename_i q; exact wd_lt hW (by rw [q]; decide)
    · obtain ⟨_, s1, h1, h2⟩ := bind_inv h
      exact knd_lt hT (by decide) h1
  · intro d l s a t h
    have h : sStmts E L d l s = .ok a t := h
    unfold sStmts at h
    split at h
    · rename_i q; exact wd_lt hW (by rw [q]; decide)
    · obtain ⟨_, s1, h1, h2⟩ := bind_inv h
      exact hB.stmt _ _ _ _ h1
  · intro d s a t h
    have h : sStmt E L d s = .ok a t := h
    unfold sStmt at h
    split at h
    · rename_i q; exact wd_lt hW (by rw [q]; decide)
    split at h
    · rename_i q; exact wd_lt hW (by rw [q]; decide)
    split at h
    · rename_i q; exact wd_lt hW (by rw [q]; decide)
    split at h
    · rename_i q; exact wd_lt hW (by rw [q]; decide)
    split at h
    · rename_i q; exact wd_lt hW (by rw [q]; decide)
    split at h
    · rename_i q; exact wd_lt hW (by rw [q]; decide)
    split at h
    · rename_i q; exact wd_lt hW (by rw [q]; decide)
    · obtain ⟨_, s1, h1, h2⟩ := bind_inv h
      exact sNamed_lt hT h1
  · intro fr d s a t h
    obtain ⟨_, s1, h1, h2⟩ := bind_inv (show sBranch E L fr d s = .ok a t from h)
    exact hB.expr _ _ _ _ h1
end
theorem fst_lv {E : Env} {N : Nat} (hW : E.W.length = N) (hT : E.T.length = N) : ∀ n, Fst N (lv E n)
  | 0 => ⟨fun _ _ _ _ _ h => (by cases h), fun _ _ _ _ h => (by cases h), fun _ _ _ _ h => (by cases h), fun _ _ _ _ h => (by cases h), fun _ _ _ _ _ h => (by cases h), fun _ _ _ _ h => (by cases h), fun _ _ _ _ _ h => (by cases h)⟩
  | n + 1 => fst_step hW hT (fst_lv hW hT n)
/-- How much fuel is needed. -/
def Mn (N : Nat) (s : PS) : Nat := 20 * (N - s.i)
theorem Mn.lt {N : Nat} {s t : PS} (h : s.i < N) (k : s.i + 1 ≤ t.i) : Mn N t + 20 ≤ Mn N s := by unfold Mn; omega
theorem Mn.le {N : Nat} {s t : PS} (k : s.i ≤ t.i) : Mn N t ≤ Mn N s := by unfold Mn; omega
structure Fu (N : Nat) (L : Lv) (n : Nat) : Prop where
  row : ∀ v d s, v ≤ 5 → Mn N s + (8 - v) ≤ n → L.row v d s ≠ .out
  rows : ∀ v d fr a s, v ≤ 4 → Mn N s + 1 ≤ n → L.rows v d fr a s ≠ .out
  expr : ∀ d s, Mn N s + 9 ≤ n → L.expr d s ≠ .out
  unary : ∀ d s, Mn N s + 2 ≤ n → L.unary d s ≠ .out
  prim : ∀ d s, Mn N s + 1 ≤ n → L.prim d s ≠ .out
  args : ∀ fr nm d l s, Mn N s + 10 ≤ n → L.args fr nm d l s ≠ .out
  stmts : ∀ d l s, Mn N s + 12 ≤ n → L.stmts d l s ≠ .out
  stmt : ∀ d s, Mn N s + 11 ≤ n → L.stmt d s ≠ .out
  branch : ∀ fr d s, Mn N s + 10 ≤ n → L.branch fr d s ≠ .out
section
variable {E : Env} {N : Nat} {L : Lv} {n : Nat}
theorem call_no (hW : E.W.length = N) (hF : Fu N L n) {fr : Int} {nm : List Int} {d : Int} {s : PS} (h : Mn N s ≤ n + 10) : call E L fr nm d s ≠ .out := by
  refine bind_out_ne want_no fun _ s1 h1 => hF.args _ _ _ _ _ ?_
  have := Mn.lt (want_lt hW (by decide) h1) (want_up h1).1
  omega
theorem block_no (hW : E.W.length = N) (hF : Fu N L n) {d : Int} {s : PS} (h : Mn N s ≤ n + 8) : block E L d s ≠ .out := by
  refine bind_out_ne (by split <;> first | exact deep_no | exact fun e => (by cases e)) fun _ s1 h1 => ?_
  have e : s1 = s := by
    split at h1
    · exact deep_up h1
    · cases h1; rfl
  subst e
  refine bind_out_ne want_no fun _ s2 h3 => hF.stmts _ _ _ ?_
  have := Mn.lt (want_lt hW (by decide) h3) (want_up h3).1
  omega
theorem sDecl_no (hW : E.W.length = N) (hT : E.T.length = N) (hF : Fu N L n) {d : Int} {s : PS} (h : Mn N s ≤ n) : sDecl E L d s ≠ .out := by
  refine bind_out_ne knd_no fun _ s1 h1 => ?_
  have a1 := Mn.lt (knd_lt hT (by decide) h1) (knd_up h1).1
  split
  · exact bind_out_ne knd_no fun _ _ _ => bind_out_ne want_no fun _ _ _ e => by cases e
  · refine bind_out_ne want_no fun _ s2 h2 => bind_out_ne (hF.expr _ _ ?_) fun _ _ _ e => by cases e
    have := Mn.le (N := N) (Nat.le_of_succ_le (want_up h2).1)
    omega
theorem sNamed_no (hW : E.W.length = N) (hT : E.T.length = N) (hB : Bd L) (hF : Fu N L n) {d : Int} {s : PS} (h : Mn N s ≤ n + 10) : sNamed E L d s ≠ .out := by
  refine bind_out_ne knd_no fun _ s1 h1 => ?_
  have a1 := Mn.lt (knd_lt hT (by decide) h1) (knd_up h1).1
  split
  · exact bind_out_ne (call_no hW hF (by omega)) fun _ _ _ e => by cases e
  split
  · have a2 := Mn.le (N := N) (Nat.le_of_succ_le (adv_up s1).1)
    refine bind_out_ne (hF.expr _ _ (by omega)) fun _ s2 h2 => bind_out_ne want_no fun _ s3 h3 => bind_out_ne want_no fun _ s4 h4 => bind_out_ne (hF.expr _ _ ?_) fun _ _ _ e => by cases e
    have b1 := Mn.le (N := N) (Nat.le_of_succ_le (hB.expr _ _ _ _ h2).1)
    have b2 := Mn.le (N := N) (Nat.le_of_succ_le (want_up h3).1)
    have b3 := Mn.le (N := N) (Nat.le_of_succ_le (want_up h4).1)
    omega
  · refine bind_out_ne want_no fun _ s2 h2 => bind_out_ne (hF.expr _ _ ?_) fun _ _ _ e => by cases e
    have := Mn.le (N := N) (Nat.le_of_succ_le (want_up h2).1)
    omega
theorem fu_step (hW : E.W.length = N) (hT : E.T.length = N) (hB : Bd L) (hS : Fst N L) (hF : Fu N L n) : Fu N (stepL E L) (n + 1) := by
  constructor
  · intro v d s hv hm
    show sRow E L v d s ≠ .out
    unfold sRow
    split
    · exact hF.unary _ _ (by omega)
    · refine bind_out_ne (hF.row _ _ _ (by omega) (by omega)) fun a s1 h1 => hF.rows _ _ _ _ _ (by omega) ?_
      have := Mn.lt (hS.row _ _ _ _ _ h1) (hB.row _ _ _ _ _ h1).1
      omega
  · intro v d fr a s hv hm
    show sRows E L v d fr a s ≠ .out
    unfold sRows
    split
    · rename_i q
      have hs : s.i < N := wd_lt hW (by
        intro e; rw [e] at q
        match v, hv, q with
        | 0, _, q => exact absurd q (by decide)
        | 1, _, q => exact absurd q (by decide)
        | 2, _, q => exact absurd q (by decide)
        | 3, _, q => exact absurd q (by decide)
        | 4, _, q => exact absurd q (by decide))
      have a1 := Mn.lt hs (adv_up s).1
      refine bind_out_ne (hF.row _ _ _ (by omega) (by omega)) fun b s1 h1 => bind_out_ne put_no fun c s2 h2 => ?_
      split
      · exact fun e => by cases e
      · refine hF.rows _ _ _ _ _ hv ?_
        have b1 := Mn.le (N := N) (Nat.le_of_succ_le (hB.row _ _ _ _ _ h1).1)
        have b2 : s2.i = s1.i := by cases h2; rfl
        have b3 : Mn N s2 = Mn N s1 := by unfold Mn; rw [b2]
        omega
    · exact fun e => by cases e
  · intro d s hm
    refine bind_out_ne deep_no fun _ s1 h1 => ?_
    have e := deep_up h1
    subst e
    exact hF.row _ _ _ (by omega) (by omega)
  · intro d s hm
    show sUnary E L d s ≠ .out
    unfold sUnary
    split
    · rename_i q
      have a1 := Mn.lt (wd_lt hW (s := s) (by rcases q with q | q <;> (rw [q]; decide))) (adv_up s).1
      refine bind_out_ne deep_no fun _ s1 h1 => ?_
      have e := deep_up h1
      subst e
      exact bind_out_ne (hF.unary _ _ (by omega)) fun _ _ _ => put_no
    · exact hF.prim _ _ (by omega)
  · intro d s hm
    show sPrim E L d s ≠ .out
    unfold sPrim
    split
    · exact put_no
    split
    · exact put_no
    split
    · exact put_no
    split
    · exact put_no
    split
    · rename_i q
      have a1 := Mn.lt (wd_lt hW (s := s) (by rw [q]; decide)) (adv_up s).1
      exact bind_out_ne (hF.expr _ _ (by omega)) fun _ _ _ => bind_out_ne want_no fun _ _ _ e => by cases e
    · refine bind_out_ne knd_no fun _ s1 h1 => ?_
      have a1 := Mn.lt (knd_lt hT (by decide) h1) (knd_up h1).1
      split
      · have a2 := Mn.le (N := N) (Nat.le_of_succ_le (adv_up s1).1)
        exact bind_out_ne (hF.expr _ _ (by omega)) fun _ _ _ => bind_out_ne want_no fun _ _ _ => put_no
      split
      · exact call_no hW hF (by omega)
      · exact put_no
  · intro fr nm d l s hm
    show sArgs E L fr nm d l s ≠ .out
    unfold sArgs
    split
    · exact put_no
    · refine bind_out_ne (by split <;> first | exact want_no | exact fun e => (by cases e)) fun _ s1 h1 => ?_
      have u : s.i ≤ s1.i := by
        split at h1
        · cases h1; exact Nat.le_refl _
        · exact Nat.le_of_succ_le (want_up h1).1
      have a1 := Mn.le (N := N) u
      refine bind_out_ne (hF.expr _ _ (by omega)) fun _ s2 h2 => ?_
      have a2 := Mn.lt (hS.expr _ _ _ _ h2) (hB.expr _ _ _ _ h2).1
      split
      · exact hF.args _ _ _ _ _ (by omega)
      · exact fun e => by cases e
  · intro d l s hm
    show sStmts E L d l s ≠ .out
    unfold sStmts
    split
    · exact fun e => by cases e
    · refine bind_out_ne (hF.stmt _ _ (by omega)) fun _ s1 h1 => hF.stmts _ _ _ ?_
      have a2 := Mn.lt (hS.stmt _ _ _ _ h1) (hB.stmt _ _ _ _ h1).1
      omega
  · intro d s hm
    show sStmt E L d s ≠ .out
    unfold sStmt
    split
    · rename_i q
      have a1 := Mn.lt (wd_lt hW (s := s) (by rw [q]; decide)) (adv_up s).1
      exact bind_out_ne (sDecl_no hW hT hF (by omega)) fun _ _ _ => endS_no
    split
    · rename_i q
      have a1 := Mn.lt (wd_lt hW (s := s) (by rw [q]; decide)) (adv_up s).1
      exact hF.branch _ _ _ (by omega)
    split
    · rename_i q
      have a1 := Mn.lt (wd_lt hW (s := s) (by rw [q]; decide)) (adv_up s).1
      refine bind_out_ne (hF.expr _ _ (by omega)) fun _ s1 h1 => ?_
      have a2 := Mn.le (N := N) (Nat.le_of_succ_le (hB.expr _ _ _ _ h1).1)
      exact bind_out_ne (block_no hW hF (by omega)) fun _ _ _ => add_no
    split
    · exact endS_no
    split
    · exact endS_no
    split
    · split
      · exact endS_no
      · rename_i q _
        have a1 := Mn.lt (wd_lt hW (s := s) (by rw [q]; decide)) (adv_up s).1
        exact bind_out_ne (hF.expr _ _ (by omega)) fun _ _ _ => endS_no
    split
    · rename_i q
      have a1 := Mn.lt (wd_lt hW (s := s) (by rw [q]; decide)) (adv_up s).1
      exact bind_out_ne (hF.expr _ _ (by omega)) fun _ _ _ => endS_no
    · exact bind_out_ne (sNamed_no hW hT hB hF (by omega)) fun _ _ _ => endS_no
  · intro fr d s hm
    refine bind_out_ne (hF.expr _ _ (by omega)) fun _ s1 h1 => ?_
    have a1 := Mn.lt (hS.expr _ _ _ _ h1) (hB.expr _ _ _ _ h1).1
    refine bind_out_ne (block_no hW hF (by omega)) fun _ s2 h2 => ?_
    have a2 := Mn.le (N := N) (Nat.le_of_succ_le (Nat.le_of_succ_le (block_up hB h2).1))
    split
    · have a3 := Mn.le (N := N) (Nat.le_of_succ_le (adv_up s2).1)
      split
      · refine bind_out_ne deep_no fun _ s3 h3 => ?_
        have e := deep_up h3
        subst e
        have a4 := Mn.le (N := N) (Nat.le_of_succ_le (adv_up (adv s2)).1)
        exact bind_out_ne (hF.branch _ _ _ (by omega)) fun _ _ _ => add_no
      · exact bind_out_ne (block_no hW hF (by omega)) fun _ _ _ => add_no
    · exact add_no
end
theorem fu_lv {E : Env} {N : Nat} (hW : E.W.length = N) (hT : E.T.length = N) : ∀ n, Fu N (lv E n) n
  | 0 => ⟨fun _ _ _ _ h => by omega, fun _ _ _ _ _ _ h => by omega, fun _ _ h => by omega, fun _ _ h => by omega, fun _ _ h => by omega, fun _ _ _ _ _ h => by omega, fun _ _ _ h => by omega, fun _ _ h => by omega, fun _ _ _ h => by omega⟩
  | n + 1 => fu_step hW hT (bd_lv n) (fst_lv hW hT n) (fu_lv hW hT n)
section
variable {E : Env} {N : Nat}
theorem prms_no (hW : E.W.length = N) (hT : E.T.length = N) : ∀ n l s, Mn N s + 1 ≤ n → prms E n l s ≠ .out := by
  intro n
  induction n with
  | zero => intro l s h; omega
  | succ n ih =>
    intro l s h
    unfold prms
    split
    · exact fun e => by cases e
    · refine bind_out_ne (by split <;> first | exact want_no | exact fun e => (by cases e)) fun _ s1 h1 => ?_
      have u : s.i ≤ s1.i := by
        split at h1
        · cases h1; exact Nat.le_refl _
        · exact Nat.le_of_succ_le (want_up h1).1
      have a1 := Mn.le (N := N) u
      refine bind_out_ne knd_no fun _ s2 h2 => ?_
      have a2 := Mn.lt (knd_lt hT (by decide) h2) (knd_up h2).1
      split
      · exact ih _ _ (by omega)
      · exact fun e => by cases e
theorem prms_up : ∀ n l s x t, prms E n l s = .ok x t → Up 1 1 1 s t := by
  intro n
  induction n with
  | zero => intro l s x t h; cases h
  | succ n ih =>
    intro l s x t h
    unfold prms at h
    split at h
    · cases h; exact adv_up s
    · obtain ⟨_, s1, h1, h2⟩ := bind_inv h
      have u : Up 0 0 0 s s1 := by
        split at h1
        · cases h1; exact Up.refl _
        · exact (want_up h1).le (by omega) (by omega) (by omega)
      obtain ⟨_, s2, h3, h4⟩ := bind_inv h2
      split at h4
      · exact ((u.trans (knd_up h3)).trans (ih _ _ _ _ h4)).le (by omega) (by omega) (by omega)
      · cases h4
/-- What a function's head takes. -/
theorem fct_inv {n : Nat} {s t : PS} {x : Unit} (h : fct E n s = .ok x t) : s.fn.length < 32 ∧ ∃ nm s2 s3 ps s4 ty s5 bd s6, knd E 1 (adv s) = .ok nm s2 ∧ want E wLpar s2 = .ok () s3 ∧ prms E n [] s3 = .ok ps s4 ∧
    ((wd E s4 = wInt ∧ ty = 1 ∧ s5 = adv s4) ∨ (wd E s4 ≠ wInt ∧ ty = 4 ∧ s5 = s4)) ∧ wd E s = wFunc ∧ block E (lv E n) 1 s5 = .ok bd s6 ∧ t = { s6 with fn := s6.fn ++ [{ nm := nm, f := hr E s, e := pe E s6, ps := ps, ty := ty, bd := bd }] } := by
  obtain ⟨_, s0, h0, h⟩ := bind_inv h
  obtain ⟨_, s1, h1, h⟩ := bind_inv h
  have q : wd E s0 = wFunc ∧ s1 = adv s0 := by
    unfold want at h1
    split at h1
    · rename_i q; cases h1; exact ⟨q, rfl⟩
    · cases h1
  obtain ⟨q, rfl⟩ := q
  have e : s0 = s ∧ s.fn.length < 32 := by
    split at h0
    · cases h0
    · rename_i hq
      cases h0
      exact ⟨rfl, Nat.lt_of_not_le fun hl => hq ⟨q, hl⟩⟩
  obtain ⟨rfl, hl⟩ := e
  obtain ⟨nm, s2, h2, h⟩ := bind_inv h
  obtain ⟨_, s3, h3, h⟩ := bind_inv h
  obtain ⟨ps, s4, h4, h⟩ := bind_inv h
  obtain ⟨ty, s5, h5, h⟩ := bind_inv h
  obtain ⟨bd, s6, h6, h⟩ := bind_inv h
  cases h
  refine ⟨hl, nm, s2, s3, ps, s4, ty, s5, bd, s6, h2, h3, h4, ?_, q, h6, rfl⟩
  split at h5
  · rename_i q5; cases h5; exact .inl ⟨q5, rfl, rfl⟩
  · rename_i q5; cases h5; exact .inr ⟨q5, rfl, rfl⟩
theorem fct_up {n : Nat} {s t : PS} {x : Unit} (h : fct E n s = .ok x t) : s.i + 1 ≤ t.i ∧ t.ex.length + s.i ≤ s.ex.length + t.i ∧ t.fn.length = s.fn.length + 1 ∧ t.st.length + s.i + 1 ≤ s.st.length + t.i := by
  obtain ⟨hl, nm, s2, s3, ps, s4, ty, s5, bd, s6, h2, h3, h4, h5, q, h6, rfl⟩ := fct_inv h
  have u := ((((adv_up s).trans (knd_up h2)).trans (want_up h3)).trans (prms_up _ _ _ _ _ h4))
  have u5 : Up 0 0 0 s4 s5 := by
    rcases h5 with ⟨_, _, rfl⟩ | ⟨_, _, rfl⟩
    · exact (adv_up _).le (by omega) (by omega) (by omega)
    · exact Up.refl _
  obtain ⟨u6, u7, u8, u9, u10⟩ := (u.trans u5).trans (block_up (bd_lv n) h6)
  exact ⟨by simp only; omega, by simp only; omega, by simp [u8], by simp only; omega⟩
theorem fct_no (hW : E.W.length = N) (hT : E.T.length = N) {n : Nat} {s : PS} (h : Mn N s + 12 ≤ n) : fct E n s ≠ .out := by
  refine bind_out_ne (by split <;> exact fun e => by cases e) fun _ s0 h0 => ?_
  have e : s0 = s := by
    split at h0
    · cases h0
    · cases h0; rfl
  subst e
  refine bind_out_ne want_no fun _ s1 h1 => ?_
  have a1 := Mn.le (N := N) (Nat.le_of_succ_le (want_up h1).1)
  refine bind_out_ne knd_no fun _ s2 h2 => ?_
  have a2 := Mn.le (N := N) (Nat.le_of_succ_le (knd_up h2).1)
  refine bind_out_ne want_no fun _ s3 h3 => ?_
  have a3 := Mn.le (N := N) (Nat.le_of_succ_le (want_up h3).1)
  refine bind_out_ne (prms_no hW hT _ _ _ (by omega)) fun _ s4 h4 => ?_
  have a4 := Mn.le (N := N) (Nat.le_of_succ_le (prms_up _ _ _ _ _ h4).1)
  refine bind_out_ne (by split <;> exact fun e => by cases e) fun _ s5 h5 => ?_
  have a5 : Mn N s5 ≤ Mn N s4 := by
    split at h5
    · cases h5; exact Mn.le (N := N) (Nat.le_of_succ_le (adv_up _).1)
    · cases h5; exact Nat.le_refl _
  exact bind_out_ne (block_no hW (fu_lv hW hT n) (by omega)) fun _ _ _ e => by cases e
theorem fcts_no (hW : E.W.length = N) (hT : E.T.length = N) {m : Nat} : ∀ n s, Mn N s + 1 ≤ n → Mn N s + 12 ≤ m → fcts E m n s ≠ .out := by
  intro n
  induction n with
  | zero => intro s h; omega
  | succ n ih =>
    intro s h hm
    unfold fcts
    split
    · exact fun e => by cases e
    · refine bind_out_ne (fct_no hW hT hm) fun _ s1 h1 => ?_
      have hs : s.i < N := by
        obtain ⟨hl, nm, s2, s3, ps, s4, ty, s5, bd, s6, h2, h3, h4, h5, q, h6, rfl⟩ := fct_inv h1
        exact wd_lt hW (by rw [q]; decide)
      have a1 := Mn.lt hs (fct_up h1).1
      exact ih _ (by omega) (by omega)
end
theorem env_T (L : List Int) : (envOf L).T.length ≤ L.length + 1 := by
  show (Tk.allT L).1.length ≤ _
  unfold Tk.allT
  split
  · simp
  · have := Tk.als_len (L.length + 1) 0 L
    split <;> rename_i e <;> rw [e] at this <;> simp at this ⊢ <;> omega
/-- A text is parsed, or something is wrong. -/
theorem prs_no (L : List Int) : prs L ≠ .out := by
  unfold prs
  split
  · exact fun e => by cases e
  · have hW : (envOf L).W.length = (envOf L).T.length := by simp [envOf]
    have := env_T L
    refine fcts_no hW rfl _ _ ?_ ?_ <;> (unfold Mn fuel; simp only; omega)
end Go.Proofs.Ytkllhfajldnpoaa.Sy
namespace Go.Proofs.Ytkllhfajldnpoaa.Sy
open Go
set_option linter.unusedVariables false
/-- What is wrong is told at a token. -/
def Ge {α : Type} (E : Env) (r : Rs α) : Prop := ∀ c p, r = .er c p → (c = 3 ∨ c = 4 ∨ c = 5) ∧ ∃ s, p = hr E s
section
variable {E : Env} {α β : Type}
theorem Ge.ok {x : α} {s : PS} : Ge E (.ok x s) := fun c p h => by cases h
theorem Ge.out : Ge E (.out : Rs α) := fun c p h => by cases h
theorem Ge.bind {r : Rs α} {g : α → PS → Rs β} (h : Ge E r) (k : ∀ x s, Ge E (g x s)) : Ge E (r.bind g) := by
  cases r with
  | ok x s => exact k x s
  | er c p => exact fun c' p' e => h c' p' (by cases e; rfl)
  | out => exact Ge.out
theorem Ge.er {c : Int} {s : PS} (hc : c = 3 ∨ c = 4 ∨ c = 5) : Ge E (Sy.er E c s : Rs α) := fun c' p h => by cases h; exact ⟨hc, s, rfl⟩
theorem Ge.want {w : List Int} {s : PS} : Ge E (want E w s) := by unfold Sy.want; split; exact Ge.ok; exact Ge.er (.inl rfl)
theorem Ge.knd {k : Int} {s : PS} : Ge E (knd E k s) := by unfold Sy.knd; split; exact Ge.ok; exact Ge.er (.inl rfl)
theorem Ge.deep {d : Int} {s : PS} : Ge E (deep E d s) := by unfold Sy.deep; split; exact Ge.er (.inr (.inl rfl)); exact Ge.ok
theorem Ge.put {fr : Int} {x : Ex} {s : PS} : Ge E (put E fr x s) := Ge.ok
theorem Ge.add {fr : Int} {x : St} {s : PS} : Ge E (add E fr x s) := by unfold Sy.add; split; exact Ge.er (.inr (.inr rfl)); exact Ge.ok
theorem Ge.endS {fr : Int} {x : St} {s : PS} : Ge E (endS E fr x s) := Ge.bind Ge.want fun _ _ => Ge.add
end
structure GeL (E : Env) (L : Lv) : Prop where
  row : ∀ v d s, Ge E (L.row v d s)
  rows : ∀ v d fr a s, Ge E (L.rows v d fr a s)
  expr : ∀ d s, Ge E (L.expr d s)
  unary : ∀ d s, Ge E (L.unary d s)
  prim : ∀ d s, Ge E (L.prim d s)
  args : ∀ fr nm d l s, Ge E (L.args fr nm d l s)
  stmts : ∀ d l s, Ge E (L.stmts d l s)
  stmt : ∀ d s, Ge E (L.stmt d s)
  branch : ∀ fr d s, Ge E (L.branch fr d s)
section
variable {E : Env} {L : Lv}
theorem Ge.call (h : GeL E L) {fr : Int} {nm : List Int} {d : Int} {s : PS} : Ge E (call E L fr nm d s) := Ge.bind Ge.want fun _ _ => h.args _ _ _ _ _
theorem Ge.block (h : GeL E L) {d : Int} {s : PS} : Ge E (block E L d s) := by
  refine Ge.bind ?_ fun _ _ => Ge.bind Ge.want fun _ _ => h.stmts _ _ _
  split
  · exact Ge.deep
  · exact Ge.ok
theorem Ge.decl (h : GeL E L) {d : Int} {s : PS} : Ge E (sDecl E L d s) := by
  refine Ge.bind Ge.knd fun _ s1 => ?_
  split
  · exact Ge.bind Ge.knd fun _ _ => Ge.bind Ge.want fun _ _ => Ge.ok
  · exact Ge.bind Ge.want fun _ _ => Ge.bind (h.expr _ _) fun _ _ => Ge.ok
theorem Ge.named (h : GeL E L) {d : Int} {s : PS} : Ge E (sNamed E L d s) := by
  refine Ge.bind Ge.knd fun _ s1 => ?_
  split
  · exact Ge.bind (Ge.call h) fun _ _ => Ge.ok
  split
  · exact Ge.bind (h.expr _ _) fun _ _ => Ge.bind Ge.want fun _ _ => Ge.bind Ge.want fun _ _ => Ge.bind (h.expr _ _) fun _ _ => Ge.ok
  · exact Ge.bind Ge.want fun _ _ => Ge.bind (h.expr _ _) fun _ _ => Ge.ok
theorem ge_step (h : GeL E L) : GeL E (stepL E L) := by
  constructor
  · intro v d s
    show Ge E (sRow E L v d s)
    unfold sRow
    split
    · exact h.unary _ _
    · exact Ge.bind (h.row _ _ _) fun _ _ => h.rows _ _ _ _ _
  · intro v d fr a s
    show Ge E (sRows E L v d fr a s)
    unfold sRows
    split
    · refine Ge.bind (h.row _ _ _) fun _ _ => Ge.bind Ge.put fun _ _ => ?_
      split
      · exact Ge.ok
      · exact h.rows _ _ _ _ _
    · exact Ge.ok
  · intro d s
    exact Ge.bind Ge.deep fun _ _ => h.row _ _ _
  · intro d s
    show Ge E (sUnary E L d s)
    unfold sUnary
    split
    · exact Ge.bind Ge.deep fun _ _ => Ge.bind (h.unary _ _) fun _ _ => Ge.put
    · exact h.prim _ _
  · intro d s
    show Ge E (sPrim E L d s)
    unfold sPrim
    split
    · exact Ge.put
    split
    · exact Ge.put
    split
    · exact Ge.put
    split
    · exact Ge.put
    split
    · exact Ge.bind (h.expr _ _) fun _ _ => Ge.bind Ge.want fun _ _ => Ge.ok
    · refine Ge.bind Ge.knd fun _ _ => ?_
      split
      · exact Ge.bind (h.expr _ _) fun _ _ => Ge.bind Ge.want fun _ _ => Ge.put
      split
      · exact Ge.call h
      · exact Ge.put
  · intro fr nm d l s
    show Ge E (sArgs E L fr nm d l s)
    unfold sArgs
    split
    · exact Ge.put
    · refine Ge.bind ?_ fun _ _ => Ge.bind (h.expr _ _) fun _ _ => ?_
      · split
        · exact Ge.ok
        · exact Ge.want
      · split
        · exact h.args _ _ _ _ _
        · exact Ge.er (.inl rfl)
  · intro d l s
    show Ge E (sStmts E L d l s)
    unfold sStmts
    split
    · exact Ge.ok
    · exact Ge.bind (h.stmt _ _) fun _ _ => h.stmts _ _ _
  · intro d s
    show Ge E (sStmt E L d s)
    unfold sStmt
    split
    · exact Ge.bind (Ge.decl h) fun _ _ => Ge.endS
    split
    · exact h.branch _ _ _
    split
    · exact Ge.bind (h.expr _ _) fun _ _ => Ge.bind (Ge.block h) fun _ _ => Ge.add
    split
    · exact Ge.endS
    split
    · exact Ge.endS
    split
    · split
      · exact Ge.endS
      · exact Ge.bind (h.expr _ _) fun _ _ => Ge.endS
    split
    · exact Ge.bind (h.expr _ _) fun _ _ => Ge.endS
    · exact Ge.bind (Ge.named h) fun _ _ => Ge.endS
  · intro fr d s
    refine Ge.bind (h.expr _ _) fun _ _ => Ge.bind (Ge.block h) fun _ _ => ?_
    split
    · split
      · exact Ge.bind Ge.deep fun _ _ => Ge.bind (h.branch _ _ _) fun _ _ => Ge.add
      · exact Ge.bind (Ge.block h) fun _ _ => Ge.add
    · exact Ge.add
theorem ge_lv : ∀ n, GeL E (lv E n)
  | 0 => ⟨fun _ _ _ => Ge.out, fun _ _ _ _ _ => Ge.out, fun _ _ => Ge.out, fun _ _ => Ge.out, fun _ _ => Ge.out, fun _ _ _ _ _ => Ge.out, fun _ _ _ => Ge.out, fun _ _ => Ge.out, fun _ _ _ => Ge.out⟩
  | n + 1 => ge_step (ge_lv n)
theorem Ge.prms : ∀ n l s, Ge E (prms E n l s) := by
  intro n
  induction n with
  | zero => intro l s; exact Ge.out
  | succ n ih =>
    intro l s
    unfold Sy.prms
    split
    · exact Ge.ok
    · refine Ge.bind ?_ fun _ _ => Ge.bind Ge.knd fun _ _ => ?_
      · split
        · exact Ge.ok
        · exact Ge.want
      · split
        · exact ih _ _
        · exact Ge.er (.inl rfl)
theorem Ge.fct {n : Nat} {s : PS} : Ge E (fct E n s) := by
  refine Ge.bind ?_ fun _ _ => Ge.bind Ge.want fun _ _ => Ge.bind Ge.knd fun _ _ => Ge.bind Ge.want fun _ _ => Ge.bind (Ge.prms _ _ _) fun _ _ => Ge.bind ?_ fun _ _ => Ge.bind (Ge.block (ge_lv n)) fun _ _ => Ge.ok
  · split
    · exact Ge.er (.inr (.inr rfl))
    · exact Ge.ok
  · split <;> exact Ge.ok
theorem Ge.fcts {m : Nat} : ∀ n s, Ge E (fcts E m n s) := by
  intro n
  induction n with
  | zero => intro s; exact Ge.out
  | succ n ih =>
    intro s
    unfold Sy.fcts
    split
    · exact Ge.ok
    · exact Ge.bind Ge.fct fun _ _ => ih _
end
end Go.Proofs.Ytkllhfajldnpoaa.Sy
namespace Go.Proofs.Ytkllhfajldnpoaa.Sy
open Go
set_option linter.unusedVariables false
/-- Tokens of one text stand in another one: m tokens, o bytes on; xo, so, fo: how much was put before; ex: nothing is other. -/
structure Mv where
  E : Env
  E' : Env
  K : Nat
  m : Nat
  o : Int
  xo : Nat
  so : Nat
  fo : Nat
  ex : Prop
structure Mv.Ok (M : Mv) : Prop where
  T : ∀ i t, i < M.K → M.E.T[i]? = some t → M.E'.T[i + M.m]? = some (t.1, t.2.1 + M.o, t.2.2 + M.o)
  W : ∀ i x, i < M.K → M.E.W[i]? = some x → M.E'.W[i + M.m]? = some x
  KT : M.K ≤ M.E.T.length
  KW : M.K ≤ M.E.W.length
  ex : M.ex → M.o = 0
def Mv.St (M : Mv) (x x' : St) : Prop := x'.k = x.k ∧ (M.ex → x' = x)
structure Mv.S (M : Mv) (s s' : PS) : Prop where
  i : s'.i = s.i + M.m
  x : s'.ex.length = s.ex.length + M.xo
  st : s'.st.length = s.st.length + M.so
  ss : ∀ j x, s.st[j]? = some x → ∃ y, s'.st[j + M.so]? = some y ∧ y.k = x.k ∧ y.f = x.f + M.o ∧ y.e = x.e + M.o
  fn : s'.fn.length = s.fn.length + M.fo
  eq : M.ex → s' = s
/-- A result that goes alike. -/
def Mv.R (M : Mv) {α : Type} (V : α → α → Prop) (a : α) (t : PS) (r : Rs α) : Prop := ∃ a' t', r = .ok a' t' ∧ V a a' ∧ M.S t t'
def Mv.I (M : Mv) (a a' : Int) : Prop := M.ex → a' = a
def Mv.L {α : Type} (M : Mv) (l l' : List α) : Prop := l'.length = l.length ∧ (M.ex → l' = l)
def Mv.U (M : Mv) (_ _ : Unit) : Prop := True
theorem Mv.R.bind {M : Mv} {α β : Type} {V : α → α → Prop} {W : β → β → Prop} {r : Rs α} {g : α → PS → Rs β} {a : α} {b : β} {t u : PS} (h : M.R V a t r) (k : ∀ a' t', V a a' → M.S t t' → M.R W b u (g a' t')) : M.R W b u (r.bind g) := by
  obtain ⟨a', t', rfl, hv, hs⟩ := h
  exact k a' t' hv hs
section
variable {M : Mv} {s s' : PS}
theorem Mv.S.kd (h : M.S s s') (ok : M.Ok) (hi : s.i < M.K) : kd M.E' s' = kd M.E s := by
  obtain ⟨t, ht⟩ : ∃ t, M.E.T[s.i]? = some t := ⟨_, List.getElem?_eq_getElem (Nat.lt_of_lt_of_le hi ok.KT)⟩
  unfold Sy.kd
  rw [h.i, ok.T _ _ hi ht, ht]
theorem Mv.S.hr (h : M.S s s') (ok : M.Ok) (hi : s.i < M.K) : hr M.E' s' = hr M.E s + M.o := by
  obtain ⟨t, ht⟩ : ∃ t, M.E.T[s.i]? = some t := ⟨_, List.getElem?_eq_getElem (Nat.lt_of_lt_of_le hi ok.KT)⟩
  unfold Sy.hr
  rw [h.i, ok.T _ _ hi ht, ht]
theorem Mv.S.wd (h : M.S s s') (ok : M.Ok) (hi : s.i < M.K) : wd M.E' s' = wd M.E s := by
  obtain ⟨x, hx⟩ : ∃ x, M.E.W[s.i]? = some x := ⟨_, List.getElem?_eq_getElem (Nat.lt_of_lt_of_le hi ok.KW)⟩
  unfold Sy.wd
  rw [h.i, ok.W _ _ hi hx, hx]
theorem Mv.S.pe (h : M.S s s') (ok : M.Ok) (h1 : 1 ≤ s.i) (hi : s.i ≤ M.K) : pe M.E' s' = pe M.E s + M.o := by
  obtain ⟨t, ht⟩ : ∃ t, M.E.T[s.i - 1]? = some t := ⟨_, List.getElem?_eq_getElem (by have := ok.KT; omega)⟩
  unfold Sy.pe
  rw [h.i, show s.i + M.m - 1 = s.i - 1 + M.m by omega, ok.T _ _ (by omega) ht, ht]
theorem Mv.S.adv (h : M.S s s') : M.S (adv s) (adv s') :=
  ⟨by show s'.i + 1 = s.i + 1 + M.m; rw [h.i]; omega, h.x, h.st, h.ss, h.fn, fun e => by rw [h.eq e]⟩
theorem Mv.R.ok {α : Type} {V : α → α → Prop} {a a' : α} (hv : V a a') (h : M.S s s') : M.R V a s (.ok a' s') := ⟨a', s', rfl, hv, h⟩
end
end Go.Proofs.Ytkllhfajldnpoaa.Sy
namespace Go.Proofs.Ytkllhfajldnpoaa.Sy
open Go
set_option linter.unusedVariables false
section
variable {M : Mv} {s s' : PS}
theorem fct_st {E : Env} {n : Nat} {t : PS} {x : Unit} (e : fct E n s = .ok x t) : s.i + 1 ≤ t.i ∧ t.fn.length = s.fn.length + 1 ∧ s.st.length ≤ t.st.length ∧ t.st.length + s.i ≤ s.st.length + t.i := by
  obtain ⟨hl, nm, s2, s3, ps, s4, ty, s5, bd, s6, h2, h3, h4, h5, q, h6, rfl⟩ := fct_inv e
  have u := ((((adv_up s).trans (knd_up h2)).trans (want_up h3)).trans (prms_up _ _ _ _ _ h4))
  have u5 : Up 0 0 0 s4 s5 := by
    rcases h5 with ⟨_, _, rfl⟩ | ⟨_, _, rfl⟩
    · exact (adv_up _).le (by omega) (by omega) (by omega)
    · exact Up.refl _
  obtain ⟨u6, u7, u8, u9, u10⟩ := (u.trans u5).trans (block_up (bd_lv n) h6)
  exact ⟨by simp only; omega, by simp [u8], u9, by simp only; omega⟩
theorem fcts_st {E : Env} {m : Nat} : ∀ n s t x, fcts E m n s = .ok x t → s.i ≤ t.i ∧ s.fn.length ≤ t.fn.length ∧ s.st.length ≤ t.st.length ∧ t.st.length + s.i ≤ s.st.length + t.i := by
  intro n
  induction n with
  | zero => intro s t x h; cases h
  | succ n ih =>
    intro s t x h
    unfold fcts at h
    split at h
    · cases h; omega
    · obtain ⟨_, s1, h1, h2⟩ := bind_inv h
      have := fct_st h1
      have := ih _ _ _ h2
      omega
end
section
variable {E : Env}
theorem stmts_end : ∀ n d l s x t, (lv E n).stmts d l s = .ok x t → ∃ u, wd E u = wRcur ∧ t.i = u.i + 1 := by
  intro n
  induction n with
  | zero => intro d l s x t h; cases h
  | succ n ih =>
    intro d l s x t h
    have h : sStmts E (lv E n) d l s = .ok x t := h
    unfold sStmts at h
    split at h
    · rename_i q; cases h; exact ⟨s, q, rfl⟩
    · obtain ⟨_, s1, h1, h2⟩ := bind_inv h
      exact ih _ _ _ _ _ h2
theorem fct_end {n : Nat} {s t : PS} {x : Unit} (h : fct E n s = .ok x t) : ∃ u, wd E u = wRcur ∧ t.i = u.i + 1 := by
  obtain ⟨hl, nm, s2, s3, ps, s4, ty, s5, bd, s6, h2, h3, h4, h5, q, h6, rfl⟩ := fct_inv h
  obtain ⟨_, s7, h7, h8⟩ := bind_inv h6
  obtain ⟨_, s8, h9, h10⟩ := bind_inv h8
  obtain ⟨u, hu, hi⟩ := stmts_end _ _ _ _ _ _ h10
  exact ⟨u, hu, hi⟩
theorem fcts_end {m : Nat} : ∀ n s x t, fcts E m n s = .ok x t → (t = s ∨ ∃ u, wd E u = wRcur ∧ t.i = u.i + 1) ∧ t.fn ≠ [] ∧ kd E t = 0 := by
  intro n
  induction n with
  | zero => intro s x t h; cases h
  | succ n ih =>
    intro s x t h
    unfold fcts at h
    split at h
    · rename_i q; cases h; exact ⟨.inl rfl, q⟩
    · obtain ⟨_, s1, h1, h2⟩ := bind_inv h
      obtain ⟨h3, h4⟩ := ih _ _ _ h2
      refine ⟨.inr ?_, h4⟩
      rcases h3 with rfl | h3
      · exact fct_end h1
      · exact h3
end
/-- Facts of a text's tokens. -/
structure Txt (L : List Int) : Prop where
  len : L.length ≤ 20000
  als : Tk.als (L.length + 1) 0 L = ((Tk.allT L).1, none)
theorem txt_of {L : List Int} {S : PS} (h : prs L = .ok () S) : Txt L ∧ (Tk.allT L).2 = (0, 0) ∧ fcts (envOf L) (fuel L) (fuel L) ⟨0, [], [], []⟩ = .ok () S := by
  unfold prs at h
  split at h
  · cases h
  · rename_i q
    have q : (Tk.allT L).2.2 = 0 := Decidable.not_not.1 q
    obtain ⟨h1, h2, h3⟩ := Tk.all_ok q
    exact ⟨⟨h1, h2⟩, Prod.ext h3 q, h⟩
theorem Txt.ne {L : List Int} (h : Txt L) : (Tk.allT L).1 ≠ [] := fun e => by have := h.als; rw [e] at this; exact Tk.als_ne this
theorem Txt.last {L : List Int} (h : Txt L) {s : PS} (hs : (envOf L).T.length ≤ s.i + 1) : kd (envOf L) s = 0 ∧ wd (envOf L) s = [] := by
  rcases Nat.lt_or_ge s.i (envOf L).T.length with h1 | h1
  · obtain ⟨t, ht⟩ : ∃ t, (envOf L).T[s.i]? = some t := ⟨_, List.getElem?_eq_getElem h1⟩
    have hk := (Tk.als_last _ _ _ _ h.als s.i t ht).1 (by show s.i + 1 = (envOf L).T.length; omega)
    refine ⟨by unfold kd; rw [ht]; exact hk, ?_⟩
    obtain ⟨b, h2, h3⟩ := Tk.als_each L _ _ 0 (by rw [List.drop_zero]; exact h.als) t (List.mem_of_getElem? ht)
    rw [h3] at hk
    obtain ⟨hm, _⟩ := Tk.nx_end h2 hk
    have ht' : (Tk.allT L).1[s.i]? = some t := ht
    show (envOf L).W[s.i]?.getD [] = []
    show (List.map (fun t : Tk.T3 => (L.take t.2.2.toNat).drop t.2.1.toNat) (Tk.allT L).1)[s.i]?.getD [] = []
    rw [List.getElem?_map, ht', h3]
    simp only [Option.map_some, Option.getD_some, hm, Int.toNat_natCast]
    exact List.drop_eq_nil_of_le (by rw [List.length_take]; omega)
  · refine ⟨by unfold kd; rw [List.getElem?_eq_none h1], ?_⟩
    unfold wd
    rw [List.getElem?_eq_none (by have : (envOf L).W.length = (envOf L).T.length := by simp [envOf]
                                  omega)]
    rfl
theorem Txt.k0 {L : List Int} (h : Txt L) {s : PS} (hs : kd (envOf L) s = 0) : (envOf L).T.length ≤ s.i + 1 := by
  rcases Nat.lt_or_ge s.i (envOf L).T.length with h1 | h1
  · obtain ⟨t, ht⟩ : ∃ t, (envOf L).T[s.i]? = some t := ⟨_, List.getElem?_eq_getElem h1⟩
    have : t.1 = 0 := by unfold kd at hs; rw [ht] at hs; exact hs
    have := (Tk.als_last _ _ _ _ h.als s.i t ht).2 this
    have e : (envOf L).T.length = (Tk.allT L).1.length := rfl
    omega
  · omega
/-- Where a program's parse ends: at its last token. -/
theorem prs_end {L : List Int} {S : PS} (h : prs L = .ok () S) : S.i + 1 = (envOf L).T.length ∧ S.fn ≠ [] := by
  obtain ⟨ht, h0, hf⟩ := txt_of h
  obtain ⟨h1, h2, h3⟩ := fcts_end _ _ _ _ hf
  refine ⟨?_, h2⟩
  have h4 := ht.k0 h3
  rcases h1 with rfl | ⟨u, hu, h5⟩
  · exact (h2 rfl).elim
  · rcases Nat.lt_or_ge (u.i + 1) (envOf L).T.length with h6 | h6
    · omega
    · have := (ht.last h6).2
      rw [hu] at this
      cases this
end Go.Proofs.Ytkllhfajldnpoaa.Sy
namespace Go.Proofs.Ytkllhfajldnpoaa.Sy
open Go
set_option linter.unusedVariables false
/-- Where a token begins, and ends. -/
def hI (E : Env) (i : Nat) : Int := match E.T[i]? with | some t => t.2.1 | none => 0
def eI (E : Env) (i : Nat) : Int := match E.T[i]? with | some t => t.2.2 | none => 0
theorem hr_I (E : Env) (s : PS) : hr E s = hI E s.i := rfl
theorem pe_I (E : Env) (s : PS) : pe E s = eI E (s.i - 1) := rfl
/-- Tokens stand one behind the other. -/
structure Mono (E : Env) (N : Nat) : Prop where
  W : E.W.length = N
  T : E.T.length = N
  le : ∀ i, i < N → hI E i ≤ eI E i
  nx : ∀ i, i + 1 < N → eI E i ≤ hI E (i + 1)
section
variable {E : Env} {N : Nat}
theorem Mono.hh (M : Mono E N) {i : Nat} : ∀ j, i ≤ j → j < N → hI E i ≤ hI E j := by
  intro j
  induction j with
  | zero => intro h _; rw [show i = 0 by omega]; exact Int.le_refl _
  | succ j ih =>
    intro h hj
    rcases Nat.lt_or_ge j i with h1 | h1
    · rw [show i = j + 1 by omega]; exact Int.le_refl _
    · have := ih h1 (by omega); have := M.le j (by omega); have := M.nx j hj; omega
theorem Mono.he (M : Mono E N) {i j : Nat} (h : i ≤ j) (hj : j < N) : hI E i ≤ eI E j := by
  have := M.hh j h hj; have := M.le j hj; omega
theorem Mono.ee (M : Mono E N) {i j : Nat} (h : i ≤ j) (hj : j < N) : eI E i ≤ eI E j := by
  rcases Nat.lt_or_ge i j with h1 | h1
  · have := M.nx i (by omega); have := M.he (i := i + 1) (j := j) (by omega) hj; omega
  · rw [show i = j by omega]; exact Int.le_refl _
theorem Mono.eh (M : Mono E N) {i j : Nat} (h : i < j) (hj : j < N) : eI E i ≤ hI E j := by
  have := M.nx i (by omega); have := M.hh (i := i + 1) j (by omega) hj; omega
end
/-- An expression's parts. -/
def prt (x : Ex) : List Int := if x.k = 5 ∨ x.k = 8 then [x.a] else if x.k = 9 then [x.a, x.b] else if x.k = 6 then x.l else []
/-- Parts are ahead of j, within f to e, each behind the one ahead of it. -/
def Chain (ex : List Ex) (j : Nat) (f e : Int) : Int → List Int → Prop
  | _, [] => True
  | last, k :: r => ∃ (m : Nat) (y : Ex), k = (m : Int) ∧ m < j ∧ ex[m]? = some y ∧ f ≤ y.f ∧ y.e ≤ e ∧ last ≤ y.f ∧ Chain ex j f e y.e r
theorem Chain.mono {ex ex' : List Ex} {j j' : Nat} {f e e' : Int} (hx : ∀ (m : Nat) y, m < j → ex[m]? = some y → ex'[m]? = some y) (hj : j ≤ j') (he : e ≤ e') : ∀ {l : List Int} {last : Int}, Chain ex j f e last l → Chain ex' j' f e' last l := by
  intro l
  induction l with
  | nil => intro last _; trivial
  | cons k r ih =>
    rintro last ⟨m, y, rfl, h1, h2, h3, h4, h5, h6⟩
    exact ⟨m, y, rfl, by omega, hx m y h1 h2, h3, by omega, h5, ih h6⟩
theorem Chain.snoc {ex : List Ex} {j m : Nat} {f e e' : Int} {y : Ex} (hm : m < j) (hy : ex[m]? = some y) (hf : f ≤ y.f) (he : e ≤ y.f) (hee : e ≤ e') (hye : y.e ≤ e') : ∀ {l : List Int} {last : Int}, last ≤ y.f → Chain ex j f e last l → Chain ex j f e' last (l ++ [(m : Int)]) := by
  intro l
  induction l with
  | nil => intro last hl _; exact ⟨m, y, rfl, hm, hy, hf, hye, hl, trivial⟩
  | cons k r ih =>
    rintro last hl ⟨m', y', rfl, h1, h2, h3, h4, h5, h6⟩
    exact ⟨m', y', rfl, h1, h2, h3, by omega, h5, ih (by omega) h6⟩
def GdE (ex : List Ex) (j : Nat) (x : Ex) : Prop := Chain ex j x.f x.e x.f (prt x)
/-- Expressions were put, good ones. -/
structure Xs (s t : PS) : Prop where
  pre : ∃ n, t.ex = s.ex ++ n
  gd : ∀ j x, s.ex.length ≤ j → t.ex[j]? = some x → GdE t.ex j x
theorem pre_get {s t : PS} (h : ∃ n, t.ex = s.ex ++ n) {m : Nat} {y : Ex} (hy : s.ex[m]? = some y) : t.ex[m]? = some y := by
  obtain ⟨n, e⟩ := h
  rw [e, List.getElem?_append_left (List.getElem?_eq_some_iff.1 hy).1]; exact hy
theorem Xs.refl (s : PS) : Xs s s := ⟨⟨[], by simp⟩, fun j x hj hx => by rw [List.getElem?_eq_none hj] at hx; cases hx⟩
theorem Xs.trans {s t u : PS} (h : Xs s t) (g : Xs t u) : Xs s u := by
  refine ⟨?_, fun j x hj hx => ?_⟩
  · obtain ⟨n, e⟩ := h.pre
    obtain ⟨n', e'⟩ := g.pre
    exact ⟨n ++ n', by rw [e', e, List.append_assoc]⟩
  · rcases Nat.lt_or_ge j t.ex.length with h1 | h1
    · obtain ⟨y, hy⟩ : ∃ y, t.ex[j]? = some y := ⟨_, List.getElem?_eq_getElem h1⟩
      have := pre_get g.pre hy
      rw [this] at hx
      cases hx
      exact (h.gd j _ hj hy).mono (fun m y _ hm => pre_get g.pre hm) (Nat.le_refl _) (Int.le_refl _)
    · exact g.gd j x h1 hx
/-- A state that has the same expressions. -/
theorem Xs.same {s t u : PS} (h : Xs s t) (e : u.ex = t.ex) : Xs s u := ⟨by rw [e]; exact h.pre, fun j x hj hx => by rw [e] at hx ⊢; exact h.gd j x hj hx⟩
theorem Xs.from {s t u : PS} (h : Xs s t) (e : u.ex = s.ex) : Xs u t := ⟨by rw [e]; exact h.pre, fun j x hj hx => h.gd j x (by rw [← e]; exact hj) hx⟩
/-- An expression of a state, from a place to another. -/
def At_ (t : PS) (f e : Int) (a : Int) : Prop := ∃ (m : Nat) (x : Ex), a = (m : Int) ∧ t.ex[m]? = some x ∧ f ≤ x.f ∧ x.e ≤ e
theorem At_.up {s t : PS} {f f' e e' a : Int} (h : At_ s f e a) (k : Xs s t) (hf : f' ≤ f) (he : e ≤ e') : At_ t f' e' a := by
  obtain ⟨m, x, rfl, h1, h2, h3⟩ := h
  exact ⟨m, x, rfl, pre_get k.pre h1, by omega, by omega⟩
theorem put_xs {E : Env} {fr : Int} {x : Ex} {s t : PS} {a : Int} (h : put E fr x s = .ok a t) (hg : Chain s.ex s.ex.length fr (pe E s) fr (prt { x with f := fr, e := pe E s })) : Xs s t ∧ At_ t fr (pe E s) a ∧ t.i = s.i := by
  cases h
  refine ⟨⟨⟨_, rfl⟩, fun j y hj hy => ?_⟩, ⟨s.ex.length, { x with f := fr, e := pe E s }, rfl, by simp, Int.le_refl _, Int.le_refl _⟩, rfl⟩
  simp only at hy ⊢
  rw [List.getElem?_append_right hj] at hy
  have hj0 : j = s.ex.length := by
    rcases Nat.lt_or_ge s.ex.length j with h1 | h1
    · rw [List.getElem?_eq_none (by simp; omega)] at hy; cases hy
    · omega
  subst hj0
  rw [Nat.sub_self] at hy
  cases hy
  exact hg.mono (fun m y hm hy => by rw [List.getElem?_append_left hm]; exact hy) (Nat.le_refl _) (Int.le_refl _)
structure SpX (E : Env) (N : Nat) (L : Lv) : Prop where
  row : ∀ v d s a t, L.row v d s = .ok a t → t.i ≤ N → Xs s t ∧ At_ t (hI E s.i) (eI E (t.i - 1)) a
  rows : ∀ v d fr a s b t, L.rows v d fr a s = .ok b t → t.i ≤ N → 1 ≤ s.i → At_ s fr (eI E (s.i - 1)) a → fr ≤ hI E (s.i - 1) → Xs s t ∧ At_ t fr (eI E (t.i - 1)) b
  expr : ∀ d s a t, L.expr d s = .ok a t → t.i ≤ N → Xs s t ∧ At_ t (hI E s.i) (eI E (t.i - 1)) a
  unary : ∀ d s a t, L.unary d s = .ok a t → t.i ≤ N → Xs s t ∧ At_ t (hI E s.i) (eI E (t.i - 1)) a
  prim : ∀ d s a t, L.prim d s = .ok a t → t.i ≤ N → Xs s t ∧ At_ t (hI E s.i) (eI E (t.i - 1)) a
  args : ∀ fr nm d l s a t, L.args fr nm d l s = .ok a t → t.i ≤ N → 1 ≤ s.i → fr ≤ hI E (s.i - 1) → Chain s.ex s.ex.length fr (eI E (s.i - 1)) fr l → Xs s t ∧ At_ t fr (eI E (t.i - 1)) a
section
variable {E : Env} {N : Nat} {L : Lv}
theorem adv_ex (s : PS) : (adv s).ex = s.ex := rfl
theorem want_ex {w : List Int} {s t : PS} {x : Unit} (h : want E w s = .ok x t) : t.ex = s.ex ∧ t.i = s.i + 1 ∧ t.st = s.st := by
  unfold want at h; split at h <;> cases h; exact ⟨rfl, rfl, rfl⟩
theorem knd_ex {k : Int} {s t : PS} {x : List Int} (h : knd E k s = .ok x t) : t.ex = s.ex ∧ t.i = s.i + 1 ∧ t.st = s.st := by
  unfold knd at h; split at h <;> cases h; exact ⟨rfl, rfl, rfl⟩
theorem one_chain {s : PS} {f e : Int} {a : Int} (h : At_ s f e a) : Chain s.ex s.ex.length f e f [a] := by
  obtain ⟨m, x, rfl, h1, h2, h3⟩ := h
  exact ⟨m, x, rfl, (List.getElem?_eq_some_iff.1 h1).1, h1, h2, h3, h2, trivial⟩
theorem call_xs (M : Mono E N) (hB : Bd L) (hL : SpX E N L) {fr : Int} {nm : List Int} {d : Int} {s t : PS} {a : Int} (h : call E L fr nm d s = .ok a t) (ht : t.i ≤ N) (hf : fr ≤ hI E s.i) : Xs s t ∧ At_ t fr (eI E (t.i - 1)) a := by
  obtain ⟨_, s1, h1, h2⟩ := bind_inv h
  obtain ⟨e1, e2, _⟩ := want_ex h1
  obtain ⟨k, r⟩ := hL.args _ _ _ _ _ _ _ h2 ht (by omega) (by rw [e2]; exact hf) trivial
  exact ⟨k.from e1.symm, r⟩
theorem spx_step (M : Mono E N) (hB : Bd L) (hS : Fst N L) (hL : SpX E N L) : SpX E N (stepL E L) := by
  have hB' := bd_step (E := E) hB
  constructor
  · intro v d s a t h ht
    have h : sRow E L v d s = .ok a t := h
    unfold sRow at h
    split at h
    · exact hL.unary _ _ _ _ h ht
    · obtain ⟨b, s1, h1, h2⟩ := bind_inv h
      have u1 := (hB.row _ _ _ _ _ h1).1
      have u2 := (hB.rows _ _ _ _ _ _ _ h2).1
      obtain ⟨k1, r1⟩ := hL.row _ _ _ _ _ h1 (by omega)
      have hs := hS.row _ _ _ _ _ h1
      obtain ⟨k2, r2⟩ := hL.rows _ _ _ _ _ _ _ h2 ht (by omega) r1 (M.hh (s1.i - 1) (by omega) (by omega))
      exact ⟨k1.trans k2, r2⟩
  · intro v d fr a s b t h ht h1 ha hf
    have u0 := (hB'.rows v d fr a s b t h).1
    have h : sRows E L v d fr a s = .ok b t := h
    unfold sRows at h
    split at h
    · obtain ⟨c, s1, e1, e2⟩ := bind_inv h
      obtain ⟨p, s2, e3, e4⟩ := bind_inv e2
      have u1 := (hB.row _ _ _ _ _ e1).1
      have ua : (adv s).i = s.i + 1 := rfl
      have hs := hS.row _ _ _ _ _ e1
      have hs2 : s2.i = s1.i := by cases e3; rfl
      have hle : s1.i ≤ t.i := by
        split at e4
        · cases e4; omega
        · have := (hB.rows _ _ _ _ _ _ _ e4).1; omega
      obtain ⟨k1, r1⟩ := hL.row _ _ _ _ _ e1 (by omega)
      have k1 : Xs s s1 := k1.from rfl
      have g1 := M.eh (i := s.i - 1) (j := s.i + 1) (by omega) (by omega)
      have g2 := M.hh (i := s.i - 1) (s.i + 1) (by omega) (by omega)
      have g3 := M.ee (i := s.i - 1) (j := s1.i - 1) (by omega) (by omega)
      have ha1 := ha.up k1 (Int.le_refl _) g3
      have hch : Chain s1.ex s1.ex.length fr (pe E s1) fr (prt { ({ k := 9, op := wd E s, a := a, b := c } : Ex) with f := fr, e := pe E s1 }) := by
        obtain ⟨m, x, rfl, x1, x2, x3⟩ := ha.up k1 (Int.le_refl _) (Int.le_refl _)
        obtain ⟨m', x', rfl, y1, y2, y3⟩ := r1
        rw [ua] at y2
        refine ⟨m, x, rfl, (List.getElem?_eq_some_iff.1 x1).1, x1, x2, by rw [pe_I]; omega, x2, m', x', rfl, (List.getElem?_eq_some_iff.1 y1).1, y1, by omega, y3, by omega, trivial⟩
      obtain ⟨k3, r3, _⟩ := put_xs e3 hch
      split at e4
      · cases e4
        refine ⟨k1.trans k3, ?_⟩
        rw [hs2]
        exact r3
      · obtain ⟨k4, r4⟩ := hL.rows _ _ _ _ _ _ _ e4 ht (by omega) (by rw [hs2]; exact r3) (by
          rw [hs2]
          have := M.hh (i := s.i - 1) (s1.i - 1) (by omega) (by omega)
          omega)
        exact ⟨(k1.trans k3).trans k4, r4⟩
    · cases h
      exact ⟨Xs.refl _, ha⟩
  · intro d s a t h ht
    obtain ⟨_, s1, h1, h2⟩ := bind_inv (show sExpr E L d s = .ok a t from h)
    have e := deep_up h1
    subst e
    exact hL.row _ _ _ _ _ h2 ht
  · intro d s a t h ht
    have h : sUnary E L d s = .ok a t := h
    unfold sUnary at h
    split at h
    · obtain ⟨_, s1, e1, e2⟩ := bind_inv h
      have e1' := deep_up e1
      subst e1'
      obtain ⟨b, s2, e3, e4⟩ := bind_inv e2
      have u1 := (hB.unary _ _ _ _ e3).1
      have ua : (adv s).i = s.i + 1 := rfl
      have hti : t.i = s2.i := by cases e4; rfl
      have hs := hS.unary _ _ _ _ e3
      obtain ⟨k1, r1⟩ := hL.unary _ _ _ _ e3 (by omega)
      have g1 := M.hh (i := s.i) (s.i + 1) (by omega) (by omega)
      obtain ⟨k2, r2, _⟩ := put_xs e4 (one_chain (r1.up (Xs.refl _) (by rw [hr_I, ua]; exact g1) (Int.le_refl _)))
      refine ⟨(k1.from (adv_ex s).symm).trans k2, ?_⟩
      rw [hti]
      exact r2
    · exact hL.prim _ _ _ _ h ht
  · intro d s a t h ht
    have u0 := (hB'.prim d s a t h).1
    have h : sPrim E L d s = .ok a t := h
    unfold sPrim at h
    have leaf : ∀ (x : Ex), prt { x with f := hr E s, e := pe E (adv s) } = [] → put E (hr E s) x (adv s) = .ok a t → Xs s t ∧ At_ t (hI E s.i) (eI E (t.i - 1)) a := fun x hx hp => by
      obtain ⟨k, r, e⟩ := put_xs hp (by rw [hx]; trivial)
      exact ⟨k.from (adv_ex s).symm, by rw [e]; exact r⟩
    split at h
    · exact leaf _ rfl h
    split at h
    · exact leaf _ rfl h
    split at h
    · exact leaf _ rfl h
    split at h
    · exact leaf _ rfl h
    split at h
    · obtain ⟨b, s1, e1, e2⟩ := bind_inv h
      obtain ⟨_, s2, e3, e4⟩ := bind_inv e2
      cases e4
      obtain ⟨w1, w2, _⟩ := want_ex e3
      have ua : (adv s).i = s.i + 1 := rfl
      have hs := hS.expr _ _ _ _ e1
      have u1 := (hB.expr _ _ _ _ e1).1
      obtain ⟨k1, r1⟩ := hL.expr _ _ _ _ e1 (by omega)
      have g1 := M.hh (i := s.i) (s.i + 1) (by omega) (by omega)
      have g2 := M.ee (i := s1.i - 1) (j := t.i - 1) (by omega) (by omega)
      have k2 : Xs s t := (k1.from (adv_ex s).symm).same w1
      obtain ⟨m, x, rfl, x1, x2, x3⟩ := r1
      rw [ua] at x2
      exact ⟨k2, m, x, rfl, by rw [w1]; exact x1, by omega, by omega⟩
    · obtain ⟨nm, s1, e1, e2⟩ := bind_inv h
      obtain ⟨w1, w2, _⟩ := knd_ex e1
      split at e2
      · obtain ⟨b, s2, e3, e4⟩ := bind_inv e2
        obtain ⟨_, s3, e5, e6⟩ := bind_inv e4
        obtain ⟨v1, v2, _⟩ := want_ex e5
        have hti : t.i = s3.i := by cases e6; rfl
        have ua : (adv s1).i = s1.i + 1 := rfl
        have hs := hS.expr _ _ _ _ e3
        have u1 := (hB.expr _ _ _ _ e3).1
        obtain ⟨k1, r1⟩ := hL.expr _ _ _ _ e3 (by omega)
        have g1 := M.hh (i := s.i) (s1.i + 1) (by omega) (by omega)
        have g2 := M.ee (i := s2.i - 1) (j := s3.i - 1) (by omega) (by omega)
        have k2 : Xs s s3 := (k1.from (show s.ex = (adv s1).ex by rw [adv_ex, w1])).same v1
        have r2 : At_ s3 (hr E s) (pe E s3) b := by
          obtain ⟨m, x, rfl, x1, x2, x3⟩ := r1
          rw [ua] at x2
          exact ⟨m, x, rfl, by rw [v1]; exact x1, by rw [hr_I]; omega, by rw [pe_I]; omega⟩
        obtain ⟨k3, r3, _⟩ := put_xs e6 (one_chain r2)
        refine ⟨k2.trans k3, ?_⟩
        rw [hti]
        exact r3
      split at e2
      · have hle : s1.i ≤ t.i := by have := (call_up hB e2).1; omega
        have hs1 : s1.i < N := by
          obtain ⟨_, s2, e3, e4⟩ := bind_inv e2
          exact want_lt M.W (by decide) e3
        obtain ⟨k1, r1⟩ := call_xs M hB hL e2 ht (by rw [hr_I]; exact M.hh s1.i (by omega) hs1)
        exact ⟨k1.from w1.symm, r1⟩
      · obtain ⟨k, r, e⟩ := put_xs e2 (show Chain _ _ _ _ _ [] from trivial)
        exact ⟨k.from w1.symm, by rw [e]; exact r⟩
  · intro fr nm d l s a t h ht h1 hf hc
    have u0 := (hB'.args fr nm d l s a t h).1
    have h : sArgs E L fr nm d l s = .ok a t := h
    unfold sArgs at h
    split at h
    · have hti : t.i = (adv s).i := by cases h; rfl
      have ua : (adv s).i = s.i + 1 := rfl
      have g := M.ee (i := s.i - 1) (j := s.i) (by omega) (by omega)
      obtain ⟨k, r, _⟩ := put_xs h (show Chain (adv s).ex (adv s).ex.length fr (pe E (adv s)) fr l from hc.mono (fun m y _ hy => hy) (Nat.le_refl _) (by rw [pe_I]; exact g))
      exact ⟨k.from (adv_ex s).symm, by rw [hti]; exact r⟩
    · obtain ⟨_, s1, e1, e2⟩ := bind_inv h
      obtain ⟨b, s2, e3, e4⟩ := bind_inv e2
      have hs1 : s1.ex = s.ex ∧ s.i ≤ s1.i := by
        split at e1
        · cases e1; exact ⟨rfl, Nat.le_refl _⟩
        · obtain ⟨a1, a2, _⟩ := want_ex e1; exact ⟨a1, by omega⟩
      have u1 := (hB.expr _ _ _ _ e3).1
      split at e4
      · have u2 := (hB.args _ _ _ _ _ _ _ e4).1
        have hs := hS.expr _ _ _ _ e3
        obtain ⟨k1, r1⟩ := hL.expr _ _ _ _ e3 (by omega)
        have k1 : Xs s s2 := k1.from hs1.1.symm
        have g1 := M.eh (i := s.i - 1) (j := s1.i) (by omega) (by omega)
        have g2 := M.hh (i := s.i - 1) s1.i (by omega) (by omega)
        have g3 := M.ee (i := s.i - 1) (j := s2.i - 1) (by omega) (by omega)
        obtain ⟨m, x, rfl, x1, x2, x3⟩ := r1
        have hc2 : Chain s2.ex s2.ex.length fr (eI E (s2.i - 1)) fr (l ++ [(m : Int)]) := by
          have hlen : s.ex.length ≤ s2.ex.length := by obtain ⟨n, e⟩ := k1.pre; rw [e]; simp
          exact (hc.mono (fun m y _ hy => pre_get k1.pre hy) hlen (Int.le_refl _)).snoc (List.getElem?_eq_some_iff.1 x1).1 x1 (by omega) (by omega) g3 x3 (by omega)
        obtain ⟨k2, r2⟩ := hL.args _ _ _ _ _ _ _ e4 ht (by omega) (by have := M.hh (i := s.i - 1) (s2.i - 1) (by omega) (by omega); omega) hc2
        exact ⟨k1.trans k2, r2⟩
      · cases e4
end
theorem spx_lv {E : Env} {N : Nat} (M : Mono E N) : ∀ n, SpX E N (lv E n)
  | 0 => ⟨fun _ _ _ _ _ h => (by cases h), fun _ _ _ _ _ _ _ h => (by cases h), fun _ _ _ _ h => (by cases h), fun _ _ _ _ h => (by cases h), fun _ _ _ _ h => (by cases h), fun _ _ _ _ _ _ _ h => (by cases h)⟩
  | n + 1 => spx_step M (bd_lv n) (fst_lv M.W M.T n) (spx_lv M n)
end Go.Proofs.Ytkllhfajldnpoaa.Sy
namespace Go.Proofs.Ytkllhfajldnpoaa.Tk
open Go
theorem als_rise : ∀ (ts : List T3) (f a : Nat) (L : List Int), als f a L = (ts, none) → ∀ (i : Nat) (t u : T3), ts[i]? = some t → ts[i + 1]? = some u → t.2.2 ≤ u.2.1 := by
  intro ts
  induction ts with
  | nil => intro f a L h i t u ht; simp at ht
  | cons x r ih =>
    intro f a L h i t u ht hu
    obtain ⟨h1, h2, h3⟩ := als_cons h
    rw [List.getElem?_cons_succ] at hu
    rcases h3 with ⟨_, rfl⟩ | ⟨_, g, _, h4⟩
    · simp at hu
    · cases i with
      | zero =>
        rw [List.getElem?_cons_zero] at ht
        cases ht
        have := als_bounds g _ _ u (by rw [h4]; exact List.mem_of_getElem? hu)
        rw [h2]
        exact this.1
      | succ i =>
        rw [List.getElem?_cons_succ] at ht
        exact ih _ _ _ h4 i t u ht hu
end Go.Proofs.Ytkllhfajldnpoaa.Tk
namespace Go.Proofs.Ytkllhfajldnpoaa.Sy
open Go
set_option linter.unusedVariables false
theorem mono_env {L : List Int} (h : Txt L) : Mono (envOf L) (Tk.allT L).1.length := by
  refine ⟨by simp [envOf], rfl, fun i hi => ?_, fun i hi => ?_⟩
  · have e : (envOf L).T[i]? = some (Tk.allT L).1[i] := List.getElem?_eq_getElem hi
    unfold hI eI
    rw [e]
    exact (Tk.als_bounds _ _ _ _ (by rw [h.als]; exact List.getElem_mem hi)).2.1
  · have e : (envOf L).T[i]? = some ((Tk.allT L).1[i]'(by omega)) := List.getElem?_eq_getElem (by show i < (Tk.allT L).1.length; omega)
    have e' : (envOf L).T[i + 1]? = some (Tk.allT L).1[i + 1] := List.getElem?_eq_getElem hi
    unfold hI eI
    rw [e, e']
    exact Tk.als_rise _ _ _ _ h.als i _ _ (List.getElem?_eq_getElem (by omega)) (List.getElem?_eq_getElem hi)
/-- Expressions leave the statements. -/
def Kst {α : Type} (l : List St) (r : Rs α) : Prop := ∀ a t, r = .ok a t → t.st = l
section
variable {E : Env} {α β : Type} {l : List St}
theorem Kst.ok {x : α} {s : PS} (h : s.st = l) : Kst l (.ok x s) := fun a t e => by cases e; exact h
theorem Kst.out : Kst l (.out : Rs α) := fun a t e => by cases e
theorem Kst.er {c : Int} {s : PS} : Kst l (Sy.er E c s : Rs α) := fun a t e => by cases e
theorem Kst.bind {r : Rs α} {g : α → PS → Rs β} (h : Kst l r) (k : ∀ x s, s.st = l → Kst l (g x s)) : Kst l (r.bind g) := by
  intro a t e
  obtain ⟨x, s, e1, e2⟩ := bind_inv e
  exact k x s (h x s e1) a t e2
theorem Kst.want {w : List Int} {s : PS} (h : s.st = l) : Kst l (want E w s) := fun a t e => by rw [(want_ex e).2.2]; exact h
theorem Kst.knd {k : Int} {s : PS} (h : s.st = l) : Kst l (knd E k s) := fun a t e => by rw [(knd_ex e).2.2]; exact h
theorem Kst.deep {d : Int} {s : PS} (h : s.st = l) : Kst l (deep E d s) := fun a t e => by rw [deep_up e]; exact h
theorem Kst.put {fr : Int} {x : Ex} {s : PS} (h : s.st = l) : Kst l (put E fr x s) := fun a t e => by cases e; exact h
end
structure KsL (L : Lv) : Prop where
  row : ∀ v d s l, s.st = l → Kst l (L.row v d s)
  rows : ∀ v d fr a s l, s.st = l → Kst l (L.rows v d fr a s)
  expr : ∀ d s l, s.st = l → Kst l (L.expr d s)
  unary : ∀ d s l, s.st = l → Kst l (L.unary d s)
  prim : ∀ d s l, s.st = l → Kst l (L.prim d s)
  args : ∀ fr nm d r s l, s.st = l → Kst l (L.args fr nm d r s)
section
variable {E : Env} {L : Lv}
theorem ks_step (h : KsL L) : KsL (stepL E L) := by
  constructor
  · intro v d s l e
    show Kst l (sRow E L v d s)
    unfold sRow
    split
    · exact h.unary _ _ _ e
    · exact Kst.bind (h.row _ _ _ _ e) fun _ _ e => h.rows _ _ _ _ _ _ e
  · intro v d fr a s l e
    show Kst l (sRows E L v d fr a s)
    unfold sRows
    split
    · refine Kst.bind (h.row _ _ _ _ e) fun _ _ e => Kst.bind (Kst.put e) fun _ _ e => ?_
      split
      · exact Kst.ok e
      · exact h.rows _ _ _ _ _ _ e
    · exact Kst.ok e
  · intro d s l e
    exact Kst.bind (Kst.deep e) fun _ _ e => h.row _ _ _ _ e
  · intro d s l e
    show Kst l (sUnary E L d s)
    unfold sUnary
    split
    · exact Kst.bind (Kst.deep e) fun _ _ e => Kst.bind (h.unary _ _ _ e) fun _ _ e => Kst.put e
    · exact h.prim _ _ _ e
  · intro d s l e
    show Kst l (sPrim E L d s)
    unfold sPrim
    split
    · exact Kst.put e
    split
    · exact Kst.put e
    split
    · exact Kst.put e
    split
    · exact Kst.put e
    split
    · exact Kst.bind (h.expr _ _ _ e) fun _ _ e => Kst.bind (Kst.want e) fun _ _ e => Kst.ok e
    · refine Kst.bind (Kst.knd e) fun _ _ e => ?_
      split
      · exact Kst.bind (h.expr _ _ _ e) fun _ _ e => Kst.bind (Kst.want e) fun _ _ e => Kst.put e
      split
      · exact Kst.bind (Kst.want e) fun _ _ e => h.args _ _ _ _ _ _ e
      · exact Kst.put e
  · intro fr nm d r s l e
    show Kst l (sArgs E L fr nm d r s)
    unfold sArgs
    split
    · exact Kst.put e
    · refine Kst.bind (?_ : Kst l _) fun _ _ e => Kst.bind (h.expr _ _ _ e) fun _ _ e => ?_
      · split
        · exact Kst.ok e
        · exact Kst.want e
      · split
        · exact h.args _ _ _ _ _ _ e
        · exact Kst.er
theorem ks_lv : ∀ n, KsL (lv E n)
  | 0 => ⟨fun _ _ _ _ _ => Kst.out, fun _ _ _ _ _ _ _ => Kst.out, fun _ _ _ _ => Kst.out, fun _ _ _ _ => Kst.out, fun _ _ _ _ => Kst.out, fun _ _ _ _ _ _ _ => Kst.out⟩
  | n + 1 => ks_step (ks_lv n)
end
/-- All that is in a statement's lists. -/
def own (st : List St) : List Int := st.flatMap fun y => y.th ++ y.el
theorem own_app (a b : List St) : own (a ++ b) = own a ++ own b := List.flatMap_append
def GdS (st : List St) (j : Nat) (x : St) : Prop := ∀ k ∈ x.th ++ x.el, ∃ (m : Nat) (y : St), k = (m : Int) ∧ m < j ∧ st[m]? = some y ∧ x.f ≤ y.f ∧ y.e ≤ x.e
/-- Statements were put, good ones; these are in no list yet. -/
structure Ss (s t : PS) (o : List Int) : Prop where
  xs : Xs s t
  pre : ∃ n, t.st = s.st ++ n
  gd : ∀ j x, s.st.length ≤ j → t.st[j]? = some x → GdS t.st j x
  cn : ∀ k : Nat, (own t.st).count (k : Int) + o.count (k : Int) = (own s.st).count (k : Int) + (if s.st.length ≤ k ∧ k < t.st.length then 1 else 0)
def Op (t : PS) (f e : Int) (o : List Int) : Prop := ∀ k ∈ o, ∃ (m : Nat) (y : St), k = (m : Int) ∧ t.st[m]? = some y ∧ f ≤ y.f ∧ y.e ≤ e
section
variable {s t u : PS} {o o' : List Int}
theorem Ss.of (h : Xs s t) (e : t.st = s.st) : Ss s t [] :=
  ⟨h, ⟨[], by rw [e]; simp⟩, fun j x hj hx => (by rw [e, List.getElem?_eq_none hj] at hx; cases hx), fun k => by rw [e, if_neg (by omega)]; simp⟩
theorem pre_st (h : ∃ n, t.st = s.st ++ n) {m : Nat} {y : St} (hy : s.st[m]? = some y) : t.st[m]? = some y := by
  obtain ⟨n, e⟩ := h
  rw [e, List.getElem?_append_left (List.getElem?_eq_some_iff.1 hy).1]; exact hy
theorem pre_le (h : ∃ n, t.st = s.st ++ n) : s.st.length ≤ t.st.length := by obtain ⟨n, e⟩ := h; rw [e]; simp
theorem Ss.trans (h : Ss s t o) (g : Ss t u o') : Ss s u (o ++ o') := by
  refine ⟨h.xs.trans g.xs, ?_, fun j x hj hx => ?_, fun k => ?_⟩
  · obtain ⟨n, e⟩ := h.pre
    obtain ⟨n', e'⟩ := g.pre
    exact ⟨n ++ n', by rw [e', e, List.append_assoc]⟩
  · rcases Nat.lt_or_ge j t.st.length with h1 | h1
    · obtain ⟨y, hy⟩ : ∃ y, t.st[j]? = some y := ⟨_, List.getElem?_eq_getElem h1⟩
      have := pre_st g.pre hy
      rw [this] at hx
      cases hx
      intro k hk
      obtain ⟨m, z, a, b, c, d⟩ := h.gd j _ hj hy k hk
      exact ⟨m, z, a, b, pre_st g.pre c, d⟩
    · exact g.gd j x h1 hx
  · have h1 := h.cn k
    have h2 := g.cn k
    have h3 := pre_le h.pre
    have h4 := pre_le g.pre
    rw [List.count_append]
    by_cases a : s.st.length ≤ k ∧ k < t.st.length
    · rw [if_pos a] at h1
      rw [if_neg (by omega)] at h2
      rw [if_pos (by omega)]
      omega
    · rw [if_neg a] at h1
      by_cases b : t.st.length ≤ k ∧ k < u.st.length
      · rw [if_pos b] at h2; rw [if_pos (by omega)]; omega
      · rw [if_neg b] at h2; rw [if_neg (by omega)]; omega
theorem Ss.nil (h : Ss s t []) (g : Ss t u o) : Ss s u o := h.trans g
theorem Ss.nil' (h : Ss s t o) (g : Ss t u []) : Ss s u o := by have := h.trans g; rwa [List.append_nil] at this
theorem Op.up {f f' e e' : Int} (h : Op s f e o) (g : ∃ n, t.st = s.st ++ n) (hf : f' ≤ f) (he : e ≤ e') : Op t f' e' o := by
  intro k hk
  obtain ⟨m, y, a, b, c, d⟩ := h k hk
  exact ⟨m, y, a, pre_st g b, by omega, by omega⟩
theorem Op.app {f e : Int} (h : Op t f e o) (g : Op t f e o') : Op t f e (o ++ o') := fun k hk => (List.mem_append.1 hk).elim (h k) (g k)
theorem add_ss {E : Env} {fr : Int} {x : St} {s1 : PS} {a : Int} (h : add E fr x s1 = .ok a t) (hs : Ss s s1 (x.th ++ x.el)) (ho : Op s1 fr (pe E s1) (x.th ++ x.el)) : Ss s t [a] ∧ Op t fr (pe E s1) [a] ∧ t.i = s1.i := by
  unfold add at h
  split at h
  · cases h
  · cases h
    have hl := pre_le hs.pre
    refine ⟨⟨hs.xs.same rfl, ?_, fun j y hj hy => ?_, fun k => ?_⟩, fun k hk => ?_, rfl⟩
    · obtain ⟨n, e⟩ := hs.pre
      exact ⟨n ++ [{ x with f := fr, e := pe E s1 }], by simp only [e, List.append_assoc]⟩
    · simp only at hy ⊢
      rcases Nat.lt_or_ge j s1.st.length with h1 | h1
      · rw [List.getElem?_append_left h1] at hy
        intro k hk
        obtain ⟨m, z, a, b, c, d⟩ := hs.gd j y hj hy k hk
        exact ⟨m, z, a, b, by rw [List.getElem?_append_left (by omega)]; exact c, d⟩
      · rw [List.getElem?_append_right h1] at hy
        have hj0 : j = s1.st.length := by
          rcases Nat.lt_or_ge s1.st.length j with h2 | h2
          · rw [List.getElem?_eq_none (by simp; omega)] at hy; cases hy
          · omega
        subst hj0
        rw [Nat.sub_self] at hy
        cases hy
        intro k hk
        obtain ⟨m, z, a, b, c, d⟩ := ho k hk
        have hm := (List.getElem?_eq_some_iff.1 b).1
        exact ⟨m, z, a, hm, by rw [List.getElem?_append_left hm]; exact b, c, d⟩
    · have h1 := hs.cn k
      simp only [own_app, List.count_append, List.length_append, List.length_singleton]
      have h2 : own [({ x with f := fr, e := pe E s1 } : St)] = x.th ++ x.el := by simp [own]
      rw [h2]
      rw [List.count_append] at h1 ⊢
      by_cases hk : k = s1.st.length
      · subst hk
        rw [if_neg (by omega)] at h1
        rw [if_pos (by omega), List.count_cons_self, List.count_nil]
        omega
      · rw [List.count_cons_of_ne (by omega), List.count_nil]
        by_cases h3 : s.st.length ≤ k ∧ k < s1.st.length
        · rw [if_pos h3] at h1; rw [if_pos (by omega)]; omega
        · rw [if_neg h3] at h1; rw [if_neg (by omega)]; omega
    · rw [List.mem_singleton] at hk
      exact ⟨s1.st.length, { x with f := fr, e := pe E s1 }, hk, by simp, Int.le_refl _, Int.le_refl _⟩
end
structure SsL (E : Env) (N : Nat) (L : Lv) : Prop where
  stmts : ∀ d l s o t, L.stmts d l s = .ok o t → t.i ≤ N → ∀ s0 f, Ss s0 s l → Op s f (eI E (s.i - 1)) l → 1 ≤ s.i → f ≤ hI E (s.i - 1) → Ss s0 t o ∧ Op t f (eI E (t.i - 1)) o
  stmt : ∀ d s a t, L.stmt d s = .ok a t → t.i ≤ N → Ss s t [a] ∧ Op t (hI E s.i) (eI E (t.i - 1)) [a]
  branch : ∀ fr d s a t, L.branch fr d s = .ok a t → t.i ≤ N → 1 ≤ s.i → fr ≤ hI E (s.i - 1) → Ss s t [a] ∧ Op t fr (eI E (t.i - 1)) [a]
section
variable {E : Env} {N : Nat} {L : Lv}
theorem expr_ss (hX : SpX E N L) (hK : KsL L) {d : Int} {s t : PS} {a : Int} (h : L.expr d s = .ok a t) (ht : t.i ≤ N) : Ss s t [] := Ss.of (hX.expr _ _ _ _ h ht).1 (hK.expr d s _ rfl _ _ h)
theorem want_ss {w : List Int} {s t : PS} {x : Unit} (h : want E w s = .ok x t) : Ss s t [] := Ss.of ((Xs.refl s).same (want_ex h).1) (want_ex h).2.2
theorem knd_ss {k : Int} {s t : PS} {x : List Int} (h : knd E k s = .ok x t) : Ss s t [] := Ss.of ((Xs.refl s).same (knd_ex h).1) (knd_ex h).2.2
theorem adv_ss (s : PS) : Ss s (adv s) [] := Ss.of ((Xs.refl s).same rfl) rfl
theorem want_le (M : Mono E N) {w : List Int} (hw : w ≠ []) {s t : PS} {x : Unit} (h : want E w s = .ok x t) : t.i ≤ N ∧ t.i = s.i + 1 := by
  have h1 := want_lt M.W hw h
  have h2 := (want_ex h).2.1
  omega
theorem block_ss (M : Mono E N) (hB : Bd L) (hL : SsL E N L) {d : Int} {s t : PS} {o : List Int} (h : block E L d s = .ok o t) (ht : t.i ≤ N) : s.i < N ∧ Ss s t o ∧ Op t (hI E s.i) (eI E (t.i - 1)) o := by
  obtain ⟨_, s1, h1, h2⟩ := bind_inv h
  have e : s1 = s := by
    split at h1
    · exact deep_up h1
    · cases h1; rfl
  subst e
  obtain ⟨_, s2, h3, h4⟩ := bind_inv h2
  have h5 := (want_ex h3).2.1
  have h6 := want_lt M.W (by decide) h3
  obtain ⟨k, r⟩ := hL.stmts _ _ _ _ _ h4 ht s1 (hI E s1.i) (want_ss h3) (fun k hk => by cases hk) (by omega) (by rw [h5]; exact Int.le_refl _)
  exact ⟨h6, k, r⟩
theorem decl_ss (hB : Bd L) (hX : SpX E N L) (hK : KsL L) {d : Int} {s t : PS} {x : St} (h : sDecl E L d s = .ok x t) (ht : t.i ≤ N) : Ss s t [] ∧ x.th ++ x.el = [] := by
  obtain ⟨_, s1, h1, h2⟩ := bind_inv h
  have k1 := knd_ss h1
  split at h2
  · obtain ⟨_, s2, h3, h4⟩ := bind_inv h2
    obtain ⟨_, s3, h5, h6⟩ := bind_inv h4
    cases h6
    exact ⟨k1.nil ((adv_ss s1).nil ((knd_ss h3).nil (want_ss h5))), rfl⟩
  · obtain ⟨_, s2, h3, h4⟩ := bind_inv h2
    obtain ⟨_, s3, h5, h6⟩ := bind_inv h4
    cases h6
    exact ⟨k1.nil ((want_ss h3).nil (expr_ss hX hK h5 ht)), rfl⟩
theorem named_ss (M : Mono E N) (hB : Bd L) (hX : SpX E N L) (hK : KsL L) {d : Int} {s t : PS} {x : St} (h : sNamed E L d s = .ok x t) (ht : t.i ≤ N) : Ss s t [] ∧ x.th ++ x.el = [] := by
  obtain ⟨_, s1, h1, h2⟩ := bind_inv h
  have k1 := knd_ss h1
  split at h2
  · obtain ⟨a, s2, h3, h4⟩ := bind_inv h2
    cases h4
    have hs1 : s1.i < N := by
      obtain ⟨_, s2, e3, e4⟩ := bind_inv h3
      exact want_lt M.W (by decide) e3
    refine ⟨k1.nil (Ss.of (call_xs M hB hX h3 ht (M.hh s1.i (Nat.le_of_lt_succ (by have := (knd_ex h1).2.1; omega)) hs1)).1 ?_), rfl⟩
    obtain ⟨_, s2, e3, e4⟩ := bind_inv h3
    exact (hK.args _ _ _ _ _ _ rfl _ _ e4).trans (want_ex e3).2.2
  split at h2
  · obtain ⟨_, s2, h3, h4⟩ := bind_inv h2
    obtain ⟨_, s3, h5, h6⟩ := bind_inv h4
    obtain ⟨_, s4, h7, h8⟩ := bind_inv h6
    obtain ⟨_, s5, h9, h10⟩ := bind_inv h8
    cases h10
    have a := want_le M (by decide) h5
    exact ⟨k1.nil ((adv_ss s1).nil ((expr_ss hX hK h3 (by omega)).nil ((want_ss h5).nil ((want_ss h7).nil (expr_ss hX hK h9 ht))))), rfl⟩
  · obtain ⟨_, s2, h3, h4⟩ := bind_inv h2
    obtain ⟨_, s3, h5, h6⟩ := bind_inv h4
    cases h6
    exact ⟨k1.nil ((want_ss h3).nil (expr_ss hX hK h5 ht)), rfl⟩
theorem endS_ss (M : Mono E N) {fr : Int} {x : St} {s s1 t : PS} {a : Int} (h : endS E fr x s1 = .ok a t) (hs : s1.i ≤ N → Ss s s1 [] ∧ x.th ++ x.el = []) : Ss s t [a] ∧ Op t fr (eI E (t.i - 1)) [a] := by
  obtain ⟨_, s2, h1, h2⟩ := bind_inv h
  have h3 := want_le M (by decide) h1
  obtain ⟨h4, h5⟩ := hs (by omega)
  obtain ⟨k1, k2, k3⟩ := add_ss h2 (s := s) (by rw [h5]; exact h4.nil (want_ss h1)) (by rw [h5]; exact fun k hk => by cases hk)
  exact ⟨k1, by rw [k3]; exact k2⟩
theorem ss_step (M : Mono E N) (hB : Bd L) (hS : Fst N L) (hX : SpX E N L) (hK : KsL L) (hL : SsL E N L) : SsL E N (stepL E L) := by
  constructor
  · intro d l s o t h ht s0 f hs ho h1 hf
    have h : sStmts E L d l s = .ok o t := h
    unfold sStmts at h
    split at h
    · cases h
      have ua : (adv s).i = s.i + 1 := rfl
      refine ⟨hs.nil' (adv_ss s), ho.up ⟨[], by simp [adv]⟩ (Int.le_refl _) (M.ee (by omega) (by omega))⟩
    · obtain ⟨x, s1, e1, e2⟩ := bind_inv h
      have u1 := (hB.stmt _ _ _ _ e1).1
      have u2 := (hB.stmts _ _ _ _ _ e2).1
      have l1 := hS.stmt _ _ _ _ e1
      obtain ⟨k1, r1⟩ := hL.stmt _ _ _ _ e1 (by omega)
      have g1 := M.hh (i := s.i - 1) s.i (by omega) l1
      have g2 := M.hh (i := s.i - 1) (s1.i - 1) (by omega) (by omega)
      have g3 := M.ee (i := s.i - 1) (j := s1.i - 1) (by omega) (by omega)
      exact hL.stmts _ _ _ _ _ e2 ht s0 f (hs.trans k1) ((ho.up k1.pre (Int.le_refl _) g3).app (r1.up ⟨[], by simp⟩ (by omega) (Int.le_refl _))) (by omega) (by omega)
  · intro d s a t h ht
    have h : sStmt E L d s = .ok a t := h
    unfold sStmt at h
    have ua : (adv s).i = s.i + 1 := rfl
    split at h
    · obtain ⟨x, s1, e1, e2⟩ := bind_inv h
      exact endS_ss M e2 fun q => by
        obtain ⟨b, c⟩ := decl_ss hB hX hK e1 q
        exact ⟨(adv_ss s).nil b, c⟩
    split at h
    · have l1 := hS.branch _ _ _ _ _ h
      obtain ⟨k, r⟩ := hL.branch _ _ _ _ _ h ht (by omega) (Int.le_refl _)
      exact ⟨(adv_ss s).nil k, r⟩
    split at h
    · obtain ⟨b, s1, e1, e2⟩ := bind_inv h
      obtain ⟨th, s2, e3, e4⟩ := bind_inv e2
      have u1 := (hB.expr _ _ _ _ e1).1
      have u2 := (block_up hB e3).1
      have u3 : t.i = s2.i := by
        unfold add at e4; split at e4 <;> cases e4; rfl
      obtain ⟨l1, k1, r1⟩ := block_ss M hB hL e3 (by omega)
      have k0 := expr_ss hX hK e1 (by omega)
      have g1 := M.hh (i := s.i) s1.i (by omega) l1
      obtain ⟨k2, r2, k3⟩ := add_ss e4 (s := s) (by rw [List.append_nil]; exact (adv_ss s).nil (k0.nil k1)) (by rw [List.append_nil]; exact r1.up ⟨[], by simp⟩ g1 (Int.le_refl _))
      exact ⟨k2, by rw [k3]; exact r2⟩
    split at h
    · exact endS_ss M h fun q => ⟨adv_ss s, rfl⟩
    split at h
    · exact endS_ss M h fun q => ⟨adv_ss s, rfl⟩
    split at h
    · split at h
      · exact endS_ss M h fun q => ⟨adv_ss s, rfl⟩
      · obtain ⟨b, s1, e1, e2⟩ := bind_inv h
        exact endS_ss M e2 fun q => ⟨(adv_ss s).nil (expr_ss hX hK e1 q), rfl⟩
    split at h
    · obtain ⟨b, s1, e1, e2⟩ := bind_inv h
      exact endS_ss M e2 fun q => ⟨(adv_ss s).nil (expr_ss hX hK e1 q), rfl⟩
    · obtain ⟨x, s1, e1, e2⟩ := bind_inv h
      exact endS_ss M e2 fun q => named_ss M hB hX hK e1 q
  · intro fr d s a t h ht h1 hf
    obtain ⟨b, s1, e1, e2⟩ := bind_inv (show sBranch E L fr d s = .ok a t from h)
    obtain ⟨th, s2, e3, e4⟩ := bind_inv e2
    have u1 := (hB.expr _ _ _ _ e1).1
    have u2 := (block_up hB e3).1
    have addi : ∀ {x : St} {s3 : PS}, add E fr x s3 = .ok a t → t.i = s3.i := fun e => by unfold add at e; split at e <;> cases e; rfl
    have ua : (adv s2).i = s2.i + 1 := rfl
    have hle : s2.i ≤ t.i := by
      split at e4
      · split at e4
        · obtain ⟨_, s3, f1, f2⟩ := bind_inv e4
          have := deep_up f1
          subst this
          obtain ⟨x, s4, f3, f4⟩ := bind_inv f2
          have := (hB.branch _ _ _ _ _ f3).1
          have := addi f4
          have : (adv (adv s2)).i = s2.i + 2 := rfl
          omega
        · obtain ⟨el, s3, f1, f2⟩ := bind_inv e4
          have := (block_up hB f1).1
          have := addi f2
          omega
      · have := addi e4; omega
    obtain ⟨l1, k1, r1⟩ := block_ss M hB hL e3 (by omega)
    have k0 := expr_ss hX hK e1 (by omega)
    have g1 := M.hh (i := s.i - 1) s1.i (by omega) l1
    have k2 : Ss s s2 th := k0.nil k1
    have r2 : Op s2 fr (eI E (s2.i - 1)) th := r1.up ⟨[], by simp⟩ (by omega) (Int.le_refl _)
    split at e4
    · split at e4
      · obtain ⟨_, s3, f1, f2⟩ := bind_inv e4
        have := deep_up f1
        subst this
        obtain ⟨x, s4, f3, f4⟩ := bind_inv f2
        have w1 := (hB.branch _ _ _ _ _ f3).1
        have w2 := addi f4
        have w3 := hS.branch _ _ _ _ _ f3
        have ub : (adv (adv s2)).i = s2.i + 2 := rfl
        obtain ⟨k3, r3⟩ := hL.branch _ _ _ _ _ f3 (by omega) (by omega) (by rw [hr_I, ua, ub]; exact Int.le_refl _)
        have k4 : Ss s2 s4 [x] := (adv_ss s2).nil ((adv_ss _).nil k3)
        have g2 := M.hh (i := s.i - 1) (s2.i + 1) (by omega) (by omega)
        have g3 := M.ee (i := s2.i - 1) (j := s4.i - 1) (by omega) (by omega)
        obtain ⟨k5, r5, k6⟩ := add_ss f4 (s := s) (k2.trans k4) ((r2.up k4.pre (Int.le_refl _) g3).app (r3.up ⟨[], by simp⟩ (by rw [hr_I, ua]; omega) (Int.le_refl _)))
        exact ⟨k5, by rw [k6]; exact r5⟩
      · obtain ⟨el, s3, f1, f2⟩ := bind_inv e4
        have w1 := (block_up hB f1).1
        have w2 := addi f2
        obtain ⟨l3, k3, r3⟩ := block_ss M hB hL f1 (by omega)
        have k4 : Ss s2 s3 el := (adv_ss s2).nil k3
        have g2 := M.hh (i := s.i - 1) (s2.i + 1) (by omega) (by omega)
        have g3 := M.ee (i := s2.i - 1) (j := s3.i - 1) (by omega) (by omega)
        obtain ⟨k5, r5, k6⟩ := add_ss f2 (s := s) (k2.trans k4) ((r2.up k4.pre (Int.le_refl _) g3).app (r3.up ⟨[], by simp⟩ (by rw [ua]; omega) (Int.le_refl _)))
        exact ⟨k5, by rw [k6]; exact r5⟩
    · obtain ⟨k5, r5, k6⟩ := add_ss e4 (s := s) (by rw [List.append_nil]; exact k2) (by rw [List.append_nil]; exact r2)
      exact ⟨k5, by rw [k6]; exact r5⟩
theorem ss_lv (M : Mono E N) : ∀ n, SsL E N (lv E n)
  | 0 => ⟨fun _ _ _ _ _ h => (by cases h), fun _ _ _ _ h => (by cases h), fun _ _ _ _ _ h => (by cases h)⟩
  | n + 1 => ss_step M (bd_lv n) (fst_lv M.W M.T n) (spx_lv M n) (ks_lv n) (ss_lv M n)
end
/-- A program: parts are ahead, within; each statement is in one list. -/
structure Whole (s : PS) : Prop where
  ex : ∀ j x, s.ex[j]? = some x → GdE s.ex j x
  st : ∀ j x, s.st[j]? = some x → GdS s.st j x
  cn : ∀ k : Nat, (own s.st).count (k : Int) + (s.fn.flatMap Fn.bd).count (k : Int) = if k < s.st.length then 1 else 0
  fn : ∀ f ∈ s.fn, Op s f.f f.e f.bd
section
variable {E : Env} {N : Nat}
theorem prms_ex : ∀ n l s x t, prms E n l s = .ok x t → t.ex = s.ex ∧ t.st = s.st := by
  intro n
  induction n with
  | zero => intro l s x t h; cases h
  | succ n ih =>
    intro l s x t h
    unfold prms at h
    split at h
    · cases h; exact ⟨rfl, rfl⟩
    · obtain ⟨_, s1, h1, h2⟩ := bind_inv h
      obtain ⟨_, s2, h3, h4⟩ := bind_inv h2
      have e1 : s1.ex = s.ex ∧ s1.st = s.st := by
        split at h1
        · cases h1; exact ⟨rfl, rfl⟩
        · exact ⟨(want_ex h1).1, (want_ex h1).2.2⟩
      have e2 := knd_ex h3
      split at h4
      · obtain ⟨a, b⟩ := ih _ _ _ _ h4
        exact ⟨a.trans (e2.1.trans e1.1), b.trans (e2.2.2.trans e1.2)⟩
      · cases h4
theorem fct_whole (M : Mono E N) {n : Nat} {s t : PS} {x : Unit} (e : fct E n s = .ok x t) (ht : t.i ≤ N) (h : Whole s) : Whole t := by
  have hup := fct_st e
  obtain ⟨hl, nm, s2, s3, ps, s4, ty, s5, bd, s6, h2, h3, h4, h5, q, h6, rfl⟩ := fct_inv e
  have k2 := (adv_ss s).nil (knd_ss h2)
  have k3 := k2.nil (want_ss h3)
  obtain ⟨a4, b4⟩ := prms_ex _ _ _ _ _ h4
  have k4 := k3.nil (Ss.of ((Xs.refl s3).same a4) b4)
  have k5 : Ss s4 s5 [] := by
    rcases h5 with ⟨_, _, rfl⟩ | ⟨_, _, rfl⟩
    · exact adv_ss _
    · exact Ss.of (Xs.refl _) rfl
  have u3 := (want_up h3).1
  have u2 := (knd_up h2).1
  have u4 := (prms_up _ _ _ _ _ h4).1
  have ua : (adv s).i = s.i + 1 := rfl
  have u5 : s4.i ≤ s5.i := by
    rcases h5 with ⟨_, _, rfl⟩ | ⟨_, _, rfl⟩
    · show s4.i ≤ s4.i + 1; omega
    · exact Nat.le_refl _
  obtain ⟨l6, k6, r6⟩ := block_ss M (bd_lv n) (ss_lv M n) h6 ht
  have hfn : s6.fn = s.fn := by
    have v5 : s5.fn = s4.fn := by
      rcases h5 with ⟨_, _, rfl⟩ | ⟨_, _, rfl⟩ <;> rfl
    have v6 := (block_up (bd_lv n) h6).2.2.1
    have v4 := (prms_up _ _ _ _ _ h4).2.2.1
    have v3 := (want_up h3).2.2.1
    have v2 := (knd_up h2).2.2.1
    rw [v6, v5, v4, v3, v2]
    rfl
  have k : Ss s s6 bd := (k4.nil k5).nil k6
  refine ⟨fun j x hx => ?_, fun j x hx => ?_, fun m => ?_, fun f hf => ?_⟩
  · have hx : s6.ex[j]? = some x := hx
    show GdE s6.ex j x
    rcases Nat.lt_or_ge j s.ex.length with h1 | h1
    · obtain ⟨y, hy⟩ : ∃ y, s.ex[j]? = some y := ⟨_, List.getElem?_eq_getElem h1⟩
      have := pre_get k.xs.pre hy
      rw [this] at hx
      cases hx
      exact (h.ex j _ hy).mono (fun m y _ hm => pre_get k.xs.pre hm) (Nat.le_refl _) (Int.le_refl _)
    · exact k.xs.gd j x h1 hx
  · have hx : s6.st[j]? = some x := hx
    show GdS s6.st j x
    rcases Nat.lt_or_ge j s.st.length with h1 | h1
    · obtain ⟨y, hy⟩ : ∃ y, s.st[j]? = some y := ⟨_, List.getElem?_eq_getElem h1⟩
      have := pre_st k.pre hy
      rw [this] at hx
      cases hx
      intro i hi
      obtain ⟨m, z, a, b, c, d⟩ := h.st j _ hy i hi
      exact ⟨m, z, a, b, pre_st k.pre c, d⟩
    · exact k.gd j x h1 hx
  · have c1 := k.cn m
    have c2 := h.cn m
    have c3 := pre_le k.pre
    simp only [hfn, List.flatMap_append, List.count_append, List.flatMap_cons, List.flatMap_nil, List.append_nil]
    by_cases hm : m < s.st.length
    · rw [if_pos hm] at c2
      rw [if_neg (by omega)] at c1
      rw [if_pos (by omega)]
      omega
    · rw [if_neg hm] at c2
      by_cases hm' : m < s6.st.length
      · rw [if_pos (by omega)] at c1; rw [if_pos hm']; omega
      · rw [if_neg (by omega)] at c1; rw [if_neg hm']; omega
  · simp only [hfn] at hf
    rcases List.mem_append.1 hf with hf | hf
    · have := h.fn f hf
      exact Op.up this k.pre (Int.le_refl _) (Int.le_refl _)
    · rw [List.mem_singleton] at hf
      subst hf
      exact Op.up (t := { s6 with fn := s6.fn ++ [{ nm := nm, f := hr E s, e := pe E s6, ps := ps, ty := ty, bd := bd }] }) r6 ⟨[], by simp⟩ (M.hh (i := s.i) s5.i (by omega) l6) (Int.le_refl _)
theorem fcts_whole (M : Mono E N) {m : Nat} : ∀ n s x t, fcts E m n s = .ok x t → t.i ≤ N → Whole s → Whole t := by
  intro n
  induction n with
  | zero => intro s x t h; cases h
  | succ n ih =>
    intro s x t h ht hs
    unfold fcts at h
    split at h
    · cases h; exact hs
    · obtain ⟨_, s1, h1, h2⟩ := bind_inv h
      have := fcts_st _ _ _ _ h2
      exact ih _ _ _ h2 ht (fct_whole M h1 (by omega) hs)
end
theorem prs_whole {L : List Int} {S : PS} (h : prs L = .ok () S) : Whole S := by
  obtain ⟨ht, _, hf⟩ := txt_of h
  have he := (prs_end h).1
  refine fcts_whole (mono_env ht) _ _ _ _ hf (by have : (envOf L).T.length = (Tk.allT L).1.length := rfl; omega) ⟨fun j x hx => by simp at hx, fun j x hx => by simp at hx, fun k => by simp [own], fun f hf => by simp at hf⟩
end Go.Proofs.Ytkllhfajldnpoaa.Sy
namespace Go.Proofs.Ytkllhfajldnpoaa.Fw
open Go Go.RowKit
section
variable {P : Program} {ρ : Operand → Value} {w : World} {dst : Option Nat} {ty : TypeId} {pos : String} {af : Array Edge} {g : Option (Nat × Bool)} {v : Value}
/-- A whole box is read. -/
theorem r_ldw {t : TypeId} {x : Operand} {b : Nat} {cs : List Value} {T : TypeId} {fz : Nat × Nat} (hx : ρ x = .pointer (some ⟨b, 0, none⟩)) (hb : w.heap[b]? = some (.cells cs.toArray T fz)) (ht : aggT P t = some true) (hn : szT P t = some cs.length) :
    Rn P ρ ⟨dst, .load t x, ty, pos, af, g⟩ w (.ok (.value (.agg cs.toArray)) w) := r_ldb (vs := cs) hx ht hn hb (by rw [List.drop_zero, List.take_length]) rfl
end
section
variable {P : Program} {w : World} {ops : Array Oper} {os rest : List Oper} {q : Pst P} {n : Nat} {l : Slots} {ds : List Deferred} {d : Nat} {ty : TypeId} {pos : String} {af : Array Edge}
theorem Zl {t : TypeId} {x : Operand} {b : Nat} {cs : List Value} {T : TypeId} {fz : Nat × Nat} (h : Wl P ops q rest n ((d, .agg cs.toArray) :: l) ds w) (hx : ev n l x = .pointer (some ⟨b, 0, none⟩) := by rfl) (hb : w.heap[b]? = some (.cells cs.toArray T fz) := by assumption) (ht : aggT P t = some true := by rfl) (hn : szT P t = some cs.length := by rfl) :
    Wl P ops q (⟨some d, .load t x, ty, pos, af, none⟩ :: rest) n l ds w := s_v (r_ldw hx hb ht hn) h
theorem Zgl {t : TypeId} {x : Operand} {b j : Nat} {bo : Bool} {cs : List Value} {T : TypeId} {fz : Nat × Nat} (h : Wl P os.toArray q rest n ((d, .agg cs.toArray) :: l) ds w) (hy : ylk os n l j = some (.bool bo) := by rfl) (hx : ev n l x = .pointer (some ⟨b, 0, none⟩) := by rfl) (hb : w.heap[b]? = some (.cells cs.toArray T fz) := by assumption) (ht : aggT P t = some true := by rfl) (hn : szT P t = some cs.length := by rfl) :
    Wl P os.toArray q (⟨some d, .load t x, ty, pos, af, some (j, bo)⟩ :: rest) n l ds w := s_gv hy (r_ldw hx hb ht hn) h
theorem setAt_all {cs vs : List Value} (h : cs.length = vs.length) : setAt cs 0 vs = vs := by
  rw [setAt_eq _ _ _ (by omega)]; simp [h]
/-- A whole box is stored into. -/
theorem s_stw {t : TypeId} {x y : Operand} {b : Nat} {cs vs : List Value} {T : TypeId} (hx : ev n l x = .pointer (some ⟨b, 0, none⟩)) (hy : mvv (ev n l y) = some (.agg vs.toArray)) (hv : cellsL (.agg vs.toArray) = vs) (hs : szT P t = some vs.length) (h1 : vs.all Value.oneCell' = true)
    (hb : w.heap[b]? = some (.cells cs.toArray T (0, 0))) (hl : cs.length = vs.length) (h : ∀ w1, Sb w b vs T w1 → Wl P ops q rest n l ds w1) :
    Wl P ops q (⟨none, .store t x y, ty, pos, af, none⟩ :: rest) n l ds w :=
  s_st hx hy hv hs h1 hb (by omega) fun w1 s => h w1 (by rw [setAt_all hl] at s; exact s)
/-- As Zr, and loads of boxes. -/
theorem Zlr {p q : Prop} (x : p) (h : p → q := by first | exact k_nil | exact k_n | exact k_r | exact k_x | exact b_n | exact b_r | exact b_y rfl | exact b_z rfl | exact l_r | exact l_x | exact k_seq | exact k_blk | exact k_reg | exact k_ret | exact k_exit | exact k_skip | exact fun h => Zs h | exact fun h => Zl h) : q := h x
end
end Go.Proofs.Ytkllhfajldnpoaa.Fw
namespace Go.Proofs.Ytkllhfajldnpoaa.Rf
open Go Go.RowKit Fw Sy
set_option linter.unusedVariables false
set_option maxRecDepth 20000
/-- A slice's parts. -/
structure Sl where
  a : Option Addr
  n : Nat
  c : Nat
abbrev Sl.v (x : Sl) : Value := .slice x.a x.n x.c
/-- A text, and where its tokens lie. -/
structure Cr where
  t : ByteArray
  g : Nat
  c : Nat
abbrev Cr.T (X : Cr) : List Tk.T3 := (Tk.allT (B X.t)).1
abbrev Cr.E (X : Cr) : Env := envOf (B X.t)
/-- A parser's state: what was taken and put, where that lies, the error, its place. -/
structure Q where
  s : PS
  x : Sl
  y : Sl
  z : Sl
  c : Int
  p : Int
  o : Nat → Prop
abbrev Q.V (q : Q) : VS := ⟨q.x.v, q.y.v, q.z.v, q.o⟩
def qc (X : Cr) (q : Q) : List Value := [.string X.t, .slice (some ⟨X.g, 0, none⟩) X.T.length X.c, .int .i64 (q.s.i : Int), .slice q.x.a q.x.n q.x.c, .slice q.y.a q.y.n q.y.c, .slice q.z.a q.z.n q.z.c, .int .i64 q.c, .int .i64 q.p]
abbrev qv (X : Cr) (q : Q) : Value := .agg (qc X q).toArray
/-- What may change. -/
def Sx (q : Q) (b : Nat) : Prop := q.c = 0 ∧ (q.x.v.ownBlock = some b ∨ q.y.v.ownBlock = some b ∨ q.z.v.ownBlock = some b)
/-- Where nothing is wrong, what was put is there. -/
structure Gd (w : World) (q : Q) : Prop where
  xs : RX w q.V q.s.ex
  ss : RS w q.V q.s.st
  fs : RF w q.V q.s.fn
  xl : q.s.ex.length ≤ q.s.i
  sl : q.s.st.length ≤ 1000
  fl : q.s.fn.length ≤ 32
  ob : ∀ b, q.o b → b < w.heap.size
structure Aq (X : Cr) (w : World) (q : Q) : Prop where
  h0 : (Tk.allT (B X.t)).2.2 = 0
  tk : w.ownsRow 0 101 3 (.slice (some ⟨X.g, 0, none⟩) X.T.length X.c) X.T.length (Tk.tc X.T)
  lt : q.s.i < X.T.length
  gd : q.c = 0 → Gd w q
structure Gs (w : World) (q : Q) (w' : World) (q' : Q) : Prop where
  kp : Kp (Sx q) w w'
  fr : ∀ b, b < w.heap.size → Sx q' b → Sx q b
  fo : ∀ b, b < w.heap.size → q'.c = 0 → q'.o b → q.c = 0 ∧ q.o b
theorem Gs.refl (w : World) (q : Q) : Gs w q w q := ⟨Kp.refl _ _, fun _ _ h => h, fun _ _ h h' => ⟨h, h'⟩⟩
theorem Gs.trans {w w1 w2 : World} {q q1 q2 : Q} (h : Gs w q w1 q1) (k : Gs w1 q1 w2 q2) : Gs w q w2 q2 :=
  ⟨h.kp.trans k.kp fun i hi hs => h.fr i hi hs, fun b hb hs => h.fr b hb (k.fr b (Nat.lt_of_lt_of_le hb h.kp.size) hs), fun b hb hc hs => by
    obtain ⟨h1, h2⟩ := k.fo b (Nat.lt_of_lt_of_le hb h.kp.size) hc hs
    exact h.fo b hb h1 h2⟩
theorem Gs.no {w w1 w2 : World} {q q1 : Q} (h : Gs w q w1 q1) (k : Kp No w1 w2) : Gs w q w2 q1 := ⟨h.kp.no k, h.fr, h.fo⟩
theorem Gs.own {w w1 w2 : World} {q q1 : Q} {b : Nat} (h : Gs w q w1 q1) (k : Kp (fun i => i = b) w1 w2) (hb : w.heap.size ≤ b) : Gs w q w2 q1 :=
  ⟨h.kp.trans k fun i hi e => (by omega), h.fr, h.fo⟩
/-- Types that the parser's own memory hasn't. -/
def okT (e : TypeId) : Bool := !(Nat.beq e 146 || Nat.beq e 86 || Nat.beq e 46)
theorem Aq.nsx {X : Cr} {w : World} {q : Q} (h : Aq X w q) {g : Nat} {cur : Array Value} {e : TypeId} {fz : Nat × Nat} (hg : w.heap[g]? = some (.cells cur e fz)) (he : okT e = true) : ¬ Sx q g := by
  simp only [okT, Bool.not_eq_true', Bool.or_eq_false_iff] at he
  obtain ⟨⟨h2, h3⟩, h4⟩ := he
  rintro ⟨hc, hs⟩
  have G := h.gd hc
  rcases hs with hs | hs | hs
  · obtain ⟨rx, _, ho, _⟩ := G.xs
    obtain ⟨c, hc⟩ := own_ty ho hs
    exact ty_ne hg hc h2 rfl
  · obtain ⟨rx, _, ho, _⟩ := G.ss
    obtain ⟨c, hc⟩ := own_ty ho hs
    exact ty_ne hg hc h3 rfl
  · obtain ⟨rx, _, ho, _⟩ := G.fs
    obtain ⟨c, hc⟩ := own_ty ho hs
    exact ty_ne hg hc h4 rfl
theorem own_gs {X : Cr} {w w' : World} {q : Q} (hA : Aq X w q) (k : Kp (Sx q) w w') {base : Nat} {e : TypeId} {size : Nat} {v : Value} {n : Nat} {cs : List Value} (h : w.ownsRow base e size v n cs) (he : okT e = true) : w'.ownsRow base e size v n cs :=
  own_kp h k fun g hg => by
    obtain ⟨c, hc⟩ := own_ty h hg
    exact hA.nsx hc he
/-- What was put is kept where nothing of it changes. -/
theorem Gd.kp {w w' : World} {q : Q} {S : Nat → Prop} (h : Gd w q) (k : Kp S w w') (h1 : ∀ b, (q.x.v.ownBlock = some b ∨ q.y.v.ownBlock = some b ∨ q.z.v.ownBlock = some b) → ¬ S b)
    (h2 : ∀ (g : Nat) (cur : Array Value) (e : TypeId) (fz : Nat × Nat), q.o g → w.heap[g]? = some (.cells cur e fz) → (e = 3 ∨ e = 9) → ¬ S g) : Gd w' q := by
  have hi : ∀ {v l}, LI w v l → Ow q.V v → LI w' v l := fun hv ho => own_kp hv k fun g hg => by
    obtain ⟨c, hc⟩ := own_ty hv hg
    exact h2 g c _ _ (ho g hg) hc (.inl rfl)
  have ht : ∀ {v l}, LS w v l → Ow q.V v → LS w' v l := fun hv ho => own_kp hv k fun g hg => by
    obtain ⟨c, hc⟩ := own_ty hv hg
    exact h2 g c _ _ (ho g hg) hc (.inr rfl)
  obtain ⟨rx, e1, o1, l1⟩ := h.xs
  obtain ⟨ry, e2, o2, l2⟩ := h.ss
  obtain ⟨rz, e3, o3, l3⟩ := h.fs
  exact ⟨⟨rx, e1, own_kp o1 k fun g hg => h1 g (.inl hg), fun r hr => ⟨hi (l1 r hr).1 (l1 r hr).2, (l1 r hr).2⟩⟩,
    ⟨ry, e2, own_kp o2 k fun g hg => h1 g (.inr (.inl hg)), fun r hr => ⟨⟨hi (l2 r hr).1.1 (l2 r hr).1.2, (l2 r hr).1.2⟩, hi (l2 r hr).2.1 (l2 r hr).2.2, (l2 r hr).2.2⟩⟩,
    ⟨rz, e3, own_kp o3 k fun g hg => h1 g (.inr (.inr hg)), fun r hr => ⟨⟨ht (l3 r hr).1.1 (l3 r hr).1.2, (l3 r hr).1.2⟩, hi (l3 r hr).2.1 (l3 r hr).2.2, (l3 r hr).2.2⟩⟩, h.xl, h.sl, h.fl, fun b hb => Nat.lt_of_lt_of_le (h.ob b hb) k.size⟩
theorem Aq.no {X : Cr} {w w' : World} {q : Q} (h : Aq X w q) (k : Kp No w w') : Aq X w' q := ⟨h.h0, own_kp h.tk k fun _ _ h => h, h.lt, fun hc => (h.gd hc).kp k (fun _ _ h => h) fun _ _ _ _ _ _ _ h => h⟩
/-- A store into a box of another kind. -/
theorem Aq.box {X : Cr} {w w' : World} {q : Q} {b : Nat} {cs : Array Value} {T : TypeId} (h : Aq X w q) (k : Kp (fun i => i = b) w w') (hb : w.heap[b]? = some (.cells cs T (0, 0))) (hs : ¬ Sx q b)
    (hT : (Nat.beq 3 T || Nat.beq 9 T || Nat.beq 101 T) = false) : Aq X w' q := by
  simp only [Bool.or_eq_false_iff] at hT
  obtain ⟨⟨h1, h2⟩, h3⟩ := hT
  refine ⟨h.h0, own_kp h.tk k fun g hg e => ?_, h.lt, fun hc => (h.gd hc).kp k (fun g hg e => hs ⟨hc, e ▸ hg⟩) fun g cur e fz _ hg he e' => ?_⟩
  · obtain ⟨c, hc⟩ := own_ty h.tk hg
    subst e
    exact ty_ne hc hb h3 rfl
  · subst e'
    rcases he with rfl | rfl
    · exact ty_ne hg hb h1 rfl
    · exact ty_ne hg hb h2 rfl
/-- The state, and what changed since the call began. -/
structure Sg (X : Cr) (w0 : World) (q0 : Q) (w : World) (q : Q) : Prop where
  at_ : Aq X w q
  gs : Gs w0 q0 w q
theorem Sg.start {X : Cr} {w : World} {q : Q} (h : Aq X w q) : Sg X w q w q := ⟨h, Gs.refl _ _⟩
theorem Sg.no {X : Cr} {w0 w w' : World} {q0 q : Q} (h : Sg X w0 q0 w q) (k : Kp No w w') : Sg X w0 q0 w' q := ⟨h.at_.no k, h.gs.no k⟩
theorem Sg.call {X : Cr} {w0 w w' : World} {q0 q q' : Q} (h : Sg X w0 q0 w q) (k : Sg X w q w' q') : Sg X w0 q0 w' q' := ⟨k.at_, h.gs.trans k.gs⟩
/-- The state, and boxes of our own. -/
structure Wb (X : Cr) (w0 : World) (q0 : Q) (w : World) (q : Q) (l : List (Nat × List Value × TypeId)) : Prop where
  sg : Sg X w0 q0 w q
  bx : ∀ (i b : Nat) (cs : List Value) (T : TypeId), l[i]? = some (b, cs, T) → w0.heap.size ≤ b ∧ w.heap[b]? = some (.cells cs.toArray T (0, 0)) ∧ ¬ Sx q b
  nd : ∀ (i j b : Nat) (cs cs' : List Value) (T T' : TypeId), l[i]? = some (b, cs, T) → l[j]? = some (b, cs', T') → i = j
section
variable {X : Cr} {w0 w w' : World} {q0 q q' : Q} {l : List (Nat × List Value × TypeId)}
theorem Wb.start (h : Aq X w q) : Wb X w q w q [] := ⟨Sg.start h, fun i b cs T h => by simp at h, fun i j b cs cs' T T' h => by simp at h⟩
theorem Wb.at_ (h : Wb X w0 q0 w q l) : Aq X w q := h.sg.at_
theorem Wb.blk (h : Wb X w0 q0 w q l) (i : Nat) {b : Nat} {cs : List Value} {T : TypeId} (hi : l[i]? = some (b, cs, T)) : w.heap[b]? = some (.cells cs.toArray T (0, 0)) := (h.bx i b cs T hi).2.1
theorem Wb.no (h : Wb X w0 q0 w q l) (k : Kp No w w') : Wb X w0 q0 w' q l := ⟨h.sg.no k, fun i b cs T hi => ⟨(h.bx i b cs T hi).1, k.get0 (h.bx i b cs T hi).2.1, (h.bx i b cs T hi).2.2⟩, h.nd⟩
theorem Sx.lt (h : Aq X w q) {b : Nat} (hs : Sx q b) : b < w.heap.size := by
  obtain ⟨hc, hs⟩ := hs
  have G := h.gd hc
  rcases hs with hs | hs | hs
  · obtain ⟨rx, _, ho, _⟩ := G.xs
    obtain ⟨c, hc⟩ := own_ty ho hs
    exact lt_of_get hc
  · obtain ⟨rx, _, ho, _⟩ := G.ss
    obtain ⟨c, hc⟩ := own_ty ho hs
    exact lt_of_get hc
  · obtain ⟨rx, _, ho, _⟩ := G.fs
    obtain ⟨c, hc⟩ := own_ty ho hs
    exact lt_of_get hc
theorem Wb.new (h : Wb X w0 q0 w q l) {b : Nat} {cs : List Value} {T : TypeId} (n : Nb w b cs T w') : Wb X w0 q0 w' q ((b, cs, T) :: l) := by
  have h' := h.no n.kp
  have hz := h.sg.gs.kp.size
  have old : ∀ {i b' : Nat} {cs' : List Value} {T' : TypeId}, l[i]? = some (b', cs', T') → b' ≠ b := fun hi e => by
    have := lt_of_get (h.bx _ _ _ _ hi).2.1
    have := n.ge
    omega
  refine ⟨h'.sg, fun i b' cs' T' hi => ?_, fun i j b' cs1 cs2 T1 T2 hi hj => ?_⟩
  · cases i with
    | zero =>
      simp at hi
      obtain ⟨rfl, rfl, rfl⟩ := hi
      exact ⟨Nat.le_trans hz n.ge, n.blk, fun hs => by have := Sx.lt h.at_ hs; have := n.ge; omega⟩
    | succ i => exact h'.bx i b' cs' T' (by simpa using hi)
  · cases i with
    | zero =>
      cases j with
      | zero => rfl
      | succ j =>
        simp at hi hj
        exact (old hj hi.1.symm).elim
    | succ i =>
      cases j with
      | zero => simp at hi hj; exact (old hi hj.1.symm).elim
      | succ j => rw [h.nd i j b' cs1 cs2 T1 T2 (by simpa using hi) (by simpa using hj)]
/-- A call that goes on with the state. -/
theorem Wb.call (h : Wb X w0 q0 w q l) (k : Sg X w q w' q') : Wb X w0 q0 w' q' l :=
  ⟨h.sg.call k, fun i b cs T hi => ⟨(h.bx i b cs T hi).1, k.gs.kp.get (h.bx i b cs T hi).2.1 (h.bx i b cs T hi).2.2, fun hs => (h.bx i b cs T hi).2.2 (k.gs.fr b (lt_of_get (h.bx i b cs T hi).2.1) hs)⟩, h.nd⟩
/-- A store into a box. -/
theorem Wb.put (h : Wb X w0 q0 w q l) (i : Nat) {b : Nat} {cs cs' : List Value} {T : TypeId} (hi : l[i]? = some (b, cs, T)) (k : Sb w b cs' T w') (hT : (Nat.beq 3 T || Nat.beq 9 T || Nat.beq 101 T) = false) : Wb X w0 q0 w' q (l.set i (b, cs', T)) := by
  obtain ⟨h1, h2, h3⟩ := h.bx i b cs T hi
  have hl : i < l.length := by
    rcases Nat.lt_or_ge i l.length with h | h
    · exact h
    · rw [List.getElem?_eq_none h] at hi; cases hi
  have at' : ∀ {j b' cs1 T1}, (l.set i (b, cs', T))[j]? = some (b', cs1, T1) → ∃ cs2, l[j]? = some (b', cs2, T1) := fun {j b' cs1 T1} hj => by
    rw [List.getElem?_set] at hj
    split at hj
    · rename_i e
      subst e
      cases hj
      exact ⟨cs, hi⟩
    · exact ⟨cs1, hj⟩
  refine ⟨⟨h.at_.box k.kp h2 h3 hT, h.sg.gs.own k.kp h1⟩, fun j b' cs1 T1 hj => ?_, fun j1 j2 b' cs1 cs2 T1 T2 hj1 hj2 => ?_⟩
  · rw [List.getElem?_set] at hj
    split at hj
    · cases hj
      exact ⟨h1, k.blk, h3⟩
    · rename_i hne
      obtain ⟨k1, k2, k3⟩ := h.bx j b' cs1 T1 hj
      exact ⟨k1, k.kp.get k2 fun e => hne (by subst e; exact h.nd _ _ _ _ _ _ _ hi hj), k3⟩
  · obtain ⟨_, e1⟩ := at' hj1
    obtain ⟨_, e2⟩ := at' hj2
    exact h.nd _ _ _ _ _ _ _ e1 e2
end
def stt (q : Q) : Rs Unit := if q.c = 0 then .ok () q.s else .er q.c q.p
def failQ (X : Cr) (k : Int) (q : Q) : Q := if q.c = 0 then { q with c := k, p := hr X.E q.s } else q
def isQ (X : Cr) (y : List Int) (q : Q) : Bool := decide (q.c = 0 ∧ wd X.E q.s = y)
def wantQ (X : Cr) (y : List Int) (q : Q) : Q := if q.c = 0 ∧ wd X.E q.s = y then { q with s := adv q.s } else failQ X 3 q
def kindQ (X : Cr) (k : Int) (q : Q) : Q := if q.c = 0 ∧ kd X.E q.s = k then { q with s := adv q.s } else failQ X 3 q
def kindW (X : Cr) (k : Int) (q : Q) : List Int := if q.c = 0 ∧ kd X.E q.s = k then wd X.E q.s else []
def deepQ (X : Cr) (d : Int) (q : Q) : Q := if 64 < d then failQ X 4 q else q
/-- What a state tells: it goes on, or something is wrong. -/
def Res {α : Type} (r : Rs α) (q : Q) (a : α) : Prop :=
  match r with
  | .ok x s => q.c = 0 ∧ q.s = s ∧ x = a
  | .er _ _ => q.c ≠ 0
  | .out => False
section
variable {X : Cr} {w0 w w' : World} {q0 q q' : Q} {l : List (Nat × List Value × TypeId)}
theorem failQ_c {k : Int} (hk : k ≠ 0) : (failQ X k q).c ≠ 0 := by
  unfold failQ; split
  · exact hk
  · assumption
theorem failQ_s {k : Int} : (failQ X k q).s = q.s := by unfold failQ; split <;> rfl
theorem failQ_er {k : Int} (h : q.c ≠ 0) : failQ X k q = q := if_neg h
/-- A state that fails, or goes on, changes no memory. -/
theorem Aq.to (h : Aq X w q) (hs : q'.s.i < X.T.length) (hg : q'.c = 0 → Gd w q') : Aq X w q' := ⟨h.h0, h.tk, hs, hg⟩
theorem Sg.fail (h : Aq X w q) {k : Int} (hk : k ≠ 0) : Sg X w q w (failQ X k q) :=
  ⟨h.to (by rw [failQ_s]; exact h.lt) fun hc => (failQ_c hk hc).elim, Kp.refl _ _, fun b _ hs => (failQ_c hk hs.1).elim, fun b _ hc _ => (failQ_c hk hc).elim⟩
theorem tok_lt (h : Aq X w q) (hne : wd X.E q.s ≠ [] ∨ kd X.E q.s ≠ 0) : q.s.i + 1 < X.T.length := by
  have hl := h.lt
  rcases Nat.lt_or_ge (q.s.i + 1) X.T.length with h1 | h1
  · exact h1
  · have h2 : q.s.i + 1 = X.T.length := by omega
    have ht : X.T[q.s.i]? = some X.T[q.s.i] := List.getElem?_eq_getElem hl
    have ok := tok_of h.h0
    rcases hne with hne | hne
    · refine (hne ?_).elim
      have := ok.lastw _ _ ht h2
      unfold tkw at this
      simp only [wd, envOf, List.getElem?_map, ht]
      exact this
    · refine (hne ?_).elim
      have := ok.last _ _ ht h2
      simp only [kd, envOf, ht]
      exact this
theorem Sg.adv (h : Aq X w q) (hne : wd X.E q.s ≠ [] ∨ kd X.E q.s ≠ 0) : Sg X w q w { q with s := Sy.adv q.s } :=
  ⟨h.to (tok_lt h hne) fun hc => by
    obtain ⟨h1, h2, h3, h4, h5, h6, h7⟩ := h.gd hc
    exact ⟨h1, h2, h3, Nat.le_succ_of_le h4, h5, h6, h7⟩, Kp.refl _ _, fun b _ hs => hs, fun b _ hc hs => ⟨hc, hs⟩⟩
theorem Sg.want (h : Aq X w q) {y : List Int} (hy : y ≠ []) : Sg X w q w (wantQ X y q) := by
  unfold wantQ
  split
  · rename_i e; exact Sg.adv h (.inl (by rw [e.2]; exact hy))
  · exact Sg.fail h (by decide)
theorem Sg.kind (h : Aq X w q) {k : Int} (hk : k ≠ 0) : Sg X w q w (kindQ X k q) := by
  unfold kindQ
  split
  · rename_i e; exact Sg.adv h (.inr (by rw [e.2]; exact hk))
  · exact Sg.fail h (by decide)
theorem Sg.deep (h : Aq X w q) {d : Int} : Sg X w q w (deepQ X d q) := by
  unfold deepQ
  split
  · exact Sg.fail h (by decide)
  · exact Sg.start h
theorem stt_c (h : q.c = 0) : stt q = .ok () q.s := if_pos h
theorem stt_e (h : q.c ≠ 0) : stt q = .er q.c q.p := if_neg h
theorem stt_want {y : List Int} : stt (wantQ X y q) = (stt q).bind fun _ s => Sy.want X.E y s := by
  by_cases hc : q.c = 0
  · rw [stt_c hc, bind_ok]
    unfold wantQ Sy.want
    by_cases e : wd X.E q.s = y
    · rw [if_pos ⟨hc, e⟩, if_pos e]; exact stt_c (q := { q with s := Sy.adv q.s }) hc
    · rw [if_neg (fun h => e h.2), if_neg e, failQ, if_pos hc]; rfl
  · rw [stt_e hc, bind_er, wantQ, if_neg (fun h => hc h.1), failQ_er hc, stt_e hc]
theorem stt_deep {d : Int} : stt (deepQ X d q) = (stt q).bind fun _ s => Sy.deep X.E d s := by
  by_cases hc : q.c = 0
  · rw [stt_c hc, bind_ok]
    unfold deepQ Sy.deep
    split
    · rw [failQ, if_pos hc]; rfl
    · rw [stt_c hc]
  · rw [stt_e hc, bind_er, deepQ]
    split
    · rw [failQ_er hc, stt_e hc]
    · rw [stt_e hc]
theorem Res.kind {k : Int} (hk : True) : Res ((stt q).bind fun _ s => knd X.E k s) (kindQ X k q) (kindW X k q) := by
  by_cases hc : q.c = 0
  · rw [stt_c hc, bind_ok]
    by_cases e : kd X.E q.s = k
    · have e1 : kindQ X k q = { q with s := Sy.adv q.s } := if_pos ⟨hc, e⟩
      have e2 : kindW X k q = wd X.E q.s := if_pos ⟨hc, e⟩
      have e3 : knd X.E k q.s = .ok (wd X.E q.s) (Sy.adv q.s) := if_pos e
      rw [e1, e2, e3]; exact ⟨hc, rfl, rfl⟩
    · have e1 : kindQ X k q = failQ X 3 q := if_neg fun h => e h.2
      have e3 : knd X.E k q.s = Sy.er X.E 3 q.s := if_neg e
      rw [e1, e3, failQ, if_pos hc]; show (3 : Int) ≠ 0; decide
  · rw [stt_e hc, bind_er, kindQ, if_neg (fun h => hc h.1), failQ_er hc]; exact hc
theorem Res.stt : Res (stt q) q () := by
  by_cases hc : q.c = 0
  · rw [stt_c hc]; exact ⟨hc, rfl, rfl⟩
  · rw [stt_e hc]; exact hc
theorem Res.bind {α β : Type} {r : Rs α} {g : α → PS → Rs β} {a : α} {b : β} {q1 q2 : Q} (h : Res r q1 a) (h1 : q1.c = 0 → Res (g a q1.s) q2 b) (h2 : q1.c ≠ 0 → q2.c ≠ 0) : Res (r.bind g) q2 b := by
  cases r with
  | ok x s => obtain ⟨e1, rfl, rfl⟩ := h; exact h1 e1
  | er c p => exact h2 h
  | out => exact h.elim
theorem Res.ok {α : Type} {r : Rs α} {a : α} (h : Res r q a) (hc : q.c = 0) : r = .ok a q.s := by
  cases r with
  | ok x s => obtain ⟨_, rfl, rfl⟩ := h; rfl
  | er c p => exact (h hc).elim
  | out => exact h.elim
/-- From a state on. -/
theorem Res.from {α : Type} {g : PS → Rs α} {a : α} (h1 : q.c = 0 → Res (g q.s) q' a) (h2 : q.c ≠ 0 → q'.c ≠ 0) : Res ((Rf.stt q).bind fun _ s => g s) q' a := Res.stt.bind h1 h2
end
end Go.Proofs.Ytkllhfajldnpoaa.Rf
namespace Go.Proofs.Ytkllhfajldnpoaa.Rf
open Go Go.RowKit Fw Sy
set_option linter.unusedVariables false
set_option maxRecDepth 20000
abbrev Tp : TypeId := 99
section
variable {X : Cr} {w : World} {q : Q}
theorem _root_.Go.Proofs.Ytkllhfajldnpoaa.Fw.Kp.from0' {S : Nat → Prop} {a b c : World} (h : Kp No a b) (k : Kp S b c) (hs : ∀ i, i < a.heap.size → ¬ S i) : Kp No a c := h.trans k fun i hi e => hs i hi e
/-- Where the tokens lie. -/
theorem Aq.tokens (h : Aq X w q) : ∀ (i : Nat) (t : Tk.T3), X.T[i]? = some t →
    w.cell? ⟨X.g, 0 + (i : Int).toNat * 3, none⟩ = some (.int .i64 t.1) ∧ w.cell? ⟨X.g, 0 + (i : Int).toNat * 3 + 1, none⟩ = some (.int .i64 t.2.1) ∧ w.cell? ⟨X.g, 0 + (i : Int).toNat * 3 + 2, none⟩ = some (.int .i64 t.2.2) := by
  obtain ⟨a, c, e, hnc, h0, hr⟩ := own_read h.tk
  cases e
  obtain ⟨g, e, _, _, hc⟩ := hr _ rfl
  cases e
  intro i t ht
  obtain ⟨h1, h2, h3⟩ := Tk.tc_get ht
  exact ⟨hc _ _ h1, hc _ _ h2, hc _ _ h3⟩
theorem Aq.tok (h : Aq X w q) : ∃ t, X.T[q.s.i]? = some t ∧ kd X.E q.s = t.1 ∧ hr X.E q.s = t.2.1 ∧ wd X.E q.s = tkw (B X.t) t := by
  have h1 := h.lt
  have ht : X.T[q.s.i]? = some X.T[q.s.i] := List.getElem?_eq_getElem h1
  refine ⟨X.T[q.s.i], ht, ?_, ?_, ?_⟩
  · simp only [kd, envOf, ht]
  · simp only [hr, envOf, ht]
  · simp only [wd, envOf, List.getElem?_map, ht]; rfl
theorem Aq.wd_rng (h : Aq X w q) : ∀ c ∈ wd X.E q.s, 0 ≤ c ∧ c < 256 := by
  obtain ⟨t, ht, e1, e2, e3⟩ := h.tok
  rw [e3]
  exact fun c hc => B_range (List.mem_of_mem_take (List.mem_of_mem_drop hc))
theorem Aq.small (h : Aq X w q) : (q.s.i : Int) + 1 ≤ 20001 := by
  have h1 : q.s.i < (Tk.allT (B X.t)).1.length := h.lt
  have hlen := (tok_of h.h0).len
  have hsz := (tok_of h.h0).size
  omega
theorem hereF (h : Aq X w q) : Ret Try.prog 54 [qv X q] w fun v w1 => v = .int .i64 (hr X.E q.s) ∧ Kp No w w1 := by
  obtain ⟨t, ht, e1, e2, e3⟩ := h.tok
  have hl := h.lt
  refine ret_enter Try.func54 rfl Try.ntmps54 rfl ?_
  (repeat refine Zlr ?_)
  refine s_box (cs := qc X q) rfl rfl (fun b w1 n => ?_)
  have G := (Wb.start h).new n
  have h0 := G.blk 0 rfl
  obtain ⟨c1, c2, c3⟩ := G.at_.tokens _ _ ht
  (repeat refine Zlr ?_)
  refine s_v (r_ia rfl rfl rfl rfl (by omega) (by omega)) ?_
  (repeat refine Zlr ?_)
  exact ret_1 rfl rfl ⟨by rw [e2], n.kp⟩
theorem wordF (h : Aq X w q) : Ret Try.prog 73 [qv X q] w fun v w1 => v = sv (wd X.E q.s) ∧ Kp No w w1 := by
  obtain ⟨t, ht, e1, e2, e3⟩ := h.tok
  have hl := h.lt
  obtain ⟨_, r1, r2, r3⟩ := (tok_of h.h0).rng _ _ ht
  have hB : (B X.t).length = X.t.size := B_len X.t
  refine ret_enter Try.func73 rfl Try.ntmps73 rfl ?_
  (repeat refine Zlr ?_)
  refine s_box (cs := qc X q) rfl rfl (fun b w1 n => ?_)
  have G := (Wb.start h).new n
  have h0 := G.blk 0 rfl
  obtain ⟨c1, c2, c3⟩ := G.at_.tokens _ _ ht
  (repeat refine Zlr ?_)
  refine s_v (r_ia rfl rfl rfl rfl (by omega) (by omega)) ?_
  (repeat refine Zlr ?_)
  refine s_v (r_lda (vs := [.int .i64 t.2.1, .int .i64 t.2.2]) rfl rfl rfl rfl (fun j hj => by
    match j, hj with
    | 0, _ => exact c2
    | 1, _ => exact c3
    | (j + 2), hj => exact absurd hj (by simp)) ) ?_
  (repeat refine Zlr ?_)
  refine s_al rfl (fun b2 w2 n2 => ?_)
  have G := G.new n2
  have h0 := G.blk 0 rfl
  have h1 := G.blk 1 rfl
  (repeat refine Zlr ?_)
  refine s_stw (vs := [.int .i64 t.2.1, .int .i64 t.2.2]) rfl rfl rfl rfl rfl h0 rfl (fun w3 s3 => ?_)
  have G := G.put 0 rfl s3 rfl
  have h0 := G.blk 0 rfl
  have h1 := G.blk 1 rfl
  (repeat refine Zlr ?_)
  refine s_v (r_ss rfl rfl rfl rfl r1 r2 (by omega)) ?_
  (repeat refine Zlr ?_)
  refine ret_1 rfl rfl ⟨?_, (n.kp.no n2.kp).from0' s3.kp fun i hi e => ?_⟩
  · rw [e3, tkw, ← B_extract, sv_B]
  · have := n2.ge; have := n.kp.size; omega
theorem rv_agw {P : Program} {w : World} {n : Nat} {l : Slots} {t : TypeId} {a : Tmp} {b : Nat} {cs : List Value} {T : TypeId} {fz : Nat × Nat} (hx : lk n l a = .pointer (some ⟨b, 0, none⟩)) (hb : w.heap[b]? = some (.cells cs.toArray T fz)) (ht : aggT P t = some true) (hn : szT P t = some cs.length) : Rv P w n l (.cell a t) (.agg cs.toArray) :=
  rv_ag hx ht hn hb (by rw [List.drop_zero, List.take_length]) rfl
theorem failF (k : Int) (h : Aq X w q) : Ret Try.prog 56 [qv X q, .int .i64 k] w fun v w1 => v = qv X (failQ X k q) ∧ Kp No w w1 := by
  refine ret_enter Try.func56 rfl Try.ntmps56 rfl ?_
  (repeat refine Zlr ?_)
  refine s_box (cs := qc X q) rfl rfl (fun b w1 n => ?_)
  have G := (Wb.start h).new n
  (repeat refine Zlr ?_)
  refine s_al rfl (fun b2 w2 n2 => ?_)
  have G := G.new n2
  have h0 := G.blk 0 rfl; try have h1 := G.blk 1 rfl; try have h2 := G.blk 2 rfl; try have h3 := G.blk 3 rfl; try have h4 := G.blk 4 rfl; try have h5 := G.blk 5 rfl
  have k2 := n.kp.no n2.kp
  (repeat refine Zlr ?_)
  refine c_eq rfl (fun hc => ?_) (fun hc => ?_)
  · (repeat refine Zlr ?_)
    refine s_st (vs := [.int .i64 k]) rfl rfl rfl rfl rfl h1 (Nat.le_of_ble_eq_true rfl) (fun w3 s3 => ?_)
    have s3 : Sb w2 b (qc X { q with c := k }) Tp w3 := s3
    have G := G.put 1 rfl s3 rfl
    have h0 := G.blk 0 rfl; try have h1 := G.blk 1 rfl; try have h2 := G.blk 2 rfl; try have h3 := G.blk 3 rfl; try have h4 := G.blk 4 rfl; try have h5 := G.blk 5 rfl
    have k3 := k2.from0' s3.kp fun i hi e => by have := n.ge; omega
    (repeat refine Zlr ?_)
    by_cases hk : k = 0
    · subst hk
      have e0 : ({ q with c := 0 } : Q) = q := by rw [← hc]
      refine s_call (us := []) (zs := []) (by kernel_rfl) rfl rfl (hereF (q := { q with c := 0 }) (by rw [e0]; exact G.at_)) ?_
      rintro _ w4 ⟨rfl, k4⟩
      have G := G.no k4
      have h0 := G.blk 0 rfl; try have h1 := G.blk 1 rfl; try have h2 := G.blk 2 rfl; try have h3 := G.blk 3 rfl; try have h4 := G.blk 4 rfl; try have h5 := G.blk 5 rfl
      (repeat refine Zlr ?_)
      refine s_st (vs := [.int .i64 (hr X.E q.s)]) rfl rfl rfl rfl rfl h1 (Nat.le_of_ble_eq_true rfl) (fun w5 s5 => ?_)
      have s5 : Sb w4 b (qc X (failQ X 0 q)) Tp w5 := by
        rw [failQ, if_pos hc]; exact s5
      have G := G.put 1 rfl s5 rfl
      have h0 := G.blk 0 rfl; try have h1 := G.blk 1 rfl; try have h2 := G.blk 2 rfl; try have h3 := G.blk 3 rfl; try have h4 := G.blk 4 rfl; try have h5 := G.blk 5 rfl
      have k5 := (k3.no k4).from0' s5.kp fun i hi e => by have := n.ge; omega
      (repeat refine Zlr ?_)
      refine s_stw (vs := qc X (failQ X 0 q)) rfl rfl rfl rfl rfl h0 rfl (fun w6 s6 => ?_)
      have G := G.put 0 rfl s6 rfl
      have h0 := G.blk 0 rfl; try have h1 := G.blk 1 rfl; try have h2 := G.blk 2 rfl; try have h3 := G.blk 3 rfl; try have h4 := G.blk 4 rfl; try have h5 := G.blk 5 rfl
      (repeat refine Zlr ?_)
      exact ret_c1 rfl (rv_agw rfl h0 rfl rfl) ⟨rfl, k5.from0' s6.kp fun i hi e => by have := n2.ge; have := n.kp.size; omega⟩
    · have A3 : Aq X w3 { q with c := k } := ⟨G.at_.h0, G.at_.tk, G.at_.lt, fun h => (hk h).elim⟩
      refine s_call (us := []) (zs := []) (by kernel_rfl) rfl rfl (hereF A3) ?_
      rintro _ w4 ⟨rfl, k4⟩
      have G := G.no k4
      have h0 := G.blk 0 rfl; try have h1 := G.blk 1 rfl; try have h2 := G.blk 2 rfl; try have h3 := G.blk 3 rfl; try have h4 := G.blk 4 rfl; try have h5 := G.blk 5 rfl
      (repeat refine Zlr ?_)
      refine s_st (vs := [.int .i64 (hr X.E q.s)]) rfl rfl rfl rfl rfl h1 (Nat.le_of_ble_eq_true rfl) (fun w5 s5 => ?_)
      have s5 : Sb w4 b (qc X (failQ X k q)) Tp w5 := by
        rw [failQ, if_pos hc]; exact s5
      have G := G.put 1 rfl s5 rfl
      have h0 := G.blk 0 rfl; try have h1 := G.blk 1 rfl; try have h2 := G.blk 2 rfl; try have h3 := G.blk 3 rfl; try have h4 := G.blk 4 rfl; try have h5 := G.blk 5 rfl
      have k5 := (k3.no k4).from0' s5.kp fun i hi e => by have := n.ge; omega
      (repeat refine Zlr ?_)
      refine s_stw (vs := qc X (failQ X k q)) rfl rfl rfl rfl rfl h0 rfl (fun w6 s6 => ?_)
      have G := G.put 0 rfl s6 rfl
      have h0 := G.blk 0 rfl; try have h1 := G.blk 1 rfl; try have h2 := G.blk 2 rfl; try have h3 := G.blk 3 rfl; try have h4 := G.blk 4 rfl; try have h5 := G.blk 5 rfl
      (repeat refine Zlr ?_)
      exact ret_c1 rfl (rv_agw rfl h0 rfl rfl) ⟨rfl, k5.from0' s6.kp fun i hi e => by have := n2.ge; have := n.kp.size; omega⟩
  · (repeat refine Zlr ?_)
    refine s_stw (vs := qc X q) rfl rfl rfl rfl rfl h0 rfl (fun w6 s6 => ?_)
    have G := G.put 0 rfl s6 rfl
    have h0 := G.blk 0 rfl; try have h1 := G.blk 1 rfl; try have h2 := G.blk 2 rfl; try have h3 := G.blk 3 rfl; try have h4 := G.blk 4 rfl; try have h5 := G.blk 5 rfl
    (repeat refine Zlr ?_)
    exact ret_c1 rfl (rv_agw rfl h0 rfl rfl) ⟨by rw [failQ, if_neg hc], k2.from0' s6.kp fun i hi e => by have := n2.ge; have := n.kp.size; omega⟩
theorem isF (h : Aq X w q) (y : ByteArray) (hy : B y ≠ []) : Ret Try.prog 55 [qv X q, .string y] w fun v w1 => v = .bool (isQ X (B y) q) ∧ Kp No w w1 := by
  obtain ⟨t, ht, e1, e2, e3⟩ := h.tok
  have hl := h.lt
  refine ret_enter Try.func55 rfl Try.ntmps55 rfl ?_
  (repeat refine Zlr ?_)
  refine s_box (cs := qc X q) rfl rfl (fun b w1 n => ?_)
  have G := (Wb.start h).new n
  have h0 := G.blk 0 rfl; try have h1 := G.blk 1 rfl; try have h2 := G.blk 2 rfl; try have h3 := G.blk 3 rfl; try have h4 := G.blk 4 rfl; try have h5 := G.blk 5 rfl
  obtain ⟨c1, c2, c3⟩ := G.at_.tokens _ _ ht
  (repeat refine Zlr ?_)
  by_cases hc : q.c = 0
  · refine s_set 8 true rfl (beq_iff_eq.2 hc) ?_
    (repeat (first | refine Zlr ?_ | refine Zn ?_ | refine Zu ?_ | refine Zg ?_ | refine Zgl ?_))
    refine s_gv rfl (r_ia rfl rfl rfl rfl (by omega) (by omega)) ?_
    (repeat (first | refine Zlr ?_ | refine Zn ?_ | refine Zu ?_ | refine Zg ?_ | refine Zgl ?_))
    by_cases hk : t.1 = 0
    · refine s_set 18 false rfl (by rw [hk]; rfl) ?_
      (repeat (first | refine Zlr ?_ | refine Zn ?_ | refine Zu ?_ | refine Zg ?_ | refine Zgl ?_))
      refine ret_1 rfl rfl ⟨?_, n.kp⟩
      rw [isQ, decide_eq_false]
      rintro ⟨_, e⟩
      have hlast : wd X.E q.s = [] := by
        have ok := tok_of h.h0
        rw [e3]; exact ok.lastw _ _ ht (ok.k0 _ _ ht hk)
      exact hy (by rw [← e, hlast])
    · refine s_set 18 true rfl (bne_iff_ne.2 hk) ?_
      (repeat (first | refine Zlr ?_ | refine Zn ?_ | refine Zu ?_ | refine Zg ?_ | refine Zgl ?_))
      refine s_gcall (us := []) (zs := []) rfl (by kernel_rfl) rfl rfl (wordF G.at_) ?_
      rintro _ w2 ⟨rfl, k2⟩
      (repeat (first | refine Zlr ?_ | refine Zn ?_ | refine Zu ?_ | refine Zg ?_ | refine Zgl ?_))
      refine ret_1 rfl rfl ⟨?_, n.kp.no k2⟩
      rw [str_eq, B_nums h.wd_rng, isQ]
      simp only [hc, true_and]
  · refine s_set 8 false rfl (beq_eq_false_iff_ne.2 hc) ?_
    (repeat (first | refine Zlr ?_ | refine Zn ?_ | refine Zu ?_ | refine Zg ?_ | refine Zgl ?_))
    refine ret_1 rfl rfl ⟨?_, n.kp⟩
    rw [isQ, decide_eq_false (fun h => hc h.1)]
theorem wantF (h : Aq X w q) (y : ByteArray) (hy : B y ≠ []) : Ret Try.prog 58 [qv X q, .string y] w fun v w1 => v = qv X (wantQ X (B y) q) ∧ Kp No w w1 := by
  have hl := h.lt
  have hsm := h.small
  refine ret_enter Try.func58 rfl Try.ntmps58 rfl ?_
  (repeat refine Zlr ?_)
  refine s_box (cs := qc X q) rfl rfl (fun b w1 n => ?_)
  have G := (Wb.start h).new n
  (repeat refine Zlr ?_)
  refine s_al rfl (fun b2 w2 n2 => ?_)
  have G := G.new n2
  have h0 := G.blk 0 rfl; try have h1 := G.blk 1 rfl; try have h2 := G.blk 2 rfl; try have h3 := G.blk 3 rfl; try have h4 := G.blk 4 rfl; try have h5 := G.blk 5 rfl
  have k2 := n.kp.no n2.kp
  (repeat refine Zlr ?_)
  refine s_call (us := []) (zs := []) (by kernel_rfl) rfl rfl (isF G.at_ y hy) ?_
  rintro _ w3 ⟨rfl, k3⟩
  have G := G.no k3
  have h0 := G.blk 0 rfl; try have h1 := G.blk 1 rfl; try have h2 := G.blk 2 rfl; try have h3 := G.blk 3 rfl; try have h4 := G.blk 4 rfl; try have h5 := G.blk 5 rfl
  have k3 := k2.no k3
  (repeat refine Zlr ?_)
  by_cases hq : q.c = 0 ∧ wd X.E q.s = B y
  · have e : isQ X (B y) q = true := decide_eq_true hq
    refine c_f (by show Value.bool (!isQ X (B y) q) = _; rw [e]; rfl) ?_
    (repeat refine Zlr ?_)
    refine s_st (vs := [.int .i64 ((q.s.i : Int) + 1)]) rfl rfl rfl rfl rfl h1 (Nat.le_of_ble_eq_true rfl) (fun w5 s5 => ?_)
    have s5 : Sb w3 b (qc X (wantQ X (B y) q)) Tp w5 := by
      rw [wantQ, if_pos hq]; exact s5
    have G := G.put 1 rfl s5 rfl
    have h0 := G.blk 0 rfl; try have h1 := G.blk 1 rfl; try have h2 := G.blk 2 rfl; try have h3 := G.blk 3 rfl; try have h4 := G.blk 4 rfl; try have h5 := G.blk 5 rfl
    have k5 := k3.from0' s5.kp fun i hi e => by have := n.ge; omega
    (repeat refine Zlr ?_)
    refine s_stw (vs := qc X (wantQ X (B y) q)) rfl rfl rfl rfl rfl h0 rfl (fun w6 s6 => ?_)
    have G := G.put 0 rfl s6 rfl
    have h0 := G.blk 0 rfl; try have h1 := G.blk 1 rfl; try have h2 := G.blk 2 rfl; try have h3 := G.blk 3 rfl; try have h4 := G.blk 4 rfl; try have h5 := G.blk 5 rfl
    (repeat refine Zlr ?_)
    exact ret_c1 rfl (rv_agw rfl h0 rfl rfl) ⟨rfl, k5.from0' s6.kp fun i hi e => by have := n2.ge; have := n.kp.size; omega⟩
  · have e : isQ X (B y) q = false := decide_eq_false hq
    refine c_t (by show Value.bool (!isQ X (B y) q) = _; rw [e]; rfl) ?_
    (repeat refine Zlr ?_)
    refine s_call (us := []) (zs := []) (by kernel_rfl) rfl rfl (failF 3 G.at_) ?_
    rintro _ w4 ⟨rfl, k4⟩
    have G := G.no k4
    have h0 := G.blk 0 rfl; try have h1 := G.blk 1 rfl; try have h2 := G.blk 2 rfl; try have h3 := G.blk 3 rfl; try have h4 := G.blk 4 rfl; try have h5 := G.blk 5 rfl
    have k4 := k3.no k4
    (repeat refine Zlr ?_)
    refine s_stw (vs := qc X (failQ X 3 q)) rfl rfl rfl rfl rfl h0 rfl (fun w6 s6 => ?_)
    have G := G.put 0 rfl s6 rfl
    have h0 := G.blk 0 rfl; try have h1 := G.blk 1 rfl; try have h2 := G.blk 2 rfl; try have h3 := G.blk 3 rfl; try have h4 := G.blk 4 rfl; try have h5 := G.blk 5 rfl
    (repeat refine Zlr ?_)
    exact ret_c1 rfl (rv_agw rfl h0 rfl rfl) ⟨by rw [wantQ, if_neg hq], k4.from0' s6.kp fun i hi e => by have := n2.ge; have := n.kp.size; omega⟩
theorem deepF (h : Aq X w q) (d : Int) : Ret Try.prog 74 [qv X q, .int .i64 d] w fun v w1 => v = qv X (deepQ X d q) ∧ Kp No w w1 := by
  refine ret_enter Try.func74 rfl Try.ntmps74 rfl ?_
  (repeat refine Zlr ?_)
  refine s_box (cs := qc X q) rfl rfl (fun b w1 n => ?_)
  have G := (Wb.start h).new n
  (repeat refine Zlr ?_)
  refine s_al rfl (fun b2 w2 n2 => ?_)
  have G := G.new n2
  have h0 := G.blk 0 rfl; try have h1 := G.blk 1 rfl; try have h2 := G.blk 2 rfl; try have h3 := G.blk 3 rfl; try have h4 := G.blk 4 rfl; try have h5 := G.blk 5 rfl
  have k2 := n.kp.no n2.kp
  (repeat refine Zlr ?_)
  refine c_dec rfl (fun hd => ?_) (fun hd => ?_)
  · (repeat refine Zlr ?_)
    refine s_call (us := []) (zs := []) (by kernel_rfl) rfl rfl (failF 4 G.at_) ?_
    rintro _ w4 ⟨rfl, k4⟩
    have G := G.no k4
    have h0 := G.blk 0 rfl; try have h1 := G.blk 1 rfl; try have h2 := G.blk 2 rfl; try have h3 := G.blk 3 rfl; try have h4 := G.blk 4 rfl; try have h5 := G.blk 5 rfl
    have k4 := k2.no k4
    (repeat refine Zlr ?_)
    refine s_stw (vs := qc X (failQ X 4 q)) rfl rfl rfl rfl rfl h0 rfl (fun w6 s6 => ?_)
    have G := G.put 0 rfl s6 rfl
    have h0 := G.blk 0 rfl; try have h1 := G.blk 1 rfl; try have h2 := G.blk 2 rfl; try have h3 := G.blk 3 rfl; try have h4 := G.blk 4 rfl; try have h5 := G.blk 5 rfl
    (repeat refine Zlr ?_)
    exact ret_c1 rfl (rv_agw rfl h0 rfl rfl) ⟨by rw [deepQ, if_pos (by omega)], k4.from0' s6.kp fun i hi e => by have := n2.ge; have := n.kp.size; omega⟩
  · (repeat refine Zlr ?_)
    refine s_stw (vs := qc X q) rfl rfl rfl rfl rfl h0 rfl (fun w6 s6 => ?_)
    have G := G.put 0 rfl s6 rfl
    have h0 := G.blk 0 rfl; try have h1 := G.blk 1 rfl; try have h2 := G.blk 2 rfl; try have h3 := G.blk 3 rfl; try have h4 := G.blk 4 rfl; try have h5 := G.blk 5 rfl
    (repeat refine Zlr ?_)
    exact ret_c1 rfl (rv_agw rfl h0 rfl rfl) ⟨by rw [deepQ, if_neg (by omega)], k2.from0' s6.kp fun i hi e => by have := n2.ge; have := n.kp.size; omega⟩
theorem kindF (h : Aq X w q) (k : Int) (hk : k ≠ 0) : Ret Try.prog 57 [qv X q, .int .i64 k] w fun v w1 => v = .tuple #[qv X (kindQ X k q), sv (kindW X k q)] ∧ Kp No w w1 := by
  obtain ⟨t, ht, e1, e2, e3⟩ := h.tok
  have hl := h.lt
  have hsm := h.small
  refine ret_enter Try.func57 rfl Try.ntmps57 rfl ?_
  (repeat refine Zlr ?_)
  refine s_box (cs := qc X q) rfl rfl (fun b w1 n => ?_)
  have G := (Wb.start h).new n
  (repeat refine Zlr ?_)
  refine s_al rfl (fun b2 w2 n2 => ?_)
  have G := G.new n2
  have h0 := G.blk 0 rfl; try have h1 := G.blk 1 rfl; try have h2 := G.blk 2 rfl; try have h3 := G.blk 3 rfl; try have h4 := G.blk 4 rfl; try have h5 := G.blk 5 rfl
  have k2 := n.kp.no n2.kp
  obtain ⟨c1, c2, c3⟩ := G.at_.tokens _ _ ht
  (repeat refine Zlr ?_)
  have bad : ¬ (q.c = 0 ∧ kd X.E q.s = k) → kindQ X k q = failQ X 3 q ∧ kindW X k q = [] := fun h => ⟨if_neg h, if_neg h⟩
  have good : (q.c = 0 ∧ kd X.E q.s = k) → kindQ X k q = { q with s := adv q.s } ∧ kindW X k q = wd X.E q.s := fun h => ⟨if_pos h, if_pos h⟩
  by_cases hc : q.c = 0
  · refine s_set 10 false rfl (bne_eq_false_iff_eq.2 hc) ?_
    (repeat (first | refine Zlr ?_ | refine Zn ?_ | refine Zu ?_ | refine Zg ?_ | refine Zgl ?_))
    refine s_gv rfl (r_ia rfl rfl rfl rfl (by omega) (by omega)) ?_
    (repeat (first | refine Zlr ?_ | refine Zn ?_ | refine Zu ?_ | refine Zg ?_ | refine Zgl ?_))
    refine c_ne rfl (fun hk => ?_) (fun hk => ?_)
    · obtain ⟨b1, b2'⟩ := bad (fun h => hk (by rw [← e1]; exact h.2))
      rw [b1, b2']
      (repeat refine Zlr ?_)
      refine s_call (us := []) (zs := []) (by kernel_rfl) rfl rfl (failF 3 G.at_) ?_
      rintro _ w4 ⟨rfl, k4⟩
      have G := G.no k4
      have h0 := G.blk 0 rfl; try have h1 := G.blk 1 rfl; try have h2 := G.blk 2 rfl; try have h3 := G.blk 3 rfl; try have h4 := G.blk 4 rfl; try have h5 := G.blk 5 rfl
      have k4 := k2.no k4
      (repeat refine Zlr ?_)
      refine s_stw (vs := qc X (failQ X 3 q)) rfl rfl rfl rfl rfl h0 rfl (fun w6 s6 => ?_)
      have G := G.put 0 rfl s6 rfl
      have h0 := G.blk 0 rfl; try have h1 := G.blk 1 rfl; try have h2 := G.blk 2 rfl; try have h3 := G.blk 3 rfl; try have h4 := G.blk 4 rfl; try have h5 := G.blk 5 rfl
      (repeat refine Zlr ?_)
      exact ret_c2 rfl (rv_agw rfl h0 rfl rfl) (rv_t rfl) ⟨rfl, k4.from0' s6.kp fun i hi e => by have := n2.ge; have := n.kp.size; omega⟩
    · obtain ⟨b1, b2'⟩ := good ⟨hc, by rw [e1]; exact hk⟩
      rw [b1, b2']
      (repeat refine Zlr ?_)
      refine s_call (us := []) (zs := []) (by kernel_rfl) rfl rfl (wordF G.at_) ?_
      rintro _ w4 ⟨rfl, k4⟩
      have G := G.no k4
      have h0 := G.blk 0 rfl; try have h1 := G.blk 1 rfl; try have h2 := G.blk 2 rfl; try have h3 := G.blk 3 rfl; try have h4 := G.blk 4 rfl; try have h5 := G.blk 5 rfl
      have k4 := k2.no k4
      (repeat refine Zlr ?_)
      refine s_st (vs := [.int .i64 ((q.s.i : Int) + 1)]) rfl rfl rfl rfl rfl h1 (Nat.le_of_ble_eq_true rfl) (fun w5 s5 => ?_)
      have s5 : Sb w4 b (qc X { q with s := adv q.s }) Tp w5 := s5
      have G := G.put 1 rfl s5 rfl
      have h0 := G.blk 0 rfl; try have h1 := G.blk 1 rfl; try have h2 := G.blk 2 rfl; try have h3 := G.blk 3 rfl; try have h4 := G.blk 4 rfl; try have h5 := G.blk 5 rfl
      have k5 := k4.from0' s5.kp fun i hi e => by have := n.ge; omega
      (repeat refine Zlr ?_)
      refine s_stw (vs := qc X { q with s := adv q.s }) rfl rfl rfl rfl rfl h0 rfl (fun w6 s6 => ?_)
      have G := G.put 0 rfl s6 rfl
      have h0 := G.blk 0 rfl; try have h1 := G.blk 1 rfl; try have h2 := G.blk 2 rfl; try have h3 := G.blk 3 rfl; try have h4 := G.blk 4 rfl; try have h5 := G.blk 5 rfl
      (repeat refine Zlr ?_)
      exact ret_c2 rfl (rv_agw rfl h0 rfl rfl) (rv_t rfl) ⟨rfl, k5.from0' s6.kp fun i hi e => by have := n2.ge; have := n.kp.size; omega⟩
  · obtain ⟨b1, b2'⟩ := bad (fun h => hc h.1)
    rw [b1, b2']
    refine s_set 10 true rfl (bne_iff_ne.2 hc) ?_
    (repeat (first | refine Zlr ?_ | refine Zn ?_ | refine Zu ?_ | refine Zg ?_ | refine Zgl ?_))
    refine c_t rfl ?_
    (repeat refine Zlr ?_)
    refine s_call (us := []) (zs := []) (by kernel_rfl) rfl rfl (failF 3 G.at_) ?_
    rintro _ w4 ⟨rfl, k4⟩
    have G := G.no k4
    have h0 := G.blk 0 rfl; try have h1 := G.blk 1 rfl; try have h2 := G.blk 2 rfl; try have h3 := G.blk 3 rfl; try have h4 := G.blk 4 rfl; try have h5 := G.blk 5 rfl
    have k4 := k2.no k4
    (repeat refine Zlr ?_)
    refine s_stw (vs := qc X (failQ X 3 q)) rfl rfl rfl rfl rfl h0 rfl (fun w6 s6 => ?_)
    have G := G.put 0 rfl s6 rfl
    have h0 := G.blk 0 rfl; try have h1 := G.blk 1 rfl; try have h2 := G.blk 2 rfl; try have h3 := G.blk 3 rfl; try have h4 := G.blk 4 rfl; try have h5 := G.blk 5 rfl
    (repeat refine Zlr ?_)
    exact ret_c2 rfl (rv_agw rfl h0 rfl rfl) (rv_t rfl) ⟨rfl, k4.from0' s6.kp fun i hi e => by have := n2.ge; have := n.kp.size; omega⟩
theorem numberF (x : ByteArray) (w : World) (hs : x.size ≤ 18) (hd : ∀ c ∈ B x, 48 ≤ c ∧ c ≤ 57) : Ret Try.prog 91 [.string x] w fun v w1 => v = .int .i64 (num (B x)) ∧ w1 = w := by
  have hlen := B_len x
  refine ret_enter Try.func91 rfl Try.ntmps91 rfl ?_
  (repeat refine Zr ?_)
  refine k_loop (σ := Nat) (fun i => [(0, .string x), (3, .int .i64 (num ((B x).take i))), (4, .int .i64 (i : Int))]) (fun i w1 => w1 = w ∧ i ≤ x.size) (fun i => x.size - i) 0 ⟨rfl, rfl, rfl, trivial⟩ ⟨rfl, Nat.zero_le _⟩ ?_
  rintro i l w1 ⟨rfl, hi⟩
  (repeat refine Zr ?_)
  refine c_dec rfl (fun q => ?_) (fun q => ?_)
  · have q : i < x.size := by omega
    obtain ⟨c, hc⟩ : ∃ c, (B x)[i]? = some c := ⟨_, List.getElem?_eq_getElem (by omega)⟩
    have hb := B_get hc
    have h2 := hd c (List.mem_of_getElem? hc)
    obtain ⟨h3, h4⟩ := num_tk (B x) hd i (by omega)
    have h5 : (10 : Int) ^ i ≤ 10 ^ 17 := (show ∀ j : Fin 18, (10 : Int) ^ (j : Nat) ≤ 10 ^ 17 by decide) ⟨i, by omega⟩
    have h6 : num ((B x).take i) < 100000000000000000 := by
      have : (10 : Int) ^ 17 = 100000000000000000 := by decide
      omega
    have hst := num_step (B x) i c hc
    (repeat refine Zr ?_)
    refine s_v (r_ix rfl rfl rfl (by omega) (by omega)) ?_
    rw [hb]
    (repeat refine Zr ?_)
    refine l_next (i + 1) ⟨rfl, by
      show Value.int .i64 (IntKind.i64.wrap (num ((B x).take i) * 10 + IntKind.i64.wrap (IntKind.u8.wrap (c - 48)))) = _
      rw [wrap_u8 (n := c - 48) (by omega), show IntKind.i64.wrap (c - 48) = c - 48 from wrap_in (by omega), show IntKind.i64.wrap (num ((B x).take i) * 10 + (c - 48)) = num ((B x).take i) * 10 + (c - 48) from wrap_in (by omega), hst], rfl, trivial⟩ ⟨rfl, by omega⟩ (by omega)
  · (repeat refine Zr ?_)
    have : i = x.size := by omega
    refine ret_1 rfl rfl ⟨?_, rfl⟩
    rw [this, ← hlen, List.take_length]
end
end Go.Proofs.Ytkllhfajldnpoaa.Rf
namespace Go.Proofs.Ytkllhfajldnpoaa.Rf
open Go Go.RowKit Fw Sy
set_option linter.unusedVariables false
set_option maxRecDepth 20000
/-- What a part answers: the state that goes on, and a number. -/
def RecS (X : Cr) (w : World) (q : Q) (r : Rs Int) (v : Value) (w' : World) : Prop := ∃ q' a, v = .tuple #[qv X q', .int .i64 a] ∧ Sg X w q w' q' ∧ Res r q' a
section
variable {X : Cr} {w : World} {q : Q}
theorem own_x {w w' : World} {base0 : Nat} {e0 : TypeId} {size0 : Nat} {v0 : Value} {n0 : Nat} {cs0 : List Value} {k0 : Nat} {xs : List Value} {v : Value} (o0 : w.ownsRow base0 e0 size0 v0 n0 cs0) (ap : Ap w 0 e0 size0 v0 k0 xs v w') {base : Nat} {e : TypeId} {size : Nat} {u : Value} {n : Nat} {cs : List Value} (h : w.ownsRow base e size u n cs) (he : Nat.beq e e0 = false) : w'.ownsRow base e size u n cs :=
  own_kp h ap.kp fun g hg e' => by
    obtain ⟨c, hc⟩ := own_ty h hg
    obtain ⟨c0, hc0⟩ := own_ty o0 e'.symm
    exact ty_ne hc hc0 he rfl
theorem Sg.putx (h : Aq X w q) (hc : q.c = 0) {x : Ex} {a la : Option Addr} {n c ln lc : Nat} {w' : World} {rx : List (Ex × Value)} (e1 : rx.map Prod.fst = q.s.ex) (o1 : w.ownsRow 0 146 9 q.x.v q.s.ex.length (rx.flatMap exC)) (l1 : ∀ r ∈ rx, LI w r.2 r.1.l ∧ Ow q.V r.2)
    (hl : LI w (.slice la ln lc) x.l) (how : Ow q.V (.slice la ln lc)) (hx : q.s.ex.length + 1 ≤ q.s.i) (ap : Ap w 0 146 9 q.x.v (q.s.ex.length + 1) (rx.flatMap exC ++ exC (x, .slice la ln lc)) (.slice a n c) w') :
    Sg X w q w' { q with s := { q.s with ex := q.s.ex ++ [x] }, x := ⟨a, n, c⟩ } := by
  obtain ⟨g1, g2, g3, g4, g5, g6, g7⟩ := h.gd hc
  have P : ∀ {base : Nat} {e : TypeId} {size : Nat} {v : Value} {n : Nat} {cs : List Value}, w.ownsRow base e size v n cs → Nat.beq e 146 = false → w'.ownsRow base e size v n cs := fun ho he => own_x o1 ap ho he
  obtain ⟨ry, a2, o2, l2⟩ := g2
  obtain ⟨rz, a3, o3, l3⟩ := g3
  refine ⟨⟨h.h0, P h.tk rfl, h.lt, fun _ => ⟨⟨rx ++ [(x, .slice la ln lc)], by simp [e1], ?_, ?_⟩, ⟨ry, a2, P o2 rfl, fun r hr => ⟨⟨P (l2 r hr).1.1 rfl, (l2 r hr).1.2⟩, P (l2 r hr).2.1 rfl, (l2 r hr).2.2⟩⟩,
    ⟨rz, a3, P o3 rfl, fun r hr => ⟨⟨P (l3 r hr).1.1 rfl, (l3 r hr).1.2⟩, P (l3 r hr).2.1 rfl, (l3 r hr).2.2⟩⟩, ?_, g5, g6, fun b hb => Nat.lt_of_lt_of_le (g7 b hb) ap.kp.size⟩⟩, ap.kp.mono fun i _ e => ⟨hc, .inl e.symm⟩, fun b hb hs => ?_, fun b _ _ ho => ⟨hc, ho⟩⟩
  · rw [List.flatMap_append]
    simpa using ap.own
  · intro r hr
    rcases List.mem_append.1 hr with hr | hr
    · exact ⟨P (l1 r hr).1 rfl, (l1 r hr).2⟩
    · rw [List.mem_singleton] at hr; subst hr; exact ⟨P hl rfl, how⟩
  · show (q.s.ex ++ [x]).length ≤ q.s.i
    rw [List.length_append, List.length_singleton]; exact hx
  · rcases hs.2 with hs | hs | hs
    · rcases ap.row b hs with h1 | h1
      · exact ⟨hc, .inl h1⟩
      · omega
    · exact ⟨hc, .inr (.inl hs)⟩
    · exact ⟨hc, .inr (.inr hs)⟩
theorem Sg.puty (h : Aq X w q) (hc : q.c = 0) {x : St} {a la ma : Option Addr} {n c ln lc mn mc : Nat} {w' : World} {ry : List (St × Value × Value)} (e1 : ry.map Prod.fst = q.s.st) (o1 : w.ownsRow 0 86 9 q.y.v q.s.st.length (ry.flatMap stC)) (l1 : ∀ r ∈ ry, (LI w r.2.1 r.1.th ∧ Ow q.V r.2.1) ∧ LI w r.2.2 r.1.el ∧ Ow q.V r.2.2)
    (hl : LI w (.slice la ln lc) x.th) (how : Ow q.V (.slice la ln lc)) (hm : LI w (.slice ma mn mc) x.el) (hom : Ow q.V (.slice ma mn mc)) (hx : q.s.st.length + 1 ≤ 1000) (ap : Ap w 0 86 9 q.y.v (q.s.st.length + 1) (ry.flatMap stC ++ stC (x, .slice la ln lc, .slice ma mn mc)) (.slice a n c) w') :
    Sg X w q w' { q with s := { q.s with st := q.s.st ++ [x] }, y := ⟨a, n, c⟩ } := by
  obtain ⟨g1, g2, g3, g4, g5, g6, g7⟩ := h.gd hc
  have P : ∀ {base : Nat} {e : TypeId} {size : Nat} {v : Value} {n : Nat} {cs : List Value}, w.ownsRow base e size v n cs → Nat.beq e 86 = false → w'.ownsRow base e size v n cs := fun ho he => own_x o1 ap ho he
  obtain ⟨rx, a2, o2, l2⟩ := g1
  obtain ⟨rz, a3, o3, l3⟩ := g3
  refine ⟨⟨h.h0, P h.tk rfl, h.lt, fun _ => ⟨⟨rx, a2, P o2 rfl, fun r hr => ⟨P (l2 r hr).1 rfl, (l2 r hr).2⟩⟩, ⟨ry ++ [(x, .slice la ln lc, .slice ma mn mc)], by simp [e1], ?_, ?_⟩,
    ⟨rz, a3, P o3 rfl, fun r hr => ⟨⟨P (l3 r hr).1.1 rfl, (l3 r hr).1.2⟩, P (l3 r hr).2.1 rfl, (l3 r hr).2.2⟩⟩, g4, ?_, g6, fun b hb => Nat.lt_of_lt_of_le (g7 b hb) ap.kp.size⟩⟩, ap.kp.mono fun i _ e => ⟨hc, .inr (.inl e.symm)⟩, fun b hb hs => ?_, fun b _ _ ho => ⟨hc, ho⟩⟩
  · rw [List.flatMap_append]
    simpa using ap.own
  · intro r hr
    rcases List.mem_append.1 hr with hr | hr
    · exact ⟨⟨P (l1 r hr).1.1 rfl, (l1 r hr).1.2⟩, P (l1 r hr).2.1 rfl, (l1 r hr).2.2⟩
    · rw [List.mem_singleton] at hr; subst hr; exact ⟨⟨P hl rfl, how⟩, P hm rfl, hom⟩
  · show (q.s.st ++ [x]).length ≤ 1000
    rw [List.length_append, List.length_singleton]; exact hx
  · rcases hs.2 with hs | hs | hs
    · exact ⟨hc, .inl hs⟩
    · rcases ap.row b hs with h1 | h1
      · exact ⟨hc, .inr (.inl h1)⟩
      · omega
    · exact ⟨hc, .inr (.inr hs)⟩
theorem Sg.putz (h : Aq X w q) (hc : q.c = 0) {x : Sy.Fn} {a la ma : Option Addr} {n c ln lc mn mc : Nat} {w' : World} {rz : List (Sy.Fn × Value × Value)} (e1 : rz.map Prod.fst = q.s.fn) (o1 : w.ownsRow 0 46 6 q.z.v q.s.fn.length (rz.flatMap fnC)) (l1 : ∀ r ∈ rz, (LS w r.2.1 r.1.ps ∧ Ow q.V r.2.1) ∧ LI w r.2.2 r.1.bd ∧ Ow q.V r.2.2)
    (hl : LS w (.slice la ln lc) x.ps) (how : Ow q.V (.slice la ln lc)) (hm : LI w (.slice ma mn mc) x.bd) (hom : Ow q.V (.slice ma mn mc)) (hx : q.s.fn.length + 1 ≤ 32) (ap : Ap w 0 46 6 q.z.v (q.s.fn.length + 1) (rz.flatMap fnC ++ fnC (x, .slice la ln lc, .slice ma mn mc)) (.slice a n c) w') :
    Sg X w q w' { q with s := { q.s with fn := q.s.fn ++ [x] }, z := ⟨a, n, c⟩ } := by
  obtain ⟨g1, g2, g3, g4, g5, g6, g7⟩ := h.gd hc
  have P : ∀ {base : Nat} {e : TypeId} {size : Nat} {v : Value} {n : Nat} {cs : List Value}, w.ownsRow base e size v n cs → Nat.beq e 46 = false → w'.ownsRow base e size v n cs := fun ho he => own_x o1 ap ho he
  obtain ⟨rx, a2, o2, l2⟩ := g1
  obtain ⟨ry, a3, o3, l3⟩ := g2
  refine ⟨⟨h.h0, P h.tk rfl, h.lt, fun _ => ⟨⟨rx, a2, P o2 rfl, fun r hr => ⟨P (l2 r hr).1 rfl, (l2 r hr).2⟩⟩,
    ⟨ry, a3, P o3 rfl, fun r hr => ⟨⟨P (l3 r hr).1.1 rfl, (l3 r hr).1.2⟩, P (l3 r hr).2.1 rfl, (l3 r hr).2.2⟩⟩, ⟨rz ++ [(x, .slice la ln lc, .slice ma mn mc)], by simp [e1], ?_, ?_⟩, g4, g5, ?_, fun b hb => Nat.lt_of_lt_of_le (g7 b hb) ap.kp.size⟩⟩, ap.kp.mono fun i _ e => ⟨hc, .inr (.inr e.symm)⟩, fun b hb hs => ?_, fun b _ _ ho => ⟨hc, ho⟩⟩
  · rw [List.flatMap_append]
    simpa using ap.own
  · intro r hr
    rcases List.mem_append.1 hr with hr | hr
    · exact ⟨⟨P (l1 r hr).1.1 rfl, (l1 r hr).1.2⟩, P (l1 r hr).2.1 rfl, (l1 r hr).2.2⟩
    · rw [List.mem_singleton] at hr; subst hr; exact ⟨⟨P hl rfl, how⟩, P hm rfl, hom⟩
  · show (q.s.fn ++ [x]).length ≤ 32
    rw [List.length_append, List.length_singleton]; exact hx
  · rcases hs.2 with hs | hs | hs
    · exact ⟨hc, .inl hs⟩
    · exact ⟨hc, .inr (.inl hs)⟩
    · rcases ap.row b hs with h1 | h1
      · exact ⟨hc, .inr (.inr h1)⟩
      · omega
theorem Gd.ny {w : World} {q : Q} (h : Gd w q) : q.x.n = q.s.ex.length ∧ q.y.n = q.s.st.length ∧ q.z.n = q.s.fn.length := by
  obtain ⟨_, _, o1, _⟩ := h.xs
  obtain ⟨_, _, o2, _⟩ := h.ss
  obtain ⟨_, _, o3, _⟩ := h.fs
  obtain ⟨_, _, e1, _⟩ := own_read o1
  obtain ⟨_, _, e2, _⟩ := own_read o2
  obtain ⟨_, _, e3, _⟩ := own_read o3
  simp only [Value.slice.injEq] at e1 e2 e3
  exact ⟨e1.2.1, e2.2.1, e3.2.1⟩
theorem Aq.prev (h : Aq X w q) (h1 : 1 ≤ q.s.i) : ∃ t, X.T[q.s.i - 1]? = some t ∧ pe X.E q.s = t.2.2 := by
  have hl := h.lt
  have ht : X.T[q.s.i - 1]? = some X.T[q.s.i - 1] := List.getElem?_eq_getElem (by omega)
  exact ⟨_, ht, by simp only [pe, envOf, ht]⟩
set_option maxHeartbeats 1000000 in
theorem putF (h : Aq X w q) (fr : Int) (x : Ex) (la : Option Addr) (ln lc : Nat) (hl : q.c = 0 → LI w (.slice la ln lc) x.l ∧ Ow q.V (.slice la ln lc) ∧ q.s.ex.length + 1 ≤ q.s.i) :
    Ret Try.prog 99 [qv X q, .int .i64 fr, .agg (exC (x, .slice la ln lc)).toArray] w (RecS X w q ((stt q).bind fun _ s => Sy.put X.E fr x s)) := by
  have hsm := h.small
  have hlt := h.lt
  refine ret_enter Try.func99 rfl Try.ntmps99 rfl ?_
  (repeat refine Zlr ?_)
  refine s_box (cs := qc X q) rfl rfl (fun b w n => ?_)
  have G := (Wb.start h).new n
  (repeat refine Zlr ?_)
  refine s_box (cs := exC (x, .slice la ln lc)) rfl rfl (fun b2 w n2 => ?_)
  have G := G.new n2
  (repeat refine Zlr ?_)
  refine s_al rfl (fun b3 w n3 => ?_)
  have G := G.new n3
  have k3 := (n.kp.no n2.kp).no n3.kp
  have h0 := G.blk 0 rfl; try have h1 := G.blk 1 rfl; try have h2 := G.blk 2 rfl; try have h3 := G.blk 3 rfl; try have h4 := G.blk 4 rfl; try have h5 := G.blk 5 rfl
  (repeat refine Zlr ?_)
  by_cases hc : q.c = 0
  · obtain ⟨hl1, hl2, hl3⟩ := hl hc
    have hl3' := hl3
    refine c_f (by show Value.bool (q.c != 0) = _; rw [bne_eq_false_iff_eq.2 hc]) ?_
    obtain ⟨t, ht, e1⟩ := h.prev (by omega)
    obtain ⟨c1, c2, c3⟩ := G.at_.tokens _ _ ht
    rw [show ((q.s.i - 1 : Nat) : Int) = (q.s.i : Int) - 1 by omega] at c1 c2 c3
    (repeat refine Zlr ?_)
    refine s_v (r_ia rfl rfl rfl rfl (by omega) (by omega)) ?_
    (repeat refine Zlr ?_)
    rw [← e1]
    refine s_st (vs := [.int .i64 fr, .int .i64 (pe X.E q.s)]) rfl rfl rfl rfl rfl h1 (Nat.le_of_ble_eq_true rfl) (fun w s => ?_)
    have s : Sb _ b2 (exC ({ x with f := fr, e := pe X.E q.s }, .slice la ln lc)) _ w := s
    have G := G.put 1 rfl s rfl
    have h0 := G.blk 0 rfl; try have h1 := G.blk 1 rfl; try have h2 := G.blk 2 rfl; try have h3 := G.blk 3 rfl; try have h4 := G.blk 4 rfl; try have h5 := G.blk 5 rfl
    (repeat refine Zlr ?_)
    refine s_bs (cs := exC ({ x with f := fr, e := pe X.E q.s }, .slice la ln lc)) (e := 146) rfl (fun b4 w n4 => ?_)
    have G := G.new n4
    have h0 := G.blk 0 rfl; try have h1 := G.blk 1 rfl; try have h2 := G.blk 2 rfl; try have h3 := G.blk 3 rfl; try have h4 := G.blk 4 rfl; try have h5 := G.blk 5 rfl
    obtain ⟨rx, a1, o1, l1⟩ := (G.at_.gd hc).xs
    have hlw := own_gs h G.sg.gs.kp hl1 rfl
    have hxl : q.s.ex.length ≤ 20001 := by omega
    (repeat refine Zlr ?_)
    refine s_app (v0 := q.x.v) (k := q.s.ex.length) (m := 1) (size := 9) (bytes := 104) (base := 0) (xs := rx.flatMap exC) (news := exC ({ x with f := fr, e := pe X.E q.s }, .slice la ln lc)) rfl rfl rfl rfl rfl rfl rfl rfl o1 rfl (blk_cells h0) rfl rfl (by omega) (by omega) (Nat.zero_le _) ?_
    intro v w ap
    obtain ⟨a9, c9, e9, _⟩ := own_read ap.own
    subst e9
    have G := G.call (Sg.putx (x := { x with f := fr, e := pe X.E q.s }) G.at_ hc a1 o1 l1 hlw hl2 hl3' ap)
    have h0 := G.blk 0 rfl; try have h1 := G.blk 1 rfl; try have h2 := G.blk 2 rfl; try have h3 := G.blk 3 rfl; try have h4 := G.blk 4 rfl; try have h5 := G.blk 5 rfl
    (repeat refine Zlr ?_)
    refine s_st (vs := [.slice a9 (q.s.ex.length + 1) c9]) rfl rfl rfl rfl rfl h3 (Nat.le_of_ble_eq_true rfl) (fun w s => ?_)
    have s : Sb _ b (qc X { q with s := { q.s with ex := q.s.ex ++ [{ x with f := fr, e := pe X.E q.s }] }, x := ⟨a9, q.s.ex.length + 1, c9⟩ }) _ w := s
    have G := G.put 3 rfl s rfl
    have h0 := G.blk 0 rfl; try have h1 := G.blk 1 rfl; try have h2 := G.blk 2 rfl; try have h3 := G.blk 3 rfl; try have h4 := G.blk 4 rfl; try have h5 := G.blk 5 rfl
    generalize hq' : ({ q with s := { q.s with ex := q.s.ex ++ [{ x with f := fr, e := pe X.E q.s }] }, x := ⟨a9, q.s.ex.length + 1, c9⟩ } : Q) = q' at G h0 h1 h2 h3
    have hx' : q'.x.n = q.s.ex.length + 1 ∧ q'.s = { q.s with ex := q.s.ex ++ [{ x with f := fr, e := pe X.E q.s }] } ∧ q'.c = 0 := by rw [← hq']; exact ⟨rfl, rfl, hc⟩
    have hb3 : b ≠ b3 := fun e => by
      have := G.nd 3 1 b _ _ _ _ rfl (by rw [e]; rfl)
      omega
    (repeat refine Zlr ?_)
    refine k_h (fun w' => Kp (fun i => i = b3) w w') [(0, false), (1, false), (2, false), (3, false), (4, false), (5, false), (6, true), (7, false)] 8 (by kernel_rfl) (waits_none) (by kernel_rfl) (by kernel_rfl) (by kernel_rfl) rfl (fun w4 k4 q4 => ?_)
    have k4' : Kp (fun i => i = b3) w w4 := k4.mono fun _ _ h => h.elim
    have G0 := G
    have G := G.no k4
    have h0 := G.blk 0 rfl; try have h1 := G.blk 1 rfl; try have h2 := G.blk 2 rfl; try have h3 := G.blk 3 rfl; try have h4 := G.blk 4 rfl; try have h5 := G.blk 5 rfl
    have hxn := hx'.1
    have hd := fun (w' : World) (hw : Kp (fun i => i = b3) _ w') => hw.get (G0.blk 3 rfl) (fun e => hb3 e)
    refine h_v k4' (fun w' hw => r_ldw rfl (hd w' hw) rfl rfl) ?_
    refine h_v k4' (fun w' hw => r_fa rfl rfl) ?_
    refine h_v k4' (fun w' hw => r_fa rfl rfl) ?_
    refine h_v k4' (fun w' hw => r_ld rfl rfl (cell_of_blk (hd w' hw) rfl)) ?_
    refine h_v k4' (fun w' hw => r_len rfl) ?_
    refine h_v k4' (fun w' hw => r_sub rfl rfl (by omega)) ?_
    refine h_st (vs := qc X q') rfl rfl rfl rfl rfl h1 (Nat.le_of_ble_eq_true rfl) (fun w5 s5 => ⟨fun _ => k4'.trans s5.kp fun _ _ h => h, ?_⟩)
    have s5 : Sb _ b3 (qc X q') _ w5 := s5
    have G := G.put 1 rfl s5 rfl
    have h0 := G.blk 0 rfl; try have h1 := G.blk 1 rfl; try have h2 := G.blk 2 rfl; try have h3 := G.blk 3 rfl; try have h4 := G.blk 4 rfl; try have h5 := G.blk 5 rfl
    have k5' : Kp (fun i => i = b3) _ w5 := k4'.trans s5.kp fun _ _ h => h
    refine h_v k5' (fun w' hw => r_as rfl) ?_
    refine h_nil ?_
    (repeat refine Zlr ?_)
    refine ret_c2 rfl (rv_agw rfl h1 rfl rfl) (rv_t rfl) ⟨q', _, rfl, G.sg, ?_⟩
    rw [stt_c hc, bind_ok]
    exact ⟨hx'.2.2, hx'.2.1, by rw [hxn]; show (q.s.ex.length : Int) = _; omega⟩
  · refine c_t (by show Value.bool (q.c != 0) = _; rw [bne_iff_ne.2 hc]) ?_
    (repeat refine Zlr ?_)
    refine s_stw (vs := qc X q) rfl rfl rfl rfl rfl h0 rfl (fun w6 s6 => ?_)
    have G := G.put 0 rfl s6 rfl
    have h0 := G.blk 0 rfl; try have h1 := G.blk 1 rfl; try have h2 := G.blk 2 rfl; try have h3 := G.blk 3 rfl; try have h4 := G.blk 4 rfl; try have h5 := G.blk 5 rfl
    (repeat refine Zlr ?_)
    exact ret_c2 rfl (rv_agw rfl h0 rfl rfl) (rv_t rfl) ⟨q, 0, rfl, G.sg, by rw [stt_e hc]; exact hc⟩
set_option maxHeartbeats 1000000 in
theorem addF (h : Aq X w q) (fr : Int) (x : St) (la ma : Option Addr) (ln lc mn mc : Nat) (hl : q.c = 0 → (LI w (.slice la ln lc) x.th ∧ Ow q.V (.slice la ln lc)) ∧ (LI w (.slice ma mn mc) x.el ∧ Ow q.V (.slice ma mn mc)) ∧ 1 ≤ q.s.i) :
    Ret Try.prog 90 [qv X q, .int .i64 fr, .agg (stC (x, .slice la ln lc, .slice ma mn mc)).toArray] w (RecS X w q ((stt q).bind fun _ s => Sy.add X.E fr x s)) := by
  have hsm := h.small
  have hlt := h.lt
  refine ret_enter Try.func90 rfl Try.ntmps90 rfl ?_
  (repeat refine Zlr ?_)
  refine s_box (cs := qc X q) rfl rfl (fun b w n => ?_)
  have G := (Wb.start h).new n
  (repeat refine Zlr ?_)
  refine s_box (cs := stC (x, .slice la ln lc, .slice ma mn mc)) rfl rfl (fun b2 w n2 => ?_)
  have G := G.new n2
  (repeat refine Zlr ?_)
  refine s_al rfl (fun b3 w n3 => ?_)
  have G := G.new n3
  have k3 := (n.kp.no n2.kp).no n3.kp
  have h0 := G.blk 0 rfl; try have h1 := G.blk 1 rfl; try have h2 := G.blk 2 rfl; try have h3 := G.blk 3 rfl; try have h4 := G.blk 4 rfl; try have h5 := G.blk 5 rfl
  (repeat refine Zlr ?_)
  by_cases hc : q.c = 0
  · obtain ⟨⟨hl1, hl2⟩, ⟨hm1, hm2⟩, hl3⟩ := hl hc
    obtain ⟨_, hny, _⟩ := (G.at_.gd hc).ny
    refine s_set 11 true rfl (beq_iff_eq.2 hc) ?_
    (repeat (first | refine Zlr ?_ | refine Zn ?_ | refine Zu ?_ | refine Zg ?_ | refine Zgl ?_))
    refine c_dec rfl (fun hge => ?_) (fun hlt' => ?_)
    · have hge : 1000 ≤ q.s.st.length := by omega
      (repeat refine Zlr ?_)
      refine s_call (us := []) (zs := []) (by kernel_rfl) rfl rfl (failF 5 G.at_) ?_
      rintro _ w ⟨rfl, k4⟩
      have G := G.no k4
      have h0 := G.blk 0 rfl; try have h1 := G.blk 1 rfl; try have h2 := G.blk 2 rfl; try have h3 := G.blk 3 rfl; try have h4 := G.blk 4 rfl; try have h5 := G.blk 5 rfl
      (repeat refine Zlr ?_)
      refine s_stw (vs := qc X (failQ X 5 q)) rfl rfl rfl rfl rfl h2 rfl (fun w6 s6 => ?_)
      have G := G.put 2 rfl s6 rfl
      have h0 := G.blk 0 rfl; try have h1 := G.blk 1 rfl; try have h2 := G.blk 2 rfl; try have h3 := G.blk 3 rfl; try have h4 := G.blk 4 rfl; try have h5 := G.blk 5 rfl
      (repeat refine Zlr ?_)
      have hc' : (failQ X 5 q).c ≠ 0 := failQ_c (by decide)
      refine c_t (by show Value.bool ((failQ X 5 q).c != 0) = _; rw [bne_iff_ne.2 hc']) ?_
      (repeat refine Zlr ?_)
      refine s_stw (vs := qc X (failQ X 5 q)) rfl rfl rfl rfl rfl h0 rfl (fun w6 s6 => ?_)
      have G := G.put 0 rfl s6 rfl
      have h0 := G.blk 0 rfl; try have h1 := G.blk 1 rfl; try have h2 := G.blk 2 rfl; try have h3 := G.blk 3 rfl; try have h4 := G.blk 4 rfl; try have h5 := G.blk 5 rfl
      (repeat refine Zlr ?_)
      refine ret_c2 rfl (rv_agw rfl h0 rfl rfl) (rv_t rfl) ⟨failQ X 5 q, 0, rfl, G.sg.call (Sg.fail G.at_ (by decide)), ?_⟩
      rw [stt_c hc, bind_ok, Sy.add, if_pos hge]; exact hc'
    · have hst : q.s.st.length + 1 ≤ 1000 := by omega
      (repeat refine Zlr ?_)
      refine c_f (by show Value.bool (q.c != 0) = _; rw [bne_eq_false_iff_eq.2 hc]) ?_
      obtain ⟨t, ht, e1⟩ := h.prev (by omega)
      obtain ⟨c1, c2, c3⟩ := G.at_.tokens _ _ ht
      rw [show ((q.s.i - 1 : Nat) : Int) = (q.s.i : Int) - 1 by omega] at c1 c2 c3
      (repeat refine Zlr ?_)
      refine s_v (r_ia rfl rfl rfl rfl (by omega) (by omega)) ?_
      (repeat refine Zlr ?_)
      rw [← e1]
      refine s_st (vs := [.int .i64 fr, .int .i64 (pe X.E q.s)]) rfl rfl rfl rfl rfl h1 (Nat.le_of_ble_eq_true rfl) (fun w s => ?_)
      have s : Sb _ b2 (stC ({ x with f := fr, e := pe X.E q.s }, .slice la ln lc, .slice ma mn mc)) _ w := s
      have G := G.put 1 rfl s rfl
      have h0 := G.blk 0 rfl; try have h1 := G.blk 1 rfl; try have h2 := G.blk 2 rfl; try have h3 := G.blk 3 rfl; try have h4 := G.blk 4 rfl; try have h5 := G.blk 5 rfl
      (repeat refine Zlr ?_)
      refine s_bs (cs := stC ({ x with f := fr, e := pe X.E q.s }, .slice la ln lc, .slice ma mn mc)) (e := 86) rfl (fun b4 w n4 => ?_)
      have G := G.new n4
      have h0 := G.blk 0 rfl; try have h1 := G.blk 1 rfl; try have h2 := G.blk 2 rfl; try have h3 := G.blk 3 rfl; try have h4 := G.blk 4 rfl; try have h5 := G.blk 5 rfl
      obtain ⟨rx, a1, o1, l1⟩ := (G.at_.gd hc).ss
      have hlw := own_gs h G.sg.gs.kp hl1 rfl
      have hmw := own_gs h G.sg.gs.kp hm1 rfl
      (repeat refine Zlr ?_)
      refine s_app (v0 := q.y.v) (k := q.s.st.length) (m := 1) (size := 9) (bytes := 112) (base := 0) (xs := rx.flatMap stC) (news := stC ({ x with f := fr, e := pe X.E q.s }, .slice la ln lc, .slice ma mn mc)) rfl rfl rfl rfl rfl rfl rfl rfl o1 rfl (blk_cells h0) rfl rfl (by omega) (by omega) (Nat.zero_le _) ?_
      intro v w ap
      obtain ⟨a9, c9, e9, _⟩ := own_read ap.own
      subst e9
      have G := G.call (Sg.puty (x := { x with f := fr, e := pe X.E q.s }) G.at_ hc a1 o1 l1 hlw hl2 hmw hm2 hst ap)
      have h0 := G.blk 0 rfl; try have h1 := G.blk 1 rfl; try have h2 := G.blk 2 rfl; try have h3 := G.blk 3 rfl; try have h4 := G.blk 4 rfl; try have h5 := G.blk 5 rfl
      (repeat refine Zlr ?_)
      refine s_st (vs := [.slice a9 (q.s.st.length + 1) c9]) rfl rfl rfl rfl rfl h3 (Nat.le_of_ble_eq_true rfl) (fun w s => ?_)
      have s : Sb _ b (qc X { q with s := { q.s with st := q.s.st ++ [{ x with f := fr, e := pe X.E q.s }] }, y := ⟨a9, q.s.st.length + 1, c9⟩ }) _ w := s
      have G := G.put 3 rfl s rfl
      have h0 := G.blk 0 rfl; try have h1 := G.blk 1 rfl; try have h2 := G.blk 2 rfl; try have h3 := G.blk 3 rfl; try have h4 := G.blk 4 rfl; try have h5 := G.blk 5 rfl
      generalize hq' : ({ q with s := { q.s with st := q.s.st ++ [{ x with f := fr, e := pe X.E q.s }] }, y := ⟨a9, q.s.st.length + 1, c9⟩ } : Q) = q' at G h0 h1 h2 h3
      have hx' : q'.y.n = q.s.st.length + 1 ∧ q'.s = { q.s with st := q.s.st ++ [{ x with f := fr, e := pe X.E q.s }] } ∧ q'.c = 0 := by rw [← hq']; exact ⟨rfl, rfl, hc⟩
      have hb3 : b ≠ b3 := fun e => by
        have := G.nd 3 1 b _ _ _ _ rfl (by rw [e]; rfl)
        omega
      (repeat refine Zlr ?_)
      refine k_h (fun w' => Kp (fun i => i = b3) w w') [(0, false), (1, false), (2, false), (3, false), (4, false), (5, false), (6, true), (7, false)] 8 (by kernel_rfl) (waits_none) (by kernel_rfl) (by kernel_rfl) (by kernel_rfl) rfl (fun w4 k4 q4 => ?_)
      have k4' : Kp (fun i => i = b3) w w4 := k4.mono fun _ _ h => h.elim
      have G0 := G
      have G := G.no k4
      have h0 := G.blk 0 rfl; try have h1 := G.blk 1 rfl; try have h2 := G.blk 2 rfl; try have h3 := G.blk 3 rfl; try have h4 := G.blk 4 rfl; try have h5 := G.blk 5 rfl
      have hxn := hx'.1
      have hd := fun (w' : World) (hw : Kp (fun i => i = b3) _ w') => hw.get (G0.blk 3 rfl) (fun e => hb3 e)
      refine h_v k4' (fun w' hw => r_ldw rfl (hd w' hw) rfl rfl) ?_
      refine h_v k4' (fun w' hw => r_fa rfl rfl) ?_
      refine h_v k4' (fun w' hw => r_fa rfl rfl) ?_
      refine h_v k4' (fun w' hw => r_ld rfl rfl (cell_of_blk (hd w' hw) rfl)) ?_
      refine h_v k4' (fun w' hw => r_len rfl) ?_
      refine h_v k4' (fun w' hw => r_sub rfl rfl (by omega)) ?_
      refine h_st (vs := qc X q') rfl rfl rfl rfl rfl h1 (Nat.le_of_ble_eq_true rfl) (fun w5 s5 => ⟨fun _ => k4'.trans s5.kp fun _ _ h => h, ?_⟩)
      have s5 : Sb _ b3 (qc X q') _ w5 := s5
      have G := G.put 1 rfl s5 rfl
      have h0 := G.blk 0 rfl; try have h1 := G.blk 1 rfl; try have h2 := G.blk 2 rfl; try have h3 := G.blk 3 rfl; try have h4 := G.blk 4 rfl; try have h5 := G.blk 5 rfl
      have k5' : Kp (fun i => i = b3) _ w5 := k4'.trans s5.kp fun _ _ h => h
      refine h_v k5' (fun w' hw => r_as rfl) ?_
      refine h_nil ?_
      (repeat refine Zlr ?_)
      refine ret_c2 rfl (rv_agw rfl h1 rfl rfl) (rv_t rfl) ⟨q', _, rfl, G.sg, ?_⟩
      rw [stt_c hc, bind_ok, Sy.add, if_neg (by omega)]
      exact ⟨hx'.2.2, hx'.2.1, by rw [hxn]; show (q.s.st.length : Int) = _; omega⟩
  · refine s_set 11 false rfl (beq_eq_false_iff_ne.2 hc) ?_
    (repeat (first | refine Zlr ?_ | refine Zn ?_ | refine Zu ?_ | refine Zg ?_ | refine Zgl ?_))
    refine c_f rfl ?_
    (repeat refine Zlr ?_)
    refine c_t (by show Value.bool (q.c != 0) = _; rw [bne_iff_ne.2 hc]) ?_
    (repeat refine Zlr ?_)
    refine s_stw (vs := qc X q) rfl rfl rfl rfl rfl h0 rfl (fun w6 s6 => ?_)
    have G := G.put 0 rfl s6 rfl
    have h0 := G.blk 0 rfl; try have h1 := G.blk 1 rfl; try have h2 := G.blk 2 rfl; try have h3 := G.blk 3 rfl; try have h4 := G.blk 4 rfl; try have h5 := G.blk 5 rfl
    (repeat refine Zlr ?_)
    exact ret_c2 rfl (rv_agw rfl h0 rfl rfl) (rv_t rfl) ⟨q, 0, rfl, G.sg, by rw [stt_e hc]; exact hc⟩
end
end Go.Proofs.Ytkllhfajldnpoaa.Rf
namespace Go.Proofs.Ytkllhfajldnpoaa.Rf
open Go Go.RowKit Fw Sy
set_option linter.unusedVariables false
set_option maxRecDepth 20000
/-- A part, from a state on. -/
def On {α : Type} (q : Q) (g : PS → Rs α) : Rs α := (stt q).bind fun _ s => g s
section
variable {α β : Type} {q q1 q2 q' : Q} {g : PS → Rs α} {a : α} {b : β}
theorem On_c (h : q.c = 0) : On q g = g q.s := by rw [On, stt_c h, bind_ok]
theorem On_e (h : q.c ≠ 0) : On q g = .er q.c q.p := by rw [On, stt_e h, bind_er]
theorem On_ne (h : q.c = 0 → g q.s ≠ .out) : On q g ≠ .out := by
  by_cases hc : q.c = 0
  · rw [On_c hc]; exact h hc
  · rw [On_e hc]; exact fun e => by cases e
theorem Res.on (h : Res (On q g) q' a) (hc : q.c = 0) : Res (g q.s) q' a := by rw [On_c hc] at h; exact h
theorem Res.on_er (h : Res (On q g) q' a) (hc : q.c ≠ 0) : q'.c ≠ 0 := by rw [On_e hc] at h; exact h
theorem Res.up (h : Res (On q g) q' a) (hc : q'.c = 0) : q.c = 0 ∧ g q.s = .ok a q'.s := by
  by_cases h1 : q.c = 0
  · exact ⟨h1, (h.on h1).ok hc⟩
  · exact (h.on_er h1 hc).elim
theorem Res.next {r : Rs α} {f : α → PS → Rs β} (h : Res r q1 a) (hr : r.bind f ≠ .out) (hc : q1.c = 0) : f a q1.s ≠ .out := by
  rw [h.ok hc, bind_ok] at hr; exact hr
theorem Res.of_c (hc : q.c = 0) (h : Res (g q.s) q' a) : Res (On q g) q' a := by rw [On_c hc]; exact h
theorem Res.of_er (hc : q.c ≠ 0) (h : q'.c ≠ 0) : Res (On q g) q' a := by rw [On_e hc]; exact h
end
section
variable {X : Cr} {w : World} {q : Q}
theorem want_res (y : List Int) (hc : q.c = 0) : Res (Sy.want X.E y q.s) (wantQ X y q) () := by
  have h : Res (Rf.stt (wantQ X y q)) (wantQ X y q) () := Res.stt
  rw [stt_want, stt_c hc, bind_ok] at h
  exact h
theorem want_er {y : List Int} (h : q.c ≠ 0) : wantQ X y q = q := by rw [wantQ, if_neg (fun e => h e.1), failQ_er h]
theorem want_yes {y : List Int} (hc : q.c = 0) (h : wd X.E q.s = y) : wantQ X y q = { q with s := adv q.s } := if_pos ⟨hc, h⟩
theorem want_c {y : List Int} (h : (wantQ X y q).c = 0) : q.c = 0 ∧ wd X.E q.s = y ∧ wantQ X y q = { q with s := adv q.s } := by
  by_cases e : q.c = 0 ∧ wd X.E q.s = y
  · exact ⟨e.1, e.2, if_pos e⟩
  · rw [wantQ, if_neg e] at h; exact (failQ_c (by decide) h).elim
theorem kind_res (k : Int) (hc : q.c = 0) : Res (knd X.E k q.s) (kindQ X k q) (kindW X k q) := by
  have h := Res.kind (X := X) (q := q) (k := k) trivial
  rw [stt_c hc, bind_ok] at h
  exact h
theorem kind_er {k : Int} (h : q.c ≠ 0) : kindQ X k q = q ∧ kindW X k q = [] := ⟨by rw [kindQ, if_neg (fun e => h e.1), failQ_er h], if_neg fun e => h e.1⟩
theorem kind_c {k : Int} (h : (kindQ X k q).c = 0) : q.c = 0 ∧ kd X.E q.s = k ∧ kindQ X k q = { q with s := adv q.s } ∧ kindW X k q = wd X.E q.s := by
  by_cases e : q.c = 0 ∧ kd X.E q.s = k
  · exact ⟨e.1, e.2, if_pos e, if_pos e⟩
  · rw [kindQ, if_neg e] at h; exact (failQ_c (by decide) h).elim
theorem deep_res (d : Int) (hc : q.c = 0) : Res (Sy.deep X.E d q.s) (deepQ X d q) () := by
  have h : Res (Rf.stt (deepQ X d q)) (deepQ X d q) () := Res.stt
  rw [stt_deep, stt_c hc, bind_ok] at h
  exact h
theorem deep_er {d : Int} (h : q.c ≠ 0) : deepQ X d q = q := by
  rw [deepQ]; split
  · exact failQ_er h
  · rfl
theorem deep_c {d : Int} (h : (deepQ X d q).c = 0) : q.c = 0 ∧ d ≤ 64 ∧ deepQ X d q = q := by
  by_cases e : 64 < d
  · rw [deepQ, if_pos e] at h; exact (failQ_c (by decide) h).elim
  · have e1 : deepQ X d q = q := if_neg e
    rw [e1] at h
    exact ⟨h, by omega, e1⟩
theorem is_yes {y : List Int} (h : isQ X y q = true) : q.c = 0 ∧ wd X.E q.s = y := of_decide_eq_true h
theorem is_no {y : List Int} (h : isQ X y q = false) (hc : q.c = 0) : wd X.E q.s ≠ y := fun e => of_decide_eq_false h ⟨hc, e⟩
end
/-- Calls of small functions in a region that goes on. -/
structure Wk (X : Cr) (L : Lv) : Prop where
  row : ∀ (v : Nat) (d : Int) (q : Q) (w : World), v ≤ 5 → 0 ≤ d ∧ d ≤ 64 → Aq X w q → On q (L.row v d) ≠ .out → Ret Try.prog 98 [qv X q, .int .i64 (v : Int), .int .i64 d] w (RecS X w q (On q (L.row v d)))
  expr : ∀ (d : Int) (q : Q) (w : World), 0 ≤ d ∧ d ≤ 65 → Aq X w q → On q (L.expr d) ≠ .out → Ret Try.prog 89 [qv X q, .int .i64 d] w (RecS X w q (On q (L.expr d)))
  unary : ∀ (d : Int) (q : Q) (w : World), 0 ≤ d ∧ d ≤ 64 → Aq X w q → On q (L.unary d) ≠ .out → Ret Try.prog 101 [qv X q, .int .i64 d] w (RecS X w q (On q (L.unary d)))
  prim : ∀ (d : Int) (q : Q) (w : World), 0 ≤ d ∧ d ≤ 64 → Aq X w q → On q (L.prim d) ≠ .out → Ret Try.prog 103 [qv X q, .int .i64 d] w (RecS X w q (On q (L.prim d)))
  stmt : ∀ (d : Int) (q : Q) (w : World), 0 ≤ d ∧ d ≤ 64 → Aq X w q → On q (L.stmt d) ≠ .out → Ret Try.prog 75 [qv X q, .int .i64 d] w (RecS X w q (On q (L.stmt d)))
  branch : ∀ (fr d : Int) (q : Q) (w : World), 0 ≤ d ∧ d ≤ 65 → (q.c = 0 → d ≤ 64) → Aq X w q → On q (L.branch fr d) ≠ .out → Ret Try.prog 88 [qv X q, .int .i64 fr, .int .i64 d] w (RecS X w q (On q (L.branch fr d)))
def signQ (X : Cr) (v : Nat) (q : Q) : List Int := if q.c = 0 ∧ wd X.E q.s ∈ sgs v then wd X.E q.s else []
section
variable {X : Cr} {w : World} {q : Q} {L : Lv}
theorem signsF (v : Nat) (hv : v < 5) (w : World) : Ret Try.prog 104 [.int .i64 (v : Int)] w fun u w1 => ∃ b, u = .slice (some ⟨b, 0, none⟩) (sgB v).length (sgB v).length ∧ Nb w b ((sgB v).map Value.string) 9 w1 := by
  refine ret_enter Try.func104 rfl Try.ntmps104 rfl ?_
  (repeat refine Zlr ?_)
  match v, hv with
  | 0, _ =>
    refine c_t rfl ?_
    (repeat refine Zlr ?_)
    refine s_bs (cs := (sgB 0).map Value.string) (e := 9) rfl (fun b w n => ?_)
    (repeat refine Zlr ?_)
    exact ret_1 rfl rfl ⟨b, rfl, n⟩
  | 1, _ =>
    refine c_f rfl ?_
    (repeat refine Zlr ?_)
    refine c_t rfl ?_
    (repeat refine Zlr ?_)
    refine s_bs (cs := (sgB 1).map Value.string) (e := 9) rfl (fun b w n => ?_)
    (repeat refine Zlr ?_)
    exact ret_1 rfl rfl ⟨b, rfl, n⟩
  | 2, _ =>
    refine c_f rfl ?_
    (repeat refine Zlr ?_)
    refine c_f rfl ?_
    (repeat refine Zlr ?_)
    refine c_t rfl ?_
    (repeat refine Zlr ?_)
    refine s_bs (cs := (sgB 2).map Value.string) (e := 9) rfl (fun b w n => ?_)
    (repeat refine Zlr ?_)
    exact ret_1 rfl rfl ⟨b, rfl, n⟩
  | 3, _ =>
    refine c_f rfl ?_
    (repeat refine Zlr ?_)
    refine c_f rfl ?_
    (repeat refine Zlr ?_)
    refine c_f rfl ?_
    (repeat refine Zlr ?_)
    refine c_t rfl ?_
    (repeat refine Zlr ?_)
    refine s_bs (cs := (sgB 3).map Value.string) (e := 9) rfl (fun b w n => ?_)
    (repeat refine Zlr ?_)
    exact ret_1 rfl rfl ⟨b, rfl, n⟩
  | 4, _ =>
    refine c_f rfl ?_
    (repeat refine Zlr ?_)
    refine c_f rfl ?_
    (repeat refine Zlr ?_)
    refine c_f rfl ?_
    (repeat refine Zlr ?_)
    refine c_f rfl ?_
    (repeat refine Zlr ?_)
    refine s_bs (cs := (sgB 4).map Value.string) (e := 9) rfl (fun b w n => ?_)
    (repeat refine Zlr ?_)
    exact ret_1 rfl rfl ⟨b, rfl, n⟩
theorem signF (h : Aq X w q) (v : Nat) (hv : v < 5) : Ret Try.prog 102 [qv X q, .int .i64 (v : Int)] w fun u w1 => u = sv (signQ X v q) ∧ Kp No w w1 := by
  have hm := sgB_B v hv
  have hne := sgB_ne hv
  have hln := sgB_len hv
  refine ret_enter Try.func102 rfl Try.ntmps102 rfl ?_
  (repeat refine Zlr ?_)
  refine s_box (cs := qc X q) rfl rfl (fun b w1 n => ?_)
  have G := (Wb.start h).new n
  (repeat refine Zlr ?_)
  refine s_call (us := []) (zs := []) (by kernel_rfl) rfl rfl (signsF v hv w1) ?_
  rintro _ w2 ⟨lb, rfl, n2⟩
  have G := G.no n2.kp
  have k2 := n.kp.no n2.kp
  (repeat refine Zlr ?_)
  refine k_loop (σ := Nat) (fun i => [(2, .pointer (some ⟨b, 0, none⟩)), (5, .slice (some ⟨lb, 0, none⟩) (sgB v).length (sgB v).length), (10, .int .i64 ((sgB v).length : Int)), (11, .int .i64 (i : Int))])
    (fun i w' => i ≤ (sgB v).length ∧ Wb X w q w' q [(b, qc X q, Tp)] ∧ w'.heap[lb]? = some (.cells ((sgB v).map Value.string).toArray 9 (0, 0)) ∧ Kp No w w' ∧ ∀ (j : Nat) y, j < i → (sgB v)[j]? = some y → isQ X (B y) q = false) (fun i => (sgB v).length - i) 0 ⟨rfl, rfl, rfl, rfl, trivial⟩ ⟨Nat.zero_le _, G, n2.blk, k2, fun j y hj => by omega⟩ ?_
  rintro i l w3 ⟨hi, G, hl3, k3, hno⟩
  clear k2 n2
  have h0 := G.blk 0 rfl; try have h1 := G.blk 1 rfl; try have h2 := G.blk 2 rfl; try have h3 := G.blk 3 rfl; try have h4 := G.blk 4 rfl; try have h5 := G.blk 5 rfl
  (repeat refine Zlr ?_)
  refine c_dec rfl (fun hlt => ?_) (fun hge => ?_)
  · have hlt : i < (sgB v).length := by omega
    obtain ⟨y, hy⟩ : ∃ y, (sgB v)[i]? = some y := ⟨_, List.getElem?_eq_getElem hlt⟩
    have hyne : B y ≠ [] := fun e => hne (by rw [← e]; exact List.mem_map_of_mem (List.mem_of_getElem? hy))
    have hcell : ∀ w', Kp No w3 w' → w'.cell? ⟨lb, 0 + (i : Int).toNat * 1, none⟩ = some (.string y) := fun w' hw => by
      refine cell_of_blk (hw.get0 hl3) ?_
      rw [List.getElem?_map, show 0 + (i : Int).toNat * 1 = i by omega, hy]; rfl
    (repeat refine Zlr ?_)
    refine k_q (by kernel_rfl) (by kernel_rfl) ?_
    refine q_v (fun w' hw => r_ldw rfl (hw.get0 h0) rfl rfl) ?_
    (repeat (first | refine Zq ?_ | refine Zqn ?_ | refine Zqu ?_ | refine Zqg ?_))
    refine q_v (fun w' hw => r_ld rfl rfl (hcell w' hw)) ?_
    refine q_call (us := []) (zs := []) (v := .bool (isQ X (B y) q)) (by kernel_rfl) rfl rfl (fun w' hw => (isF (G.at_.no hw) y hyne).mono (by rintro _ w4 ⟨rfl, k4⟩; exact ⟨rfl, hw.no k4⟩)) ?_
    refine q_nil (fun w4 k4 => ?_)
    have G := G.no k4
    have hl4 := k4.get0 hl3
    have k4 := k3.no k4
    (repeat refine Zlr ?_)
    refine c_b rfl (fun hb => ?_) (fun hb => ?_)
    · have hc4 : w4.cell? ⟨lb, 0 + (i : Int).toNat * 1, none⟩ = some (.string y) := by
        refine cell_of_blk hl4 ?_
        rw [List.getElem?_map, show 0 + (i : Int).toNat * 1 = i by omega, hy]; rfl
      (repeat refine Zlr ?_)
      refine s_v (r_ia rfl rfl rfl rfl (by omega) (by omega)) ?_
      (repeat refine Zlr ?_)
      obtain ⟨hc, hw⟩ := is_yes hb
      refine ret_1 rfl rfl ⟨?_, k4⟩
      rw [signQ, if_pos ⟨hc, by rw [hw, ← hm]; exact List.mem_map_of_mem (List.mem_of_getElem? hy)⟩, hw, sv_B]
    · (repeat refine Zlr ?_)
      exact l_next (i + 1) ⟨rfl, rfl, rfl, rfl, trivial⟩ ⟨hlt, G, hl4, k4, fun j z hj hz => by
        rcases Nat.lt_or_ge j i with h1 | h1
        · exact hno j z h1 hz
        · have : j = i := by omega
          subst this
          rw [hy] at hz; cases hz
          exact hb⟩ (by omega)
  · (repeat refine Zlr ?_)
    refine ret_1 rfl rfl ⟨?_, k3⟩
    rw [signQ, if_neg]
    · rfl
    · rintro ⟨hc, hw⟩
      rw [← hm] at hw
      obtain ⟨y, hy, e⟩ := List.mem_map.1 hw
      obtain ⟨j, hj⟩ := List.getElem?_of_mem hy
      have hjl := (List.getElem?_eq_some_iff.1 hj).1
      exact is_no (hno j y (by omega) hj) hc e.symm
end
end Go.Proofs.Ytkllhfajldnpoaa.Rf
