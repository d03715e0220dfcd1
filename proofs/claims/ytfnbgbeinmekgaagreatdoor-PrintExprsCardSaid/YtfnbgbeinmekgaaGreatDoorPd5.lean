/- What the proofs of this seat lean on, part 5. -/
import Derived.Test.YtfnbgbeinmekgaaGreatDoorPd4
import Derived.Test.YtfnbgbeinmekgaaGreatDoorChecked
namespace Go.Proofs.YtfnbgbeinmekgaaGreatDoor.Sy
open Go Go.RowKit Fw
set_option linter.unusedVariables false
abbrev nilS : Value := .slice none 0 0
def sv (p : List Int) : Value := .string (strOfNums p)
theorem sv_B (s : ByteArray) : sv (B s) = .string s := by
  rw [sv]; congr 1; exact B_inj (B_nums fun c hc => B_range hc)
/-- The slices of what was put; the blocks of the lists in it. -/
structure VS where
  x : Value
  s : Value
  f : Value
  o : Nat → Prop
def exC (r : Ex × Value) : List Value := [.int .i64 r.1.k, .int .i64 r.1.f, .int .i64 r.1.e, .int .i64 r.1.n, sv r.1.nm, sv r.1.op, .int .i64 r.1.a, .int .i64 r.1.b, r.2]
def stC (r : St × Value × Value) : List Value := [.int .i64 r.1.k, .int .i64 r.1.f, .int .i64 r.1.e, sv r.1.nm, .int .i64 r.1.n, .int .i64 r.1.a, .int .i64 r.1.b, r.2.1, r.2.2]
def fnC (r : Fn × Value × Value) : List Value := [sv r.1.nm, .int .i64 r.1.f, .int .i64 r.1.e, r.2.1, .int .i64 r.1.ty, r.2.2]
/-- A list of numbers, a list of texts. -/
def LI (w : World) (v : Value) (l : List Int) : Prop := w.ownsRow 0 3 1 v l.length (l.map (Value.int .i64))
def LS (w : World) (v : Value) (l : List (List Int)) : Prop := w.ownsRow 0 9 1 v l.length (l.map sv)
/-- The list's block is one of ours. -/
def Ow (V : VS) (v : Value) : Prop := ∀ g, v.ownBlock = some g → V.o g
def RX (w : World) (V : VS) (l : List Ex) : Prop := ∃ rx : List (Ex × Value), rx.map Prod.fst = l ∧ w.ownsRow 0 67 9 V.x l.length (rx.flatMap exC) ∧ ∀ r ∈ rx, LI w r.2 r.1.l ∧ Ow V r.2
def RS (w : World) (V : VS) (l : List St) : Prop := ∃ rx : List (St × Value × Value), rx.map Prod.fst = l ∧ w.ownsRow 0 42 9 V.s l.length (rx.flatMap stC) ∧ ∀ r ∈ rx, (LI w r.2.1 r.1.th ∧ Ow V r.2.1) ∧ LI w r.2.2 r.1.el ∧ Ow V r.2.2
def RF (w : World) (V : VS) (l : List Fn) : Prop := ∃ rx : List (Fn × Value × Value), rx.map Prod.fst = l ∧ w.ownsRow 0 62 6 V.f l.length (rx.flatMap fnC) ∧ ∀ r ∈ rx, (LS w r.2.1 r.1.ps ∧ Ow V r.2.1) ∧ LI w r.2.2 r.1.bd ∧ Ow V r.2.2
theorem own_ty {w : World} {base : Nat} {e : TypeId} {size : Nat} {v : Value} {n : Nat} {cs : List Value} (h : w.ownsRow base e size v n cs) {g : Nat} (hg : v.ownBlock = some g) : ∃ cur, w.heap[g]? = some (.cells cur e (0, 0)) := by
  obtain ⟨_, h⟩ := h
  rcases h with ⟨rfl, _⟩ | ⟨g', cap, cur, rfl, _, hb, _⟩
  · cases hg
  · cases hg; exact ⟨cur, hb⟩
theorem ty_ne {w : World} {g b : Nat} {cur cur' : Array Value} {e e' : TypeId} {fz fz' : Nat × Nat} (h : w.heap[g]? = some (.cells cur e fz)) (h' : w.heap[b]? = some (.cells cur' e' fz')) (he : Nat.beq e e' = false) : g ≠ b := by
  rintro rfl
  rw [h] at h'
  cases h'
  simp at he
/-- A list's value. -/
theorem LI.val {w : World} {v : Value} {l : List Int} (h : LI w v l) : ∃ a c, v = .slice a l.length c := by
  obtain ⟨a, c, e, _⟩ := own_read h
  exact ⟨a, c, e⟩
theorem LS.val {w : World} {v : Value} {l : List (List Int)} (h : LS w v l) : ∃ a c, v = .slice a l.length c := by
  obtain ⟨a, c, e, _⟩ := own_read h
  exact ⟨a, c, e⟩
theorem Ow.nil {V : VS} : Ow V (.slice none 0 0) := fun g hg => by cases hg
theorem LI.nil {w : World} : LI w (.slice none 0 0) [] := ⟨rfl, .inl ⟨rfl, rfl⟩⟩
/-- A row that was just made. -/
theorem own_new {w w1 : World} {b : Nat} {e : TypeId} {cs : List Value} (h : Nb w b cs e w1) (hl : cs.length ≤ maxLen) : w1.ownsRow 0 e 1 (.slice (some ⟨b, 0, none⟩) cs.length cs.length) cs.length cs :=
  ⟨by simp, .inr ⟨b, cs.length, cs.toArray, rfl, Nat.zero_le _, h.blk, Nat.le_refl _, hl, by simp, by simp⟩⟩
/-- A program in memory. -/
def Tr (w : World) (ux us uf : Value) (S : PS) : Prop := RX w ⟨ux, us, uf, fun _ => True⟩ S.ex ∧ RS w ⟨ux, us, uf, fun _ => True⟩ S.st ∧ RF w ⟨ux, us, uf, fun _ => True⟩ S.fn
theorem Tr.kp {w w' : World} {ux us uf : Value} {S : PS} (h : Tr w ux us uf S) (k : Kp No w w') : Tr w' ux us uf S := by
  have no : ∀ {base : Nat} {e : TypeId} {size : Nat} {v : Value} {n : Nat} {cs : List Value}, w.ownsRow base e size v n cs → w'.ownsRow base e size v n cs := fun ho => own_kp ho k fun _ _ h => h
  obtain ⟨⟨rx, e1, o1, l1⟩, ⟨ry, e2, o2, l2⟩, rz, e3, o3, l3⟩ := h
  exact ⟨⟨rx, e1, no o1, fun r hr => ⟨no (l1 r hr).1, (l1 r hr).2⟩⟩, ⟨ry, e2, no o2, fun r hr => ⟨⟨no (l2 r hr).1.1, (l2 r hr).1.2⟩, no (l2 r hr).2.1, (l2 r hr).2.2⟩⟩,
    ⟨rz, e3, no o3, fun r hr => ⟨⟨no (l3 r hr).1.1, (l3 r hr).1.2⟩, no (l3 r hr).2.1, (l3 r hr).2.2⟩⟩⟩
theorem Kp.from0 {S : Nat → Prop} {a b c : World} (h : Kp No a b) (k : Kp S b c) (hs : ∀ i, i < a.heap.size → ¬ S i) : Kp No a c := h.trans k fun i hi e => hs i hi e
theorem nilown {w : World} {e : TypeId} {z : Nat} : w.ownsRow 0 e z nilS 0 [] := ⟨by simp, .inl ⟨rfl, rfl⟩⟩
theorem Tr.nil0 {w : World} : Tr w nilS nilS nilS ⟨0, [], [], []⟩ := ⟨⟨[], rfl, nilown, fun r hr => (by cases hr)⟩, ⟨[], rfl, nilown, fun r hr => (by cases hr)⟩, ⟨[], rfl, nilown, fun r hr => (by cases hr)⟩⟩
theorem Tr.val {w : World} {ux us uf : Value} {S : PS} (h : Tr w ux us uf S) : ∃ a b c a' b' c', ux = .slice a S.ex.length a' ∧ us = .slice b S.st.length b' ∧ uf = .slice c S.fn.length c' := by
  obtain ⟨⟨rx, e1, o1, l1⟩, ⟨ry, e2, o2, l2⟩, rz, e3, o3, l3⟩ := h
  obtain ⟨a, a', h1, _⟩ := own_read o1
  obtain ⟨b, b', h2, _⟩ := own_read o2
  obtain ⟨c, c', h3, _⟩ := own_read o3
  exact ⟨a, b, c, a', b', c', h1, h2, h3⟩
theorem Tr.ex {w : World} {us uf : Value} {S : PS} {a : Option Addr} {n c : Nat} (h : Tr w (.slice a n c) us uf S) {i : Nat} {x : Ex} (hx : S.ex[i]? = some x) :
    ∃ g lv, a = some ⟨g, 0, none⟩ ∧ LI w lv x.l ∧ ∀ (j : Nat) (u : Value), (exC (x, lv))[j]? = some u → w.cell? ⟨g, 0 + (i : Int).toNat * 9 + j, none⟩ = some u := by
  obtain ⟨⟨rx, e1, o1, l1⟩, _⟩ := h
  rw [← e1, List.getElem?_map, Option.map_eq_some_iff] at hx
  obtain ⟨r, hr, rfl⟩ := hx
  obtain ⟨a', c', e, _, h0, hc⟩ := own_read o1
  simp only [Value.slice.injEq] at e
  obtain ⟨rfl, rfl, rfl⟩ := e
  have hl : 0 < S.ex.length := by
    rw [← e1, List.length_map]
    have := (List.getElem?_eq_some_iff.1 hr).1
    omega
  cases a with
  | none => have := h0 rfl; omega
  | some ad =>
    obtain ⟨g, rfl, _, _, hcell⟩ := hc _ rfl
    refine ⟨g, r.2, rfl, (l1 r (List.mem_of_getElem? hr)).1, fun j u hj => ?_⟩
    have hj9 : j < 9 := (List.getElem?_eq_some_iff.1 hj).1
    rw [Nat.add_assoc]
    exact hcell _ _ (by rw [Int.toNat_natCast, flat_get (f := exC) (sz := 9) (fun _ => rfl) rx i j r hr hj9]; exact hj)
theorem Tr.st {w : World} {ux uf : Value} {S : PS} {a : Option Addr} {n c : Nat} (h : Tr w ux (.slice a n c) uf S) {i : Nat} {x : St} (hx : S.st[i]? = some x) :
    ∃ g lv mv, a = some ⟨g, 0, none⟩ ∧ LI w lv x.th ∧ LI w mv x.el ∧ ∀ (j : Nat) (u : Value), (stC (x, lv, mv))[j]? = some u → w.cell? ⟨g, 0 + (i : Int).toNat * 9 + j, none⟩ = some u := by
  obtain ⟨_, ⟨rx, e1, o1, l1⟩, _⟩ := h
  rw [← e1, List.getElem?_map, Option.map_eq_some_iff] at hx
  obtain ⟨r, hr, rfl⟩ := hx
  obtain ⟨a', c', e, _, h0, hc⟩ := own_read o1
  simp only [Value.slice.injEq] at e
  obtain ⟨rfl, rfl, rfl⟩ := e
  have hl : 0 < S.st.length := by
    rw [← e1, List.length_map]
    have := (List.getElem?_eq_some_iff.1 hr).1
    omega
  cases a with
  | none => have := h0 rfl; omega
  | some ad =>
    obtain ⟨g, rfl, _, _, hcell⟩ := hc _ rfl
    refine ⟨g, r.2.1, r.2.2, rfl, (l1 r (List.mem_of_getElem? hr)).1.1, (l1 r (List.mem_of_getElem? hr)).2.1, fun j u hj => ?_⟩
    have hj9 : j < 9 := (List.getElem?_eq_some_iff.1 hj).1
    rw [Nat.add_assoc]
    exact hcell _ _ (by rw [Int.toNat_natCast, flat_get (f := stC) (sz := 9) (fun _ => rfl) rx i j r hr hj9]; exact hj)
theorem Tr.fn {w : World} {ux us : Value} {S : PS} {a : Option Addr} {n c : Nat} (h : Tr w ux us (.slice a n c) S) {i : Nat} {x : Fn} (hx : S.fn[i]? = some x) :
    ∃ g lv mv, a = some ⟨g, 0, none⟩ ∧ LS w lv x.ps ∧ LI w mv x.bd ∧ ∀ (j : Nat) (u : Value), (fnC (x, lv, mv))[j]? = some u → w.cell? ⟨g, 0 + (i : Int).toNat * 6 + j, none⟩ = some u := by
  obtain ⟨_, _, rx, e1, o1, l1⟩ := h
  rw [← e1, List.getElem?_map, Option.map_eq_some_iff] at hx
  obtain ⟨r, hr, rfl⟩ := hx
  obtain ⟨a', c', e, _, h0, hc⟩ := own_read o1
  simp only [Value.slice.injEq] at e
  obtain ⟨rfl, rfl, rfl⟩ := e
  have hl : 0 < S.fn.length := by
    rw [← e1, List.length_map]
    have := (List.getElem?_eq_some_iff.1 hr).1
    omega
  cases a with
  | none => have := h0 rfl; omega
  | some ad =>
    obtain ⟨g, rfl, _, _, hcell⟩ := hc _ rfl
    refine ⟨g, r.2.1, r.2.2, rfl, (l1 r (List.mem_of_getElem? hr)).1.1, (l1 r (List.mem_of_getElem? hr)).2.1, fun j u hj => ?_⟩
    have hj6 : j < 6 := (List.getElem?_eq_some_iff.1 hj).1
    rw [Nat.add_assoc]
    exact hcell _ _ (by rw [Int.toNat_natCast, flat_get (f := fnC) (sz := 6) (fun _ => rfl) rx i j r hr hj6]; exact hj)
theorem wrap_u8 {n : Int} (h : 0 ≤ n ∧ n < 256) : IntKind.u8.wrap n = n := by
  simp [IntKind.wrap, IntKind.bits, IntKind.signed]; omega
theorem num_step (l : List Int) (i : Nat) (c : Int) (h : l[i]? = some c) : num (l.take (i + 1)) = num (l.take i) * 10 + (c - 48) := by
  have : l.take (i + 1) = l.take i ++ [c] := by rw [List.take_add_one, h]; rfl
  rw [this, num, List.foldl_append]; rfl
theorem num_tk (l : List Int) (h : ∀ c ∈ l, 48 ≤ c ∧ c ≤ 57) : ∀ i, i ≤ l.length → 0 ≤ num (l.take i) ∧ num (l.take i) < 10 ^ i := by
  intro i
  induction i with
  | zero => intro _; simp [num]
  | succ i ih =>
    intro hi
    have h1 := ih (by omega)
    obtain ⟨c, hc⟩ : ∃ c, l[i]? = some c := ⟨_, List.getElem?_eq_getElem (by omega)⟩
    have h2 := h c (List.mem_of_getElem? hc)
    rw [num_step l i c hc, Int.pow_succ]
    omega
/-- A row of texts that was just made. -/
theorem RdN {w : World} {b : Nat} {ls : List ByteArray} {T : TypeId} (h : w.heap[b]? = some (.cells (ls.map Value.string).toArray T (0, 0))) : Tk.Rd w (some ⟨b, 0, none⟩) ls :=
  .inr ⟨b, 0, rfl, fun j s hj => by rw [Nat.zero_add]; exact cell_of_blk h (by rw [List.getElem?_map, hj]; rfl)⟩
theorem B_of {l : List Int} (h : l.all (fun c => decide (0 ≤ c) && decide (c < 256)) = true) : B (Tk.strOf l) = l := by
  have e : Tk.strOf l = strOfNums l := rfl
  rw [e]
  refine B_nums fun c hc => ?_
  have := List.all_eq_true.1 h c hc
  simpa using this
def sgB (v : Nat) : List ByteArray := (sgs v).map Tk.strOf
theorem sgB_B : ∀ v, v < 5 → (sgB v).map B = sgs v := by
  intro v hv
  match v, hv with
  | 0, _ => exact (by kernel_rfl : (sgB 0).map B = sgs 0)
  | 1, _ => exact (by kernel_rfl : (sgB 1).map B = sgs 1)
  | 2, _ => exact (by kernel_rfl : (sgB 2).map B = sgs 2)
  | 3, _ => exact (by kernel_rfl : (sgB 3).map B = sgs 3)
  | 4, _ => exact (by kernel_rfl : (sgB 4).map B = sgs 4)
theorem sgB_ne {v : Nat} (hv : v < 5) : [] ∉ (sgB v).map B := by
  rw [sgB_B v hv]
  match v, hv with
  | 0, _ => decide
  | 1, _ => decide
  | 2, _ => decide
  | 3, _ => decide
  | 4, _ => decide
theorem sgB_len {v : Nat} (hv : v < 5) : (sgB v).length ≤ 1000 := by
  match v, hv with
  | 0, _ => decide
  | 1, _ => decide
  | 2, _ => decide
  | 3, _ => decide
  | 4, _ => decide
end Go.Proofs.YtfnbgbeinmekgaaGreatDoor.Sy
