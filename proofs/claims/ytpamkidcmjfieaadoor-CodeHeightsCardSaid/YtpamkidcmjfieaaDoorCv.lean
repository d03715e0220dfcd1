/- Code: what a line adds to a code; a code that is built. -/
import Derived.Test.YtpamkidcmjfieaaDoorCu
import Derived.Test.YtpamkidcmjfieaaDoorCf
namespace Go.Proofs.YtpamkidcmjfieaaDoor
open Go Go.RowKit Fw Nu
set_option linter.unusedVariables false
set_option maxRecDepth 20000
namespace Cd
def procL : List Int := [112, 114, 111, 99]
/-- The numbers of fields. -/
def nms : List (List Int) → Option (List Int)
  | [] => some []
  | p :: r => match num p, nms r with
    | some n, some l => some (n :: l)
    | _, _ => none
theorem nms_some : ∀ {ps : List (List Int)} {zs : List Int}, ps.map num = zs.map some → nms ps = some zs := by
  intro ps
  induction ps with
  | nil => intro zs h; cases zs with
    | nil => rfl
    | cons z r => cases h
  | cons p r ih =>
    intro zs h
    cases zs with
    | nil => cases h
    | cons z l =>
      simp only [List.map_cons, List.cons.injEq] at h
      rw [nms, h.1, ih h.2]
theorem nms_none : ∀ {ps : List (List Int)} {p : List Int}, p ∈ ps → num p = none → nms ps = none := by
  intro ps
  induction ps with
  | nil => intro p h; cases h
  | cons q r ih =>
    intro p h hn
    rw [nms]
    rcases List.mem_cons.1 h with rfl | h
    · rw [hn]
    · rw [ih h hn]
      cases num q <;> rfl
/-- A line's procedure. -/
def addP (c : Cde) (r : List (List Int)) : Option Cde :=
  if r.length = 4 then (match nms (r.drop 1) with
    | some l => if nm (r.getD 0 []) = true then some ⟨c.ps ++ [⟨strOfNums (r.getD 0 []), c.is.length, 0, l.getD 0 0, l.getD 1 0, l.getD 2 0⟩], c.is⟩ else none
    | none => none) else none
/-- A line's instruction. -/
def addI (c : Cde) (h : List Int) (r : List (List Int)) : Option Cde :=
  match nms r, opOf h with
  | some l, some op => if c.ps.length = 0 ∨ 2 < l.length then none else if fld ⟨op, (l ++ [0, 0]).getD 0 0, (l ++ [0, 0]).getD 1 0⟩ = h :: r then some ⟨c.ps, c.is ++ [⟨op, (l ++ [0, 0]).getD 0 0, (l ++ [0, 0]).getD 1 0⟩]⟩ else none
  | _, _ => none
/-- A code with a line behind; none: the line is none. -/
def addL (c : Cde) (L : List Int) : Option Cde :=
  match Sp.spl 32 L with
  | [] => none
  | h :: r => if h = procL then addP c r else addI c h r
theorem RP.of {w : World} {base T cp : Nat} {a : Option Addr} {ps : List Prc} (h : w.ownsRow base T 6 (.slice a ps.length cp) ps.length (ps.flatMap pc)) : RP w a ps := by
  obtain ⟨a', c', e, hc, ha, hr⟩ := own_read h
  simp only [Value.slice.injEq, true_and] at e
  obtain ⟨rfl, rfl⟩ := e
  cases a with
  | none => exact .inl (List.length_eq_zero_iff.1 (ha rfl))
  | some ad =>
    obtain ⟨g, rfl, _, hl, hcell⟩ := hr _ rfl
    refine .inr ⟨g, 0, rfl, hl, fun j p hj k hk => ?_⟩
    have hf := flat_get (f := pc) (sz := 6) (fun _ => rfl) ps j k p hj hk
    obtain ⟨u, hu⟩ : ∃ u, (pc p)[k]? = some u := ⟨_, List.getElem?_eq_getElem hk⟩
    rw [hu] at hf ⊢
    have := hcell _ _ hf
    rw [Nat.add_assoc]; exact this
theorem RI.of {w : World} {base T cp : Nat} {a : Option Addr} {is : List Ins} (h : w.ownsRow base T 3 (.slice a is.length cp) is.length (is.flatMap ic)) : RI w a is := by
  obtain ⟨a', c', e, hc, ha, hr⟩ := own_read h
  simp only [Value.slice.injEq, true_and] at e
  obtain ⟨rfl, rfl⟩ := e
  cases a with
  | none => exact .inl (List.length_eq_zero_iff.1 (ha rfl))
  | some ad =>
    obtain ⟨g, rfl, _, hl, hcell⟩ := hr _ rfl
    refine .inr ⟨g, 0, rfl, hl, fun j p hj k hk => ?_⟩
    have hf := flat_get (f := ic) (sz := 3) (fun _ => rfl) is j k p hj hk
    obtain ⟨u, hu⟩ : ∃ u, (ic p)[k]? = some u := ⟨_, List.getElem?_eq_getElem hk⟩
    rw [hu] at hf ⊢
    have := hcell _ _ hf
    rw [Nat.add_assoc]; exact this
/-- A code that is built, in block b; its rows lie from base on. -/
structure CV (base b : Nat) (c : Cde) (w : World) : Prop where
  lt : b < base
  ex : ∃ ap cp al cl, w.heap[b]? = some (.cells [Value.slice ap c.ps.length cp, .slice al c.is.length cl].toArray 25 (0, 0)) ∧ w.ownsRow base 32 6 (.slice ap c.ps.length cp) c.ps.length (c.ps.flatMap pc) ∧
    w.ownsRow base 34 3 (.slice al c.is.length cl) c.is.length (c.is.flatMap ic) ∧ ∀ g, (Value.slice ap c.ps.length cp).ownBlock = some g → (Value.slice al c.is.length cl).ownBlock ≠ some g
theorem CV.kp {base b : Nat} {c : Cde} {w w' : World} (h : CV base b c w) (k : Kp No w w') : CV base b c w' := by
  obtain ⟨h1, ap, cp, al, cl, h2, h3, h4, h5⟩ := h
  exact ⟨h1, ap, cp, al, cl, k.get0 h2, own_kp h3 k (fun _ _ => id), own_kp h4 k (fun _ _ => id), h5⟩
theorem RS.blk {w : World} {g : Nat} {ps : List (List Int)} {T : TypeId} (h : w.heap[g]? = some (.cells (ps.map sv).toArray T (0, 0))) : RS w (some ⟨g, 0, none⟩) ps :=
  .inr ⟨g, 0, rfl, lt_of_get h, fun j p hj => cell_of_blk h (by rw [Nat.zero_add, List.getElem?_map, hj]; rfl)⟩
theorem spl_inB {L : List Int} (h : InB L) (c : Int) : ∀ p ∈ Sp.spl c L, InB p := fun p hp x hx => h x ((Sp.spl_sub c L p hp).2 x hx)
theorem inB_B (s : ByteArray) : InB (B s) := fun c hc => B_range hc
end Cd
end Go.Proofs.YtpamkidcmjfieaaDoor
