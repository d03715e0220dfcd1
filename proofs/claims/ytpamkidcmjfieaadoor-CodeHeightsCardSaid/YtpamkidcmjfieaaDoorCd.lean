/- Code, by definition: heights: what is reached; labellings. No program. -/
import Derived.Test.YtpamkidcmjfieaaDoorFz
namespace Go.Proofs.YtpamkidcmjfieaaDoor.Cd
open Go Go.RowKit Fw
set_option linter.unusedVariables false
structure Ins where
  op : Int
  arg : Int
  more : Int
deriving DecidableEq
structure Prc where
  nm : ByteArray
  fr : Int
  to : Int
  pa : Int
  sl : Int
  ty : Int
structure Cde where
  ps : List Prc
  is : List Ins
/-- Each Op's word, its Arg's kind, what it takes and leaves. -/
def shL : List (List Int × Int × Int × Int) := [([], 0, 0, 0), ([109, 97, 114, 107], 2, 0, 0), ([99, 111, 110, 115, 116], 1, 0, 1), ([108, 111, 97, 100], 3, 0, 1), ([115, 116, 111, 114, 101], 3, 1, 0), ([108, 111, 97, 100, 97, 116], 3, 1, 1), ([115, 116, 111, 114, 101, 97, 116], 3, 2, 0),
  ([110, 101, 119], 3, 0, 0), ([114, 101, 97, 100], 0, 0, 1), ([110, 101, 103], 0, 1, 1), ([110, 111, 116], 0, 1, 1), ([97, 100, 100], 0, 2, 1), ([115, 117, 98], 0, 2, 1), ([109, 117, 108], 0, 2, 1), ([100, 105, 118], 0, 2, 1), ([109, 111, 100], 0, 2, 1), ([108, 116], 0, 2, 1), ([108, 101], 0, 2, 1), ([103, 116], 0, 2, 1), ([103, 101], 0, 2, 1), ([101, 113], 0, 2, 1), ([110, 101], 0, 2, 1),
  ([106, 117, 109, 112], 4, 0, 0), ([106, 117, 109, 112, 110, 111, 116], 4, 1, 0), ([97, 110, 100], 4, 1, 0), ([111, 114], 4, 1, 0), ([99, 97, 108, 108], 5, 0, 0), ([114, 101, 116, 117, 114, 110], 6, 0, 0), ([112, 114, 105, 110, 116], 7, 1, 0), ([112, 111, 112], 0, 1, 0)]
def sh (op : Int) : List Int × Int × Int × Int := shL[op.toNat]?.getD ([], 0, 0, 0)
/-- What an instruction takes and leaves. -/
def eff (c : Cde) (i : Ins) : Int × Int :=
  if i.op = 26 then (match c.ps[i.arg.toNat]? with | some p => (p.pa, if p.ty = 1 then 1 else 0) | none => (0, 0))
  else if i.op = 27 then (i.arg, 0) else ((sh i.op).2.2.1, (sh i.op).2.2.2)
/-- Where an instruction at a place leads, with which heights. -/
def aft (c : Cde) (i : Ins) (pl h : Int) : List (Int × Int) :=
  if i.op = 27 then [] else if i.op = 22 then [(i.arg, h - (eff c i).1 + (eff c i).2)] else if i.op = 23 then [(i.arg, h - (eff c i).1 + (eff c i).2), (pl + 1, h - (eff c i).1 + (eff c i).2)]
  else if i.op = 24 ∨ i.op = 25 then [(i.arg, h), (pl + 1, h - (eff c i).1 + (eff c i).2)] else [(pl + 1, h - (eff c i).1 + (eff c i).2)]
inductive Rch (c : Cde) (p : Prc) : Int → Int → Prop
  | start : Rch c p p.fr 0
  | step {pl h to x : Int} {i : Ins} (r : Rch c p pl h) (hi : c.is[pl.toNat]? = some i) (ht : (eff c i).1 ≤ h) (hm : (to, x) ∈ aft c i pl h) : Rch c p to x
/-- Something is wrong with what is reached. -/
def Bad (c : Cde) (p : Prc) : Prop := ∃ pl h, Rch c p pl h ∧ (p.to ≤ pl ∨ 200 < h ∨ (∃ h', Rch c p pl h' ∧ h' ≠ h) ∨ ∃ i, c.is[pl.toNat]? = some i ∧ h < (eff c i).1)
/-- A labelling that is one. -/
structure Lab (c : Cde) (p : Prc) (L : List Int) : Prop where
  start : L[p.fr.toNat]? = some 0
  next : ∀ (pl : Nat) h i, p.fr ≤ pl → (pl : Int) < p.to → L[pl]? = some h → 0 ≤ h → c.is[pl]? = some i → (eff c i).1 ≤ h ∧ ∀ to x, (to, x) ∈ aft c i pl h → p.fr ≤ to ∧ to < p.to ∧ 0 ≤ x ∧ x ≤ 200 ∧ L[to.toNat]? = some x
theorem Lab.rch {c : Cde} {p : Prc} {L : List Int} (hl : Lab c p L) (h0 : 0 ≤ p.fr) (h1 : p.fr < p.to) (hn : p.to ≤ c.is.length) {pl h : Int} (r : Rch c p pl h) : p.fr ≤ pl ∧ pl < p.to ∧ 0 ≤ h ∧ h ≤ 200 ∧ L[pl.toNat]? = some h := by
  induction r with
  | start => exact ⟨Int.le_refl _, h1, Int.le_refl _, by decide, hl.start⟩
  | step r hi ht hm ih =>
    rename_i pl h to x i
    obtain ⟨a1, a2, a3, a4, a5⟩ := ih
    have e : ((pl.toNat : Nat) : Int) = pl := by omega
    obtain ⟨q1, q2⟩ := hl.next pl.toNat h i (by omega) (by omega) a5 a3 hi
    rw [e] at q2
    exact q2 to x hm
theorem Lab.bad {c : Cde} {p : Prc} {L : List Int} (hl : Lab c p L) (h0 : 0 ≤ p.fr) (h1 : p.fr < p.to) (hn : p.to ≤ c.is.length) : ¬ Bad c p := by
  rintro ⟨pl, h, r, hw⟩
  obtain ⟨a1, a2, a3, a4, a5⟩ := hl.rch h0 h1 hn r
  rcases hw with hw | hw | ⟨h', r', hw⟩ | ⟨i, hi, hw⟩
  · omega
  · omega
  · have := (hl.rch h0 h1 hn r').2.2.2.2
    rw [a5] at this
    exact hw (Option.some.inj this).symm
  · have := (hl.next pl.toNat h i (by omega) (by omega) a5 a3 hi).1
    omega
/-- Two labellings of what is reached are one. -/
theorem Lab.one {c : Cde} {p : Prc} {L M : List Int} (hl : Lab c p L) (hm : Lab c p M) (h0 : 0 ≤ p.fr) (h1 : p.fr < p.to) (hn : p.to ≤ c.is.length)
    (rl : ∀ (pl : Nat) h, p.fr ≤ pl → (pl : Int) < p.to → L[pl]? = some h → h = -1 ∨ Rch c p pl h) (rm : ∀ (pl : Nat) h, p.fr ≤ pl → (pl : Int) < p.to → M[pl]? = some h → h = -1 ∨ Rch c p pl h)
    (pl : Nat) (a1 : p.fr ≤ pl) (a2 : (pl : Int) < p.to) (x y : Int) (hx : L[pl]? = some x) (hy : M[pl]? = some y) : x = y := by
  rcases rl pl x a1 a2 hx with rfl | r
  · rcases rm pl y a1 a2 hy with rfl | r
    · rfl
    · have h := (hl.rch h0 h1 hn r)
      rw [Int.toNat_natCast, hx] at h
      exact Option.some.inj h.2.2.2.2
  · have h := (hm.rch h0 h1 hn r)
    rw [Int.toNat_natCast, hy] at h
    exact (Option.some.inj h.2.2.2.2).symm
/-- May a procedure, and all its instructions, be, but for heights? -/
def fitA (c : Cde) (p : Prc) (i : Ins) : Prop :=
  if (sh i.op).2.1 = 1 then True else if (sh i.op).2.1 = 2 then 0 ≤ i.arg ∧ i.arg ≤ 999 else if (sh i.op).2.1 = 3 then 0 ≤ i.arg ∧ i.arg ≤ p.sl - 1
  else if (sh i.op).2.1 = 4 then p.fr ≤ i.arg ∧ i.arg ≤ p.to - 1 else if (sh i.op).2.1 = 5 then 0 ≤ i.arg ∧ i.arg ≤ (c.ps.length : Int) - 1
  else if (sh i.op).2.1 = 6 then (i.arg = 1 ∧ p.ty = 1) ∨ (i.arg = 0 ∧ p.ty = 4) else if (sh i.op).2.1 = 7 then i.arg = 1 ∨ i.arg = 2 else i.arg = 0
instance (c : Cde) (p : Prc) (i : Ins) : Decidable (fitA c p i) := by unfold fitA; infer_instance
def fitM (i : Ins) : Prop := if i.op = 7 then 1 ≤ i.more ∧ i.more ≤ 64 else i.more = 0
instance (i : Ins) : Decidable (fitM i) := by unfold fitM; infer_instance
def fit (c : Cde) (p : Prc) (i : Ins) : Prop := (1 ≤ i.op ∧ i.op ≤ 29) ∧ fitA c p i ∧ fitM i
instance (c : Cde) (p : Prc) (i : Ins) : Decidable (fit c p i) := by unfold fit; infer_instance
end Go.Proofs.YtpamkidcmjfieaaDoor.Cd
