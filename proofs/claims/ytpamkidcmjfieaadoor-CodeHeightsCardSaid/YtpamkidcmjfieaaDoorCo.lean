/- Code: a code that comes in, opened. -/
import Derived.Test.YtpamkidcmjfieaaDoorFz
import Derived.Test.YtpamkidcmjfieaaDoorCy
namespace Go.Proofs.YtpamkidcmjfieaaDoor
open Go Go.RowKit Go.ChangeShapes Fw Nu
set_option linter.unusedVariables false
set_option maxRecDepth 20000
namespace Cd
def WP (p : Prc) : Prop := p.nm.size ≤ maxLen ∧ I64 p.fr ∧ I64 p.to ∧ I64 p.pa ∧ I64 p.sl ∧ I64 p.ty
def WJ (i : Ins) : Prop := I64 i.op ∧ I64 i.arg ∧ I64 i.more
theorem wfI {n : Int} (h : (Lit.int .i64 n).wf = true) : I64 n := Fw.wf_i64 h
variable {H : Type} {enc : TypeId × Value → H} {w : World} {base : Nat} {held : Bool} {spare : Nat → Bool}
theorem proc_of_trod (n : Nat) (cs : List Value) (y : DataW H × List MemPlace) (h : DataW.trod enc Tryd.prog w base spare held n 32 cs = some y) (hl : cs.length = 6) : ∃ p, cs = pc p ∧ WP p := by
  obtain ⟨xs, m, _, _, _, hlen, hf⟩ := DataW.trod_struct Tryd.underlying32 h
  have hlen6 : xs.length = 6 := hlen
  have g : ∀ i, i < 6 → ∃ y, xs[i]? = some y := fun i hi => ⟨_, List.getElem?_eq_getElem (by omega)⟩
  obtain ⟨y0, h0⟩ := g 0 (by omega)
  obtain ⟨y1, h1⟩ := g 1 (by omega)
  obtain ⟨y2, h2⟩ := g 2 (by omega)
  obtain ⟨y3, h3⟩ := g 3 (by omega)
  obtain ⟨y4, h4⟩ := g 4 (by omega)
  obtain ⟨y5, h5⟩ := g 5 (by omega)
  obtain ⟨s, e0, z0⟩ := trod_str_at Tryd.underlying9 (by kernel_rfl) ((hf 0 _ rfl).trans h0)
  obtain ⟨a1, e1, z1⟩ := trod_int_at Tryd.underlying3 (by kernel_rfl) ((hf 1 _ rfl).trans h1)
  obtain ⟨a2, e2, z2⟩ := trod_int_at Tryd.underlying3 (by kernel_rfl) ((hf 2 _ rfl).trans h2)
  obtain ⟨a3, e3, z3⟩ := trod_int_at Tryd.underlying3 (by kernel_rfl) ((hf 3 _ rfl).trans h3)
  obtain ⟨a4, e4, z4⟩ := trod_int_at Tryd.underlying3 (by kernel_rfl) ((hf 4 _ rfl).trans h4)
  obtain ⟨a5, e5, z5⟩ := trod_int_at Tryd.underlying3 (by kernel_rfl) ((hf 5 _ rfl).trans h5)
  refine ⟨⟨s, a1, a2, a3, a4, a5⟩, ?_, z0, wfI z1, wfI z2, wfI z3, wfI z4, wfI z5⟩
  match cs, hl with
  | [c0, c1, c2, c3, c4, c5], _ =>
    have e0 : some c0 = some (Value.string s) := e0
    have e1 : some c1 = some (Value.int .i64 a1) := e1
    have e2 : some c2 = some (Value.int .i64 a2) := e2
    have e3 : some c3 = some (Value.int .i64 a3) := e3
    have e4 : some c4 = some (Value.int .i64 a4) := e4
    have e5 : some c5 = some (Value.int .i64 a5) := e5
    cases e0; cases e1; cases e2; cases e3; cases e4; cases e5
    rfl
theorem ins_of_trod (n : Nat) (cs : List Value) (y : DataW H × List MemPlace) (h : DataW.trod enc Tryd.prog w base spare held n 34 cs = some y) (hl : cs.length = 3) : ∃ p, cs = ic p ∧ WJ p := by
  obtain ⟨xs, m, _, _, _, hlen, hf⟩ := DataW.trod_struct Tryd.underlying34 h
  have hlen6 : xs.length = 3 := hlen
  have g : ∀ i, i < 3 → ∃ y, xs[i]? = some y := fun i hi => ⟨_, List.getElem?_eq_getElem (by omega)⟩
  obtain ⟨y0, h0⟩ := g 0 (by omega)
  obtain ⟨y1, h1⟩ := g 1 (by omega)
  obtain ⟨y2, h2⟩ := g 2 (by omega)
  obtain ⟨a1, e1, z1⟩ := trod_int_at Tryd.underlying3 (by kernel_rfl) ((hf 0 _ rfl).trans h0)
  obtain ⟨a2, e2, z2⟩ := trod_int_at Tryd.underlying3 (by kernel_rfl) ((hf 1 _ rfl).trans h1)
  obtain ⟨a3, e3, z3⟩ := trod_int_at Tryd.underlying3 (by kernel_rfl) ((hf 2 _ rfl).trans h2)
  refine ⟨⟨a1, a2, a3⟩, ?_, wfI z1, wfI z2, wfI z3⟩
  match cs, hl with
  | [c0, c1, c2], _ =>
    have e1 : some c0 = some (Value.int .i64 a1) := e1
    have e2 : some c1 = some (Value.int .i64 a2) := e2
    have e3 : some c2 = some (Value.int .i64 a3) := e3
    cases e1; cases e2; cases e3
    rfl
/-- A code that comes in. -/
theorem code_of_okWide {r : Reach} {b0 : Nat} {v : Value} {d : DataW H} {p : List MemPlace} (hv : Value.okWide Tryd.prog w r b0 25 v) (h : DataW.Trod enc Tryd.prog w base spare held 25 v d p) :
    ∃ (c : Cde) (ap al : Option Addr) (cp cl : Nat), v = .agg #[.slice ap c.ps.length cp, .slice al c.is.length cl] ∧ c.ps.length ≤ cp ∧ c.is.length ≤ cl ∧ cp ≤ maxLen ∧ cl ≤ maxLen ∧ RP w ap c.ps ∧ RI w al c.is ∧ (∀ p ∈ c.ps, WP p) ∧ ∀ i ∈ c.is, WJ i := by
  obtain ⟨v0, v1, y0, y1, n, rfl, _, _, h0, h1⟩ := Joins.open_agg2 Tryd.underlying25 (by kernel_rfl) (by kernel_rfl) hv h
  obtain ⟨ap, cp, ps, rfl, l1, m1, _, r1, q1⟩ := row_of_trod pc 6 WP (by omega) (fun _ => rfl) proc_of_trod Tryd.underlying22 (by kernel_rfl) h0
  obtain ⟨al, cl, is, rfl, l2, m2, _, r2, q2⟩ := row_of_trod ic 3 WJ (by omega) (fun _ => rfl) ins_of_trod Tryd.underlying23 (by kernel_rfl) h1
  exact ⟨⟨ps, is⟩, ap, al, cp, cl, rfl, l1, l2, m1, m2, r1, r2, q1, q2⟩
end Cd
end Go.Proofs.YtpamkidcmjfieaaDoor
