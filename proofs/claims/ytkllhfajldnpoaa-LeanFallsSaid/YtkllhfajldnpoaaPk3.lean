/- What the proofs of this seat lean on, part 3. -/
import Derived.Test.YtkllhfajldnpoaaPk2
import Derived.Recover
namespace Go.Proofs.Ytkllhfajldnpoaa.Fw
open Go Go.RowKit
set_option linter.unusedVariables false
/-- The post of a call that returns as R says, or panics as F says. -/
def eP (R : Value → World → Prop) (F : List PanicEntry → World → Prop) : Ending → World → Prop
  | .returned v, w => R v w
  | .panicked c, w => F c w
  | .outgrown, _ => False
def RetP (P : Program) (f : FuncId) (args : List Value) (w : World) (R : Value → World → Prop) (F : List PanicEntry → World → Prop) : Prop := Calls P f args.toArray w (eP R F)
theorem eP_mono {R R' : Value → World → Prop} {F F' : List PanicEntry → World → Prop} (hr : ∀ v w', R v w' → R' v w') (hf : ∀ c w', F c w' → F' c w') : ∀ e w, eP R F e w → eP R' F' e w := by
  intro e w h
  cases e with
  | returned v => exact hr v w h
  | panicked c => exact hf c w h
  | outgrown => exact h
theorem RetP.mono {P : Program} {f : FuncId} {args : List Value} {w : World} {R R' : Value → World → Prop} {F F' : List PanicEntry → World → Prop} (h : RetP P f args w R F) (hr : ∀ v w', R v w' → R' v w') (hf : ∀ c w', F c w' → F' c w') : RetP P f args w R' F' :=
  Calls.mono h (eP_mono hr hf)
theorem RetP.ret {P : Program} {f : FuncId} {args : List Value} {w : World} {R : Value → World → Prop} {F : List PanicEntry → World → Prop} (h : RetP P f args w R F) (hF : ∀ c w, ¬ F c w) : Ret P f args w R :=
  Calls.mono h fun e w' r => by
    cases e with
    | returned v => exact ⟨v, rfl, r⟩
    | panicked c => exact (hF _ _ r).elim
    | outgrown => exact r.elim
def FinP (P : Program) (fn : Func) (R : Value → World → Prop) (F : List PanicEntry → World → Prop) : Pst P := .base (bodyPost P fn (eP R F))
/-- A panic goes through to the function's end. -/
class Pn {P : Program} (q : Pst P) (ds : List Deferred) (F : outParam (List PanicEntry → World → Prop)) : Prop where
  out : ∀ c a w, a.defers = ds → F c w → q.den (.panic c) a w
section
variable {P : Program} {fn : Func} {R : Value → World → Prop} {F : List PanicEntry → World → Prop} {q : Pst P} {ds : List Deferred}
instance : Pn (FinP P fn R F) [] F := ⟨fun c a w hd h => ⟨hd, h⟩⟩
instance {y : Code} [h : Pn q ds F] : Pn (.sq y q) ds F := ⟨fun c a w hd hf => h.out c a w hd hf⟩
instance {i : Nat} [h : Pn q ds F] : Pn (.bk i q) ds F := ⟨fun c a w hd hf => h.out c a w hd hf⟩
instance {K : Act → World → Prop} [h : Pn q ds F] : Pn (.lp K q) ds F := ⟨fun c a w hd hf => h.out c a w hd hf⟩
end
end Go.Proofs.Ytkllhfajldnpoaa.Fw
namespace Go.Proofs.Ytkllhfajldnpoaa.Fw
open Go Go.RowKit
set_option linter.unusedVariables false
/-- A panic's post doesn't look at slots. -/
class Pi {P : Program} (q : Pst P) : Prop where
  out : ∀ c a d v w, q.den (.panic c) (a.put d v) w → q.den (.panic c) a w
section
variable {P : Program} {fn : Func} {R : Value → World → Prop} {F : List PanicEntry → World → Prop} {q : Pst P}
instance : Pi (FinP P fn R F) := ⟨fun c a d v w h => by
  obtain ⟨h1, h2⟩ := h
  exact ⟨by cases d <;> exact h1, h2⟩⟩
instance {y : Code} [h : Pi q] : Pi (.sq y q) := ⟨fun c a d v w hd => h.out c a d v w hd⟩
instance {i : Nat} [h : Pi q] : Pi (.bk i q) := ⟨fun c a d v w hd => h.out c a d v w hd⟩
instance {K : Act → World → Prop} [h : Pi q] : Pi (.lp K q) := ⟨fun c a d v w hd => h.out c a d v w hd⟩
end
end Go.Proofs.Ytkllhfajldnpoaa.Fw
namespace Go.Proofs.Ytkllhfajldnpoaa.Sy
open Go
set_option linter.unusedVariables false
/-- An expression: kind, from, end, number, name, sign, A, B, list. -/
structure Ex where
  k : Int
  f : Int := 0
  e : Int := 0
  n : Int := 0
  nm : List Int := []
  op : List Int := []
  a : Int := 0
  b : Int := 0
  l : List Int := []
deriving DecidableEq
/-- A statement: kind, from, end, name, number, A, B, then, else. -/
structure St where
  k : Int
  f : Int := 0
  e : Int := 0
  nm : List Int := []
  n : Int := 0
  a : Int := 0
  b : Int := 0
  th : List Int := []
  el : List Int := []
deriving DecidableEq
/-- A function: name, from, end, parameters, type, body. -/
structure Fn where
  nm : List Int
  f : Int := 0
  e : Int := 0
  ps : List (List Int) := []
  ty : Int := 4
  bd : List Int := []
deriving DecidableEq
/-- Tokens and their bytes. -/
structure Env where
  T : List Tk.T3
  W : List (List Int)
/-- How many tokens were taken; what was put. -/
structure PS where
  i : Nat
  ex : List Ex
  st : List St
  fn : List Fn
inductive Rs (α : Type) where
  | ok (x : α) (s : PS)
  | er (c p : Int)
  | out
def Rs.bind {α β : Type} (r : Rs α) (g : α → PS → Rs β) : Rs β :=
  match r with
  | .ok x s => g x s
  | .er c p => .er c p
  | .out => .out
theorem bind_ok {α β : Type} (x : α) (s : PS) (g : α → PS → Rs β) : (Rs.ok x s).bind g = g x s := rfl
theorem bind_er {α β : Type} (c p : Int) (g : α → PS → Rs β) : (Rs.er c p).bind g = .er c p := rfl
theorem bind_inv {α β : Type} {r : Rs α} {g : α → PS → Rs β} {x : β} {s : PS} (h : r.bind g = .ok x s) : ∃ y t, r = .ok y t ∧ g y t = .ok x s := by
  cases r with
  | ok y t => exact ⟨y, t, rfl, h⟩
  | er c p => cases h
  | out => cases h
section
variable (E : Env)
def kd (s : PS) : Int := match E.T[s.i]? with | some t => t.1 | none => 0
def hr (s : PS) : Int := match E.T[s.i]? with | some t => t.2.1 | none => 0
def wd (s : PS) : List Int := E.W[s.i]?.getD []
/-- Where the last token that was taken ends. -/
def pe (s : PS) : Int := match E.T[s.i - 1]? with | some t => t.2.2 | none => 0
def adv (s : PS) : PS := { s with i := s.i + 1 }
def er {α : Type} (c : Int) (s : PS) : Rs α := .er c (hr E s)
def want (w : List Int) (s : PS) : Rs Unit := if wd E s = w then .ok () (adv s) else er E 3 s
def knd (k : Int) (s : PS) : Rs (List Int) := if kd E s = k then .ok (wd E s) (adv s) else er E 3 s
def deep (d : Int) (s : PS) : Rs Unit := if 64 < d then er E 4 s else .ok () s
def num (w : List Int) : Int := w.foldl (fun n c => n * 10 + (c - 48)) 0
def put (fr : Int) (x : Ex) (s : PS) : Rs Int := .ok s.ex.length { s with ex := s.ex ++ [{ x with f := fr, e := pe E s }] }
def add (fr : Int) (x : St) (s : PS) : Rs Int := if 1000 ≤ s.st.length then er E 5 s else .ok s.st.length { s with st := s.st ++ [{ x with f := fr, e := pe E s }] }
end
def wLpar : List Int := [40]
def wRpar : List Int := [41]
def wLbra : List Int := [91]
def wRbra : List Int := [93]
def wLcur : List Int := [123]
def wRcur : List Int := [125]
def wSemi : List Int := [59]
def wComma : List Int := [44]
def wEq : List Int := [61]
def wMinus : List Int := [45]
def wNot : List Int := [33]
def wTrue : List Int := [116, 114, 117, 101]
def wFalse : List Int := [102, 97, 108, 115, 101]
def wRead : List Int := [114, 101, 97, 100]
def wVar : List Int := [118, 97, 114]
def wIf : List Int := [105, 102]
def wElse : List Int := [101, 108, 115, 101]
def wWhile : List Int := [119, 104, 105, 108, 101]
def wBreak : List Int := [98, 114, 101, 97, 107]
def wCont : List Int := [99, 111, 110, 116, 105, 110, 117, 101]
def wReturn : List Int := [114, 101, 116, 117, 114, 110]
def wPrint : List Int := [112, 114, 105, 110, 116]
def wFunc : List Int := [102, 117, 110, 99]
def wInt : List Int := [105, 110, 116]
/-- The signs of a level. -/
def sgs : Nat → List (List Int)
  | 0 => [[124, 124]]
  | 1 => [[38, 38]]
  | 2 => [[61, 61], [33, 61], [60], [60, 61], [62], [62, 61]]
  | 3 => [[43], [45]]
  | _ => [[42], [47], [37]]
/-- The parts that call each other, at a fuel. -/
structure Lv where
  row : Nat → Int → PS → Rs Int
  rows : Nat → Int → Int → Int → PS → Rs Int
  expr : Int → PS → Rs Int
  unary : Int → PS → Rs Int
  prim : Int → PS → Rs Int
  args : Int → List Int → Int → List Int → PS → Rs Int
  stmts : Int → List Int → PS → Rs (List Int)
  stmt : Int → PS → Rs Int
  branch : Int → Int → PS → Rs Int
def lv0 : Lv := ⟨fun _ _ _ => .out, fun _ _ _ _ _ => .out, fun _ _ => .out, fun _ _ => .out, fun _ _ => .out, fun _ _ _ _ _ => .out, fun _ _ _ => .out, fun _ _ => .out, fun _ _ _ => .out⟩
section
variable (E : Env) (L : Lv)
def call (fr : Int) (nm : List Int) (d : Int) (s : PS) : Rs Int := (want E wLpar s).bind fun _ s1 => L.args fr nm d [] s1
def block (d : Int) (s : PS) : Rs (List Int) := (if wd E s = wLcur then deep E d s else .ok () s).bind fun _ s1 => (want E wLcur s1).bind fun _ s2 => L.stmts d [] s2
def sRow (v : Nat) (d : Int) (s : PS) : Rs Int := if v = 5 then L.unary d s else (L.row (v + 1) d s).bind fun a s1 => L.rows v d (hr E s) a s1
def sRows (v : Nat) (d fr a : Int) (s : PS) : Rs Int :=
  if wd E s ∈ sgs v then (L.row (v + 1) d (adv s)).bind fun b s1 => (put E fr { k := 9, op := wd E s, a := a, b := b } s1).bind fun c s2 => if v = 2 then .ok c s2 else L.rows v d fr c s2
  else .ok a s
def sExpr (d : Int) (s : PS) : Rs Int := (deep E d s).bind fun _ s1 => L.row 0 d s1
def sUnary (d : Int) (s : PS) : Rs Int :=
  if wd E s = wMinus ∨ wd E s = wNot then (deep E (d + 1) (adv s)).bind fun _ s1 => (L.unary (d + 1) s1).bind fun a s2 => put E (hr E s) { k := 8, op := wd E s, a := a } s2
  else L.prim d s
def sPrim (d : Int) (s : PS) : Rs Int :=
  if kd E s = 2 then put E (hr E s) { k := 1, n := num (wd E s) } (adv s)
  else if wd E s = wTrue then put E (hr E s) { k := 2 } (adv s)
  else if wd E s = wFalse then put E (hr E s) { k := 3 } (adv s)
  else if wd E s = wRead then put E (hr E s) { k := 7 } (adv s)
  else if wd E s = wLpar then (L.expr (d + 1) (adv s)).bind fun a s1 => (want E wRpar s1).bind fun _ s2 => .ok a s2
  else (knd E 1 s).bind fun nm s1 =>
    if wd E s1 = wLbra then (L.expr (d + 1) (adv s1)).bind fun a s2 => (want E wRbra s2).bind fun _ s3 => put E (hr E s) { k := 5, nm := nm, a := a } s3
    else if wd E s1 = wLpar then call E L (hr E s) nm d s1
    else put E (hr E s) { k := 4, nm := nm } s1
def sArgs (fr : Int) (nm : List Int) (d : Int) (l : List Int) (s : PS) : Rs Int :=
  if wd E s = wRpar then put E fr { k := 6, nm := nm, l := l } (adv s)
  else (if l = [] then .ok () s else want E wComma s).bind fun _ s1 => (L.expr (d + 1) s1).bind fun a s2 => if wd E s2 = wComma ∨ wd E s2 = wRpar then L.args fr nm d (l ++ [a]) s2 else er E 3 s2
def sStmts (d : Int) (l : List Int) (s : PS) : Rs (List Int) :=
  if wd E s = wRcur then .ok l (adv s) else (L.stmt d s).bind fun x s1 => L.stmts d (l ++ [x]) s1
/-- What stands behind "var". -/
def sDecl (d : Int) (s : PS) : Rs St := (knd E 1 s).bind fun nm s1 =>
    if wd E s1 = wLbra then (knd E 2 (adv s1)).bind fun w s2 => (want E wRbra s2).bind fun _ s3 => .ok { k := 2, nm := nm, n := num w } s3
    else (want E wEq s1).bind fun _ s2 => (L.expr d s2).bind fun a s3 => .ok { k := 1, nm := nm, a := a } s3
/-- A statement that begins with a name. -/
def sNamed (d : Int) (s : PS) : Rs St := (knd E 1 s).bind fun nm s1 =>
    if wd E s1 = wLpar then (call E L (hr E s) nm d s1).bind fun a s2 => .ok { k := 11, a := a } s2
    else if wd E s1 = wLbra then (L.expr (d + 1) (adv s1)).bind fun a s2 => (want E wRbra s2).bind fun _ s3 => (want E wEq s3).bind fun _ s4 => (L.expr d s4).bind fun b s5 => .ok { k := 4, nm := nm, a := a, b := b } s5
    else (want E wEq s1).bind fun _ s2 => (L.expr d s2).bind fun a s3 => .ok { k := 3, nm := nm, a := a } s3
/-- What ends a statement: its sign. -/
def endS (fr : Int) (x : St) (s : PS) : Rs Int := (want E wSemi s).bind fun _ s1 => add E fr x s1
def sStmt (d : Int) (s : PS) : Rs Int :=
  if wd E s = wVar then (sDecl E L d (adv s)).bind fun x s1 => endS E (hr E s) x s1
  else if wd E s = wIf then L.branch (hr E s) d (adv s)
  else if wd E s = wWhile then (L.expr d (adv s)).bind fun a s1 => (block E L (d + 1) s1).bind fun th s2 => add E (hr E s) { k := 6, a := a, th := th } s2
  else if wd E s = wBreak then endS E (hr E s) { k := 7 } (adv s)
  else if wd E s = wCont then endS E (hr E s) { k := 8 } (adv s)
  else if wd E s = wReturn then
    if wd E (adv s) = wSemi then endS E (hr E s) { k := 9, a := -1 } (adv s)
    else (L.expr d (adv s)).bind fun a s1 => endS E (hr E s) { k := 9, a := a } s1
  else if wd E s = wPrint then (L.expr d (adv s)).bind fun a s1 => endS E (hr E s) { k := 10, a := a } s1
  else (sNamed E L d s).bind fun x s1 => endS E (hr E s) x s1
def sBranch (fr d : Int) (s : PS) : Rs Int :=
  (L.expr d s).bind fun a s1 => (block E L (d + 1) s1).bind fun th s2 =>
    if wd E s2 = wElse then
      if wd E (adv s2) = wIf then (deep E (d + 1) (adv s2)).bind fun _ s3 => (L.branch (hr E (adv s2)) (d + 1) (adv s3)).bind fun x s4 => add E fr { k := 5, a := a, th := th, el := [x] } s4
      else (block E L (d + 1) (adv s2)).bind fun el s3 => add E fr { k := 5, a := a, th := th, el := el } s3
    else add E fr { k := 5, a := a, th := th } s2
def stepL : Lv := ⟨sRow E L, sRows E L, sExpr E L, sUnary E L, sPrim E L, sArgs E L, sStmts E L, sStmt E L, sBranch E L⟩
end
def lv (E : Env) : Nat → Lv
  | 0 => lv0
  | n + 1 => stepL E (lv E n)
/-- A function's parameters. -/
def prms (E : Env) : Nat → List (List Int) → PS → Rs (List (List Int))
  | 0, _, _ => .out
  | n + 1, l, s => if wd E s = wRpar then .ok l (adv s)
    else (if l = [] then .ok () s else want E wComma s).bind fun _ s1 => (knd E 1 s1).bind fun w s2 => if wd E s2 = wComma ∨ wd E s2 = wRpar then prms E n (l ++ [w]) s2 else er E 3 s2
def fct (E : Env) (n : Nat) (s : PS) : Rs Unit :=
  (if wd E s = wFunc ∧ 32 ≤ s.fn.length then er E 5 s else .ok () s).bind fun _ s0 => (want E wFunc s0).bind fun _ s1 => (knd E 1 s1).bind fun nm s2 => (want E wLpar s2).bind fun _ s3 => (prms E n [] s3).bind fun ps s4 =>
    (if wd E s4 = wInt then Rs.ok (1 : Int) (adv s4) else .ok 4 s4).bind fun ty s5 => (block E (lv E n) 1 s5).bind fun bd s6 =>
      .ok () { s6 with fn := s6.fn ++ [{ nm := nm, f := hr E s, e := pe E s6, ps := ps, ty := ty, bd := bd }] }
/-- Function by function, up to the end. -/
def fcts (E : Env) (m : Nat) : Nat → PS → Rs Unit
  | 0, _ => .out
  | n + 1, s => if s.fn ≠ [] ∧ kd E s = 0 then .ok () s else (fct E m s).bind fun _ s1 => fcts E m n s1
/-- A text's tokens and their bytes. -/
def envOf (L : List Int) : Env := ⟨(Tk.allT L).1, (Tk.allT L).1.map fun t => (L.take t.2.2.toNat).drop t.2.1.toNat⟩
/-- Enough fuel for a text. -/
def fuel (L : List Int) : Nat := 20 * (L.length + 100)
/-- What a text is parsed as: a program; or a place and an error. -/
def prs (L : List Int) : Rs Unit :=
  if (Tk.allT L).2.2 ≠ 0 then .er (Tk.allT L).2.2 (Tk.allT L).2.1 else fcts (envOf L) (fuel L) (fuel L) ⟨0, [], [], []⟩
end Go.Proofs.Ytkllhfajldnpoaa.Sy
