/- Texts that the statements SyntaxLists, SyntaxDeeps ask for; what is looked at in their programs. No program. -/
import Derived.Test.YtgnkdeapifbgeaaDoorGa
namespace Go.Proofs.YtgnkdeapifbgeaaDoor.Sy
open Go
/-- Things with signs between them. -/
def sp (x sep : List Int) : Nat → List Int
  | 0 => []
  | k + 1 => (if 0 < k then sp x sep k ++ sep else sp x sep k) ++ x
def rp (x : List Int) : Nat → List Int
  | 0 => []
  | k + 1 => rp x k ++ x
def cod (r : Rs Unit) : Int := match r with | .ok _ _ => 0 | .er c _ => c | .out => -1
def tArgs (a : Nat) : List Int := sp [49] [44, 32] a
def tPars (p : Nat) : List Int := sp [112] [44] p
def tFn : List Int := [102, 117, 110, 99, 32, 102, 40]
def tL (a p : Nat) : List Int := tFn ++ tPars p ++ [41, 32, 123, 32, 103, 40] ++ tArgs a ++ [41, 59, 32, 125]
def tP (p : Nat) : List Int := tFn ++ tPars p ++ [44, 41, 32, 123, 32, 125]
def tA (a : Nat) : List Int := tFn ++ [41, 32, 123, 32, 103, 40] ++ tArgs a ++ [44, 41, 59, 32, 125]
def chkL (a p : Nat) : Bool := match prs (tL a p) with
  | .ok _ S => decide (S.fn.length = 1 ∧ S.st.length = 1 ∧ S.ex.length = a + 1 ∧ (S.ex[a]?.map fun x => (x.k, x.l.length)) = some (6, a) ∧ (S.fn[0]?.map fun f => f.ps.length) = some p)
  | _ => false
def tOpen (k : Nat) : List Int := match k with | 0 => [40] | 1 => [45] | 2 => [33] | _ => [97, 91]
def tShut (k : Nat) : List Int := match k with | 0 => [41] | 1 => [] | 2 => [] | _ => [93]
def tMain : List Int := [102, 117, 110, 99, 32, 109, 97, 105, 110, 40, 41, 32, 123]
def tD (d k : Nat) : List Int := tMain ++ [32, 112, 114, 105, 110, 116, 32] ++ rp (tOpen d) k ++ [49] ++ rp (tShut d) k ++ [59, 32, 125]
def tB (k : Nat) : List Int := tMain ++ rp [105, 102, 32, 49, 32, 123] k ++ rp [125] k ++ [125]
def chkD (d k : Nat) : Bool := cod (prs (tD d k)) == (if k ≤ 63 then 0 else 4)
def chkB (k : Nat) : Bool := cod (prs (tB k)) == (if k ≤ 63 then 0 else 4)
end Go.Proofs.YtgnkdeapifbgeaaDoor.Sy
