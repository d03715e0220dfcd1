/- Worlds: the statement WorldTapes, its slice as the row hands it over. -/
import Derived.Test.YtoldmhlkgdfkmaaDoorWv
namespace Go.Proofs.YtoldmhlkgdfkmaaDoor
open Go Go.RowKit Fw Nu Sp Lb
namespace Wo
theorem TapesR (n : Int) (a : Option Addr) (zs : List Int) (cap : Nat) (a' : Option Addr) (len' cap' : Nat) (acts : List Int) (w : World) (hg : Glob w) (hn : I64 n) (hz : ∀ x ∈ zs, I64 x) (h : Ri w a zs) (hcap : zs.length ≤ cap)
    (e : acts.length = len') (hcap' : len' ≤ cap') (hz' : ∀ x ∈ acts, I64 x) (hc : len' ≠ 0 → ∃ b o, a' = some ⟨b, o, none⟩ ∧ ∀ (i : Nat) n, acts[i]? = some n → w.cell? ⟨b, o + i, none⟩ = some (.int .i64 n)) :
    Ret Tryd.prog 4 [wv n a zs.length cap, .slice a' len' cap'] w fun v w1 => v = .bool true ∧ Kp No w w1 := by
  subst e
  refine Tapes n a zs cap a' acts cap' w hg hn hz h hcap hz' ?_ hcap'
  by_cases h0 : acts.length = 0
  · exact .inl (List.eq_nil_of_length_eq_zero h0)
  · obtain ⟨b, o, rfl, hcell⟩ := hc h0
    obtain ⟨y, hy⟩ : ∃ y, acts[0]? = some y := ⟨_, List.getElem?_eq_getElem (by omega)⟩
    obtain ⟨ob, hob⟩ := Fw.blk_of_cell (hcell 0 y hy)
    exact .inr ⟨b, o, rfl, Fw.lt_of_get hob, hcell⟩
end Wo
end Go.Proofs.YtoldmhlkgdfkmaaDoor
