/- Own walk lemmas over any program: make of a row of one cell each; bytes to a text. -/
import Derived.Test.YtlkipdfipaipbaaDoorFe
import Derived.Laws.BytesArg
namespace Go.Proofs.YtlkipdfipaipbaaDoor.Fw
open Go Go.RowKit
set_option linter.unusedSimpArgs false
set_option linter.unusedVariables false
section
variable {P : Program} {w : World} {ρ : Operand → Value} {dst : Option Tmp} {ty : TypeId} {pos : String} {af : Array Edge} {g : Option (Nat × Bool)} {v : Value}
theorem r_ms1 {t e : TypeId} {x y : Operand} {i : TypeInfo} {z : Value} {kl kc : IntKind} {l c : Nat} (ht : P.underlying t = some (.slice e)) (hi : P.info? e = some i) (hz : i.zero = some z)
    (hx : ρ x = .int kl l) (hy : ρ y = .int kc c) (hsz : i.size = 1) (hz1 : cellsL z = [z]) (hlc : l ≤ c) (hbytes : i.bytes * c ≤ 140737488355328) (h63 : (c : Int) ≤ 9223372036854775807) :
    Rn P ρ ⟨dst, .makeSlice t x y, ty, pos, af, g⟩ w (.ok (.value (.slice (some ⟨w.heap.size, 0, none⟩) l c)) (w.alloc (.cells (List.replicate c z).toArray e))) := by
  have hb : (i.bytes : Int) * (c : Int) ≤ 140737488355328 := by
    have : ((i.bytes * c : Nat) : Int) ≤ 140737488355328 := by omega
    simpa using this
  have := r_ms (dst := dst) (ty := ty) (pos := pos) (af := af) (g := g) (w := w) ht hi hz hx hy (by omega) (by omega) hb h63
  simp only [Int.toNat_natCast, hsz, Nat.mul_one] at this
  rw [made1 z c hz1] at this
  exact this
theorem r_b2s {s d e : TypeId} {x : Operand} {b o n c : Nat} {xs : List Int} (hs : P.underlying s = some (.slice e)) (he : P.underlying e = some (.int .u8)) (hd : P.underlying d = some .string) (hx : ρ x = .slice (some ⟨b, o, none⟩) n c)
    (hl : xs.length = n) (hc : ∀ (j : Nat) (u : Int), xs[j]? = some u → w.cell? ⟨b, o + j, none⟩ = some (.int .u8 u)) :
    Rn P ρ ⟨dst, .convert s d x, ty, pos, af, g⟩ w (.ok (.value (.string (strOfNums xs))) w) := by
  refine ⟨run_v ?_⟩
  rw [hx]
  refine run_convert_bytes_arg w s e hs he b o n c xs hl (fun i hi => ?_) d hd
  rw [hc i _ (List.getElem?_eq_getElem (by omega))]
  simp [List.getD_eq_getElem?_getD, List.getElem?_eq_getElem (show i < xs.length by omega)]
variable {ops : Array Oper} {rest : List Oper} {q : Pst P} {n : Nat} {l : Slots} {ds : List Deferred} {d : Nat} {op : Op}
theorem s_ms1 {t e : TypeId} {x y : Operand} {i : TypeInfo} {z : Value} {kl kc : IntKind} {m c : Nat} (ht : P.underlying t = some (.slice e)) (hi : P.info? e = some i) (hz : i.zero = some z)
    (hx : ev n l x = .int kl m) (hy : ev n l y = .int kc c) (hsz : i.size = 1) (hz1 : cellsL z = [z]) (hlc : m ≤ c) (hbytes : i.bytes * c ≤ 140737488355328) (h63 : (c : Int) ≤ 9223372036854775807)
    (h : ∀ b w1, Nb w b (List.replicate c z) e w1 → Wl P ops q rest n ((d, .slice (some ⟨b, 0, none⟩) m c) :: l) ds w1) :
    Wl P ops q (⟨some d, .makeSlice t x y, ty, pos, af, none⟩ :: rest) n l ds w := s_nb (r := fun a => .slice (some a) m c) (r_ms1 ht hi hz hx hy hsz hz1 hlc hbytes h63) h
end
theorem B_nums {xs : List Int} (h : ∀ c ∈ xs, 0 ≤ c ∧ c < 256) : B (strOfNums xs) = xs := by
  rw [B, strOfNums_data, List.map_map]
  have : xs.map ((fun b : UInt8 => (b.toNat : Int)) ∘ fun n => UInt8.ofNat n.toNat) = xs.map id := by
    apply List.map_congr_left
    intro c hc
    have := h c hc
    simp [UInt8.toNat_ofNat']
    omega
  rw [this, List.map_id]
end Go.Proofs.YtlkipdfipaipbaaDoor.Fw
