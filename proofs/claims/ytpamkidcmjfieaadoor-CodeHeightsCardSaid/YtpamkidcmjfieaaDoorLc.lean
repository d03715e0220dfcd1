/- Contracts of Go's library at this program, as the walks use them: Itoa, Atoi; interface values and nil. -/
import Derived.Test.YtpamkidcmjfieaaDoorFz
import Derived.Test.YtpamkidcmjfieaaDoorSp
import Derived.Test.YtpamkidcmjfieaaDoorChecked
import Derived.Test.YtpamkidcmjfieaaDoorSh
namespace Go.Proofs.YtpamkidcmjfieaaDoor
open Go Go.RowKit Fw Nu
set_option linter.unusedVariables false
namespace Fw
section
variable {P : Program} {w : World} {ρ : Operand → Value} {dst : Option Tmp} {ty : TypeId} {pos : String} {af : Array Edge} {g : Option (Nat × Bool)}
/-- An interface's value and nil. -/
def inil : Value → Option Bool
  | .nilIface => some true
  | .iface _ _ => some false
  | _ => none
theorem run_inil {t : TypeId} {ms : Array (String × TypeId)} (ht : P.underlying t = some (.interface ms)) {v : Value} {b : Bool} (h : inil v = some b) (d : Nat) : (Op.equalIn (d + 1) t v .nilIface).run P w = .ok b w := by
  unfold inil at h
  split at h <;> simp only [Option.some.injEq, reduceCtorEq] at h <;> subst h <;> (rw [Op.equalIn]; simp only [run_underlying ht, Sem.run_bind, Sem.run_pure, Result.andThen_ok])
theorem guard_inil {op : BinOp} {t : TypeId} {x : Operand} {v c : Value} {b : Bool} (h : inil v = some b) : (eqGuard op t x (.const c) v .nilIface).run P w = .ok () w := by
  unfold inil at h
  split at h <;> simp only [Option.some.injEq, reduceCtorEq] at h <;> subst h
  · rw [eqGuard_nil_constR]; rfl
  · have : eqGuard op t x (.const c) (.iface ‹_› ‹_›) .nilIface = pure () := by cases op <;> rfl
    rw [this]; rfl
theorem r_ine {t t' : TypeId} {x : Operand} {c : Value} {b : Bool} {ms : Array (String × TypeId)} (ht : P.underlying t = some (.interface ms)) (hc : c = .nilIface) (hx : inil (ρ x) = some b) (hr : ρ (.const c) = .nilIface) :
    Rn P ρ ⟨dst, .binOp .neq t x (.const c) t', ty, pos, af, g⟩ w (.ok (.value (.bool (!b))) w) := by
  refine ⟨run_v ?_⟩
  rw [hr]
  have hb : binOp .neq t (ρ x) .nilIface = (do pure (.bool (!(← Op.equal t (ρ x) .nilIface)))) := by
    unfold inil at hx
    split at hx
    · rename_i e; rw [e]; rfl
    · rename_i e; rw [e]; rfl
    · cases hx
  exact run_neq (guard_inil hx) hb (run_inil ht hx 9999)
end
end Fw
namespace Lb
/-- What the library's tables and errors hold. -/
structure Glob (w : World) : Prop where
  tab : Lib.TabIs Tryd.prog w "internal/strconv.uint64pow10" .u64 Lib.pow10Tab
  syn : ∃ t p, w.cell? ⟨3, 0, none⟩ = some (.iface t p)
  rng : ∃ t p, w.cell? ⟨4, 0, none⟩ = some (.iface t p)
theorem Glob.kp {w w' : World} (h : Glob w) (k : Kp No w w') : Glob w' := by
  refine ⟨?_, ?_, ?_⟩
  · have h1 := h.tab
    unfold Lib.TabIs World.var? at h1 ⊢
    cases hg : Tryd.prog.globalNamed "internal/strconv.uint64pow10" with
    | none => rw [hg] at h1; cases h1
    | some g =>
      rw [hg] at h1
      simp only [Option.bind_some] at h1 ⊢
      cases hw : w.heap[g]? with
      | none => rw [hw] at h1; cases h1
      | some o => rw [hw] at h1; rw [k.get0 hw]; exact h1
  · obtain ⟨t, p, h1⟩ := h.syn
    exact ⟨t, p, k.cell0 h1⟩
  · obtain ⟨t, p, h1⟩ := h.rng
    exact ⟨t, p, k.cell0 h1⟩
theorem Itoa (n : Int) (w : World) (hg : Glob w) (hn : I64 n) : Ret Tryd.prog 38 [.int .i64 n] w fun v w1 => (∃ s, v = .string s ∧ B s = dc n) ∧ Kp No w w1 := by
  refine Calls.mono (Tryd.strconv_Itoa n hn.1 hn.2 w hg.tab) ?_
  rintro e w1 ⟨rfl, k, os, rfl⟩
  refine ⟨_, rfl, ⟨_, rfl, B_itoa n⟩, rfl, rfl, rfl, by show w.heap.size ≤ (w.heap ++ os).size; rw [Array.size_append]; omega, fun i hi _ => ?_⟩
  show (w.heap ++ os)[i]? = w.heap[i]?
  rw [Array.getElem?_append_left hi]
theorem Atoi (s : ByteArray) (w : World) (hg : Glob w) (hs : s.size ≤ 281474976710656) : Ret Tryd.prog 37 [.string s] w fun v w1 => Kp No w w1 ∧
    ((∃ n, v = .tuple #[.int .i64 n, .nilIface] ∧ Lib.atoiAll s.data.toList = .ok n ∧ I64 n) ∨ (∃ n t p, v = .tuple #[.int .i64 n, .iface t p] ∧ ∀ m, Lib.atoiAll s.data.toList ≠ .ok m)) := by
  cases h : Lib.atoiAll s.data.toList with
  | ok n =>
    refine Calls.mono (Tryd.strconv_Atoi_ok s (by omega) n h w) ?_
    rintro e w1 ⟨rfl, hw⟩
    refine ⟨_, rfl, ?_, .inl ⟨n, rfl, rfl, ?_⟩⟩
    · rcases hw with rfl | ⟨t, rfl⟩
      · exact Kp.refl _ _
      · exact Kp.of_below (Lib.bytesWorld_below w _ t)
    · unfold Lib.atoiAll at h
      split at h
      · cases h
      · simp only at h
        split at h
        · cases h
        · cases h
        · split at h
          · cases h
          · split at h
            · cases h
            · simp only [Lib.NumEnd.ok.injEq] at h
              subst h
              unfold I64
              split <;> omega
  | «syntax» =>
    obtain ⟨t, p, hc⟩ := hg.syn
    refine Calls.mono (Tryd.strconv_Atoi_syntax s hs h _ w hc (.inr ⟨t, p, rfl⟩)) ?_
    rintro e w1 ⟨N, rfl, _, _, hb⟩
    exact ⟨_, rfl, Kp.of_below hb, .inr ⟨_, _, _, rfl, fun m e => by cases e⟩⟩
  | range =>
    obtain ⟨t, p, hc⟩ := hg.rng
    refine Calls.mono (Tryd.strconv_Atoi_range s hs h _ w hc (.inr ⟨t, p, rfl⟩)) ?_
    rintro e w1 ⟨N, rfl, _, _, hb⟩
    exact ⟨_, rfl, Kp.of_below hb, .inr ⟨_, _, _, rfl, fun m e => by cases e⟩⟩
/-- num, as the program asks it. -/
theorem num_ok {s : ByteArray} {n : Int} (h : Lib.atoiAll s.data.toList = .ok n) : num (B s) = if dc n = B s then some n else none := by
  rw [num, ← B_data, h]
theorem num_bad {s : ByteArray} (h : ∀ m, Lib.atoiAll s.data.toList ≠ .ok m) : num (B s) = none := by
  rw [num, ← B_data]
  split
  · rename_i n e; exact (h n e).elim
  · rfl
theorem num_I64 {L : List Int} {n : Int} (h : num L = some n) : I64 n := by
  unfold num at h
  split at h
  · rename_i m e
    split at h
    · simp only [Option.some.injEq] at h
      subst h
      generalize L.map (fun c => c.toNat.toUInt8) = l at e
      unfold Lib.atoiAll at e
      split at e
      · cases e
      · simp only at e
        split at e
        · cases e
        · cases e
        · split at e
          · cases e
          · split at e
            · cases e
            · simp only [Lib.NumEnd.ok.injEq] at e
              subst e
              unfold I64
              split <;> omega
    · cases h
  · cases h
end Lb
end Go.Proofs.YtpamkidcmjfieaaDoor
