/- The equality of structs, for the sort's walk. -/
import Derived.Test.YtkllhfajldnpoaaPk11
namespace Go.Proofs.Ytkllhfajldnpoaa.Fw
open Go Go.RowKit
set_option linter.unusedSimpArgs false
set_option linter.unusedVariables false
/-- A part of a struct's cells. -/
def partV (P : Program) (ft : TypeId) (cs : List Value) (off : Nat) : Option Value :=
  match aggT P ft with
  | some false => (match cs[off]? with | some u => mvv u | none => none)
  | some true => (match szT P ft with | some n => some (.agg ((cs.drop off).take n).toArray) | none => none)
  | none => none
def eqF (P : Program) (rec : TypeId → Value → Value → Option Bool) (xs ys : List Value) : List Field → Option Bool
  | [] => some true
  | f :: fs =>
    match partV P f.type xs f.offset, partV P f.type ys f.offset with
    | some a, some b => (match rec f.type a b, eqF P rec xs ys fs with
      | some r, some s => bif f.name == "_" then none else some (r && s)
      | _, _ => none)
    | _, _ => none
def eqT (P : Program) (ok : List TypeId) : Nat → TypeId → Value → Value → Option Bool
  | 0 => fun _ _ _ => none
  | d + 1 => fun t x y =>
    match P.underlying t, x, y with
    | some .bool, .bool a, .bool b => some (a == b)
    | some (.int _), .int k a, .int k' b => if k = k' then some (a == b) else none
    | some .string, .string a, .string b => some (a.toList == b.toList)
    | some (.struct fs), .agg xs, .agg ys => bif ok.contains t then eqF P (eqT P ok d) xs.toList ys.toList fs.toList else none
    | _, _, _ => none
variable {P : Program} {w : World} {ρ : Operand → Value} {dst : Option Tmp} {ty : TypeId} {pos : String} {af : Array Edge} {g : Option (Nat × Bool)}
theorem run_partV {ft : TypeId} {cs : List Value} {off : Nat} {v : Value} (h : partV P ft cs off = some v) : (part ft cs.toArray off).run P w = .ok v w := by
  unfold partV at h
  split at h
  · rename_i ha
    split at h
    · rename_i u hu
      have := mvv_eq h; subst this
      simp [part, run_aggT ha, hu, Sem.run_bind, Sem.run_pure, Result.andThen_ok]
    · cases h
  · rename_i ha
    split at h
    · rename_i n hn
      simp only [Option.some.injEq] at h
      subst h
      simp only [part, run_aggT ha, run_szT hn, Sem.run_bind, Sem.run_pure, Result.andThen_ok, if_true]
      congr 2
      apply Array.ext'
      simp [List.extract_eq_take_drop, Nat.add_sub_cancel_left]
    · cases h
  · cases h
theorem run_eqT {ok : List TypeId} (hok : ok.all (fun t => !P.stoodInHeld t) = true) : ∀ (d : Nat) (t : TypeId) (x y : Value) (b : Bool), eqT P ok d t x y = some b → ∀ e, (Op.equalIn (d + e) t x y).run P w = .ok b w := by
  intro d
  induction d using Nat.strongRecOn with
  | _ d ih =>
    intro t x y b h e
    cases d with
    | zero => simp [eqT] at h
    | succ d =>
      have e1 : d + 1 + e = (d + e) + 1 := by omega
      rw [e1]
      simp only [eqT] at h
      split at h
      · rename_i hu
        simp only [Option.some.injEq] at h; subst h
        exact run_equalIn_bool' w _ _ _ _ hu
      · rename_i hu
        split at h
        · rename_i hk; subst hk
          simp only [Option.some.injEq] at h; subst h
          exact run_equalIn_int w _ _ _ _ _ _ hu
        · cases h
      · rename_i hu
        simp only [Option.some.injEq] at h; subst h
        exact run_equalIn_string w _ _ _ _ hu
      · rename_i fs xs ys hu
        have hc : ok.contains t = true := by
          cases h' : ok.contains t
          · rw [h'] at h; cases h
          · rfl
        rw [hc] at h
        simp only [cond_true] at h
        have hp : P.stoodInHeld t = false := by
          have := List.all_eq_true.1 hok t (by simpa using hc)
          simpa using this
        have hf : P.fieldsOf t = fs := by simp [Program.fieldsOf, hu]
        rw [run_equalIn_agg w _ t xs ys (by rw [hf]; exact hu) hp, hf]
        have key : ∀ (fs : List Field) (b : Bool), eqF P (eqT P ok d) xs.toList ys.toList fs = some b → (Op.eqFields (d + e) xs ys fs).run P w = .ok b w := by
          intro fs
          induction fs with
          | nil => intro b h; simp only [eqF, Option.some.injEq] at h; subst h; simp [Op.eqFields]
          | cons f fs ihf =>
            intro b h
            simp only [eqF] at h
            split at h
            · rename_i a c ha hc
              split at h
              · rename_i r s hr hs
                have hn : (f.name == "_") = false := by
                  cases h' : (f.name == "_")
                  · rfl
                  · rw [h'] at h; cases h
                rw [hn] at h
                simp only [cond_false, Option.some.injEq] at h
                subst h
                have hn' : f.name ≠ "_" := by simpa using hn
                have h1 := ih d (by omega) _ _ _ _ hr e
                have h2 := ihf _ hs
                have ha' := run_partV (w := w) ha
                have hc' := run_partV (w := w) hc
                rw [Array.toArray_toList] at ha' hc'
                rw [Op.eqFields]
                simp only [if_pos hn', Sem.run_bind, ha', hc', h1, Result.andThen_ok]
                cases r
                · simp
                · simpa using h2
              · cases h
            · cases h
        exact key _ _ h
      · cases h
theorem r_eqs (ok : List TypeId) {t t' : TypeId} {x y : Operand} {xs ys : Array Value} {b : Bool} (hok : ok.all (fun t => !P.stoodInHeld t) = true) (hm : P.eqGuardType P.depth t = false) (hx : ρ x = .agg xs) (hy : ρ y = .agg ys) (h : eqT P ok 8 t (.agg xs) (.agg ys) = some b) :
    Rn P ρ ⟨dst, .binOp .eql t x y t', ty, pos, af, g⟩ w (.ok (.value (.bool b)) w) := by
  refine ⟨run_v ?_⟩
  have := run_eqT (w := w) hok 8 _ _ _ _ h 9992
  rw [hx, hy]
  simp only [Sem.run_bind, run_eqGuard_agg w .eql t x y xs ys hm, Result.andThen_ok, run_eql_struct, this]
end Go.Proofs.Ytkllhfajldnpoaa.Fw
