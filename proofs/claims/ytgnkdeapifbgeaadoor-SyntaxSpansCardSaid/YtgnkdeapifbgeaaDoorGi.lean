/- Maps of texts: made, filled, looked up; the parser's kinds of plain words. -/
import Derived.Test.YtgnkdeapifbgeaaDoorGh
import Derived.MapKept
namespace Go.Proofs.YtgnkdeapifbgeaaDoor
open Go Go.RowKit
set_option linter.unusedVariables false
set_option maxRecDepth 20000
namespace Fw
section
variable {P : Program} {w : World} {q : Pst P} {n : Nat} {l : Slots} {ds : List Deferred} {rest : List Oper} {ops : Array Oper} {d : Nat} {op : Op} {ty : TypeId} {pos : String} {af : Array Edge} {ρ : Operand → Value} {g : Option (Nat × Bool)} {dst : Option Nat}
theorem findKey_now {kt : TypeId} {td : TypeDesc} {k : Value} {es : List MapEntry} {r : Option (Nat × Value)} (hk : P.underlying kt = some td) (h : Instr.findNow td k es 0 = some r) : (Instr.findKey kt k es).run P w = .ok r w := by
  simp [Instr.findKey, run_underlying hk, Sem.run_bind, Result.andThen, h]
theorem r_mm {t : TypeId} : Rn P ρ ⟨dst, .makeMap t none, ty, pos, af, g⟩ w (.ok (.value (.map (some w.heap.size))) (w.alloc (.map #[] 0))) := ⟨run_v rfl⟩
theorem s_mm {t : TypeId} (h : ∀ b w1, Kp No w w1 → w.heap.size ≤ b → w1.heap[b]? = some (.map #[] 0) → Wl P ops q rest n ((d, .map (some b)) :: l) ds w1) : Wl P ops q (⟨some d, .makeMap t none, ty, pos, af, none⟩ :: rest) n l ds w :=
  s_go r_mm (h _ _ (Kp.alloc _ _) (Nat.le_refl _) (heap_alloc_new w _))
/-- A key that isn't there is put. -/
theorem s_ins {t kt et : TypeId} {x y z : Operand} {b : Nat} {k v : Value} {td : TypeDesc} {es : Array MapEntry} {clock : Nat} (ht : P.underlying t = some (.map kt et)) (hk : P.underlying kt = some td) (hx : ev n l x = .map (some b)) (hy : mvv (ev n l y) = some k) (hz : mvv (ev n l z) = some v)
    (hkey : MapKept.IsKey td k) (hb : w.heap[b]? = some (.map es clock)) (hf : Instr.findNow td k es.toList 0 = some none)
    (h : ∀ w1, Kp (fun i => i = b) w w1 → w1.heap[b]? = some (.map (es.push ⟨k, v, clock⟩) (clock + 1)) → Wl P ops q rest n l ds w1) : Wl P ops q (⟨none, .insert t x y z, ty, pos, af, none⟩ :: rest) n l ds w := by
  have hr : (execOp (ev n l) ⟨none, .insert t x y z, ty, pos, af, none⟩).run P w = .ok .skip { w with heap := w.heap.setIfInBounds b (.map (es.push ⟨k, v, clock⟩) (clock + 1)) } := by
    simp only [execOp, hx, mvv_eq hy, mvv_eq hz]
    simp [Instr.mapUpdate, Sem.run_bind, run_underlying ht, Result.andThen, MapKept.run_getObj_map hb, MapKept.run_checkKey hk hkey, findKey_now hk hf, MapKept.run_setObj_map _ hb]
  refine ⟨wpList_plain rfl fun K hK => ?_⟩
  unfold Oper.wp
  rw [eval_A, hr, Oper.upon_skip, put_A_none]
  have hlt := lt_of_get hb
  exact hK _ _ (h { w with heap := w.heap.setIfInBounds b (.map (es.push ⟨k, v, clock⟩) (clock + 1)) } ⟨rfl, rfl, rfl, by simp, fun i _ hi => by simp [Ne.symm hi]⟩ (by simp [hlt])).up
theorem r_lk {t kt et : TypeId} {x y : Operand} {b i : Nat} {k v : Value} {td : TypeDesc} {es : Array MapEntry} {clock : Nat} (ht : P.underlying t = some (.map kt et)) (hk : P.underlying kt = some td) (hx : ρ x = .map (some b)) (hy : mvv (ρ y) = some k)
    (hkey : MapKept.IsKey td k) (hb : w.heap[b]? = some (.map es clock)) (hf : Instr.findNow td k es.toList 0 = some (some (i, v))) : Rn P ρ ⟨dst, .lookup t x y false, ty, pos, af, g⟩ w (.ok (.value v) w) := by
  refine ⟨run_v ?_⟩
  rw [hx, mvv_eq hy]
  simp [Instr.lookup, Sem.run_bind, run_underlying ht, Result.andThen, MapKept.run_getObj_map hb, MapKept.run_checkKey hk hkey, findKey_now hk hf]
end
end Fw
namespace Sy
open Fw
def kT : Value := .string (Tk.strOf wTrue)
def kF : Value := .string (Tk.strOf wFalse)
def kR : Value := .string (Tk.strOf wRead)
def plainM : Array MapEntry := #[⟨kT, .int .i64 2, 0⟩, ⟨kF, .int .i64 3, 1⟩, ⟨kR, .int .i64 7, 2⟩]
theorem plainF (w : World) : Ret Tryd.prog 73 [] w fun v w1 => ∃ b, v = .map (some b) ∧ w1.heap[b]? = some (.map plainM 3) ∧ Kp No w w1 := by
  refine ret_enter Tryd.func73 rfl Tryd.ntmps73 rfl ?_
  (repeat (first | refine k_nil ?_ | refine k_n ?_ | refine k_r ?_ | refine k_x ?_ | refine b_n ?_ | refine b_r ?_ | refine b_y rfl ?_ | refine b_z rfl ?_ | refine l_r ?_ | refine l_x ?_ | refine k_seq ?_ | refine k_blk ?_ | refine k_reg ?_ | refine k_ret ?_ | refine k_exit ?_ | refine k_skip ?_ | refine Zs ?_))
  refine s_mm (fun b w1 k1 hn hb1 => ?_)
  refine s_ins (k := kT) (v := .int .i64 2) (td := .string) rfl rfl rfl rfl rfl trivial hb1 rfl (fun w2 k2 hb2 => ?_)
  refine s_ins (k := kF) (v := .int .i64 3) (td := .string) rfl rfl rfl rfl rfl trivial hb2 (by kernel_rfl) (fun w3 k3 hb3 => ?_)
  refine s_ins (k := kR) (v := .int .i64 7) (td := .string) rfl rfl rfl rfl rfl trivial hb3 (by kernel_rfl) (fun w4 k4 hb4 => ?_)
  (repeat (first | refine k_nil ?_ | refine k_n ?_ | refine k_r ?_ | refine k_x ?_ | refine b_n ?_ | refine b_r ?_ | refine b_y rfl ?_ | refine b_z rfl ?_ | refine l_r ?_ | refine l_x ?_ | refine k_seq ?_ | refine k_blk ?_ | refine k_reg ?_ | refine k_ret ?_ | refine k_exit ?_ | refine k_skip ?_ | refine Zs ?_))
  exact ret_1 rfl rfl ⟨b, rfl, hb4, ((k1.trans k2 fun i hi e => (by have e : i = b := e; omega)).trans k3 fun i hi e => (by have e : i = b := e; omega)).trans k4 fun i hi e => (by have e : i = b := e; omega)⟩
end Sy
end Go.Proofs.YtgnkdeapifbgeaaDoor
