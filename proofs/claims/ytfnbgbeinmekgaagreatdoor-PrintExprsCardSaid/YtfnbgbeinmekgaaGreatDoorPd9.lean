/- What the proofs of this seat lean on, part 9. -/
import Derived.Test.YtfnbgbeinmekgaaGreatDoorPd8
import Derived.MapKept
namespace Go.Proofs.YtfnbgbeinmekgaaGreatDoor
open Go Go.RowKit
set_option linter.unusedVariables false
set_option maxRecDepth 20000
namespace Fw
section
variable {P : Program} {w : World} {q : Pst P} {n : Nat} {l : Slots} {ds : List Deferred} {rest : List Oper} {ops : Array Oper} {d : Nat} {op : Op} {ty : TypeId} {pos : String} {af : Array Edge} {ρ : Operand → Value} {g : Option (Nat × Bool)} {dst : Option Nat}
theorem findKey_now {kt : TypeId} {td : TypeDesc} {k : Value} {es : List MapEntry} {r : Option (Nat × Value)} (hk : P.underlying kt = some td) (h : Instr.findNow td k es 0 = some r) : (Instr.findKey kt k es).run P w = .ok r w := by
  simp [Instr.findKey, run_underlying hk, Sem.run_bind, Result.andThen, h]
theorem r_mm {t : TypeId} : Rn P ρ ⟨dst, .makeMap t none, ty, pos, af, g⟩ w (.ok (.value (.map (some w.heap.size))) (w.alloc (.map #[] 0))) := ⟨run_v rfl⟩
theorem s_mm {t : TypeId} (h : ∀ b w1, Kp No w w1 → w.heap.size ≤ b → w1.heap[b]? = some (.map #[] 0) → Wl P ops q rest n ((d, .map (some b)) :: l) ds w1) : Wl P ops q (⟨some d, .makeMap t none, ty, pos, af, none⟩ :: rest) n l ds w :=
  s_go r_mm (h _ _ (Kp.alloc _ _) (Nat.le_refl _) (heap_alloc_new w _))
/-- A key that isn't there is put. -/
theorem s_ins {t kt et : TypeId} {x y z : Operand} {b : Nat} {k v : Value} {td : TypeDesc} {es : Array MapEntry} {clock : Nat} (ht : P.underlying t = some (.map kt et)) (hk : P.underlying kt = some td) (hx : ev n l x = .map (some b)) (hy : mvv (ev n l y) = some k) (hz : mvv (ev n l z) = some v)
    (hkey : MapKept.IsKey td k) (hb : w.heap[b]? = some (.map es clock)) (hf : Instr.findNow td k es.toList 0 = some none)
    (h : ∀ w1, Kp (fun i => i = b) w w1 → w1.heap[b]? = some (.map (es.push ⟨k, v, clock⟩) (clock + 1)) → Wl P ops q rest n l ds w1) : Wl P ops q (⟨none, .insert t x y z, ty, pos, af, none⟩ :: rest) n l ds w := by
  have hr : (execOp (ev n l) ⟨none, .insert t x y z, ty, pos, af, none⟩).run P w = .ok .skip { w with heap := w.heap.setIfInBounds b (.map (es.push ⟨k, v, clock⟩) (clock + 1)) } := by
    simp only [execOp, hx, mvv_eq hy, mvv_eq hz]
    simp [Instr.mapUpdate, Sem.run_bind, run_underlying ht, Result.andThen, MapKept.run_getObj_map hb, MapKept.run_checkKey hk hkey, findKey_now hk hf, MapKept.run_setObj_map _ hb]
  refine ⟨wpList_plain rfl fun K hK => ?_⟩
  unfold Oper.wp
  rw [eval_A, hr, Oper.upon_skip, put_A_none]
  have hlt := lt_of_get hb
  exact hK _ _ (h { w with heap := w.heap.setIfInBounds b (.map (es.push ⟨k, v, clock⟩) (clock + 1)) } ⟨rfl, rfl, rfl, by simp, fun i _ hi => by simp [Ne.symm hi]⟩ (by simp [hlt])).up
theorem r_lk {t kt et : TypeId} {x y : Operand} {b i : Nat} {k v : Value} {td : TypeDesc} {es : Array MapEntry} {clock : Nat} (ht : P.underlying t = some (.map kt et)) (hk : P.underlying kt = some td) (hx : ρ x = .map (some b)) (hy : mvv (ρ y) = some k)
    (hkey : MapKept.IsKey td k) (hb : w.heap[b]? = some (.map es clock)) (hf : Instr.findNow td k es.toList 0 = some (some (i, v))) : Rn P ρ ⟨dst, .lookup t x y false, ty, pos, af, g⟩ w (.ok (.value v) w) := by
  refine ⟨run_v ?_⟩
  rw [hx, mvv_eq hy]
  simp [Instr.lookup, Sem.run_bind, run_underlying ht, Result.andThen, MapKept.run_getObj_map hb, MapKept.run_checkKey hk hkey, findKey_now hk hf]
end
end Fw
namespace Sy
open Fw
def kT : Value := .string (Tk.strOf wTrue)
def kF : Value := .string (Tk.strOf wFalse)
def kR : Value := .string (Tk.strOf wRead)
def plainM : Array MapEntry := #[⟨kT, .int .i64 2, 0⟩, ⟨kF, .int .i64 3, 1⟩, ⟨kR, .int .i64 7, 2⟩]
theorem plainF (w : World) : Ret Tryz.prog 152 [] w fun v w1 => ∃ b, v = .map (some b) ∧ w1.heap[b]? = some (.map plainM 3) ∧ Kp No w w1 := by
  refine ret_enter Tryz.func152 rfl Tryz.ntmps152 rfl ?_
  (repeat refine Zr ?_)
  refine s_mm (fun b w1 k1 hn hb1 => ?_)
  refine s_ins (k := kT) (v := .int .i64 2) (td := .string) rfl rfl rfl rfl rfl trivial hb1 rfl (fun w2 k2 hb2 => ?_)
  refine s_ins (k := kF) (v := .int .i64 3) (td := .string) rfl rfl rfl rfl rfl trivial hb2 (by kernel_rfl) (fun w3 k3 hb3 => ?_)
  refine s_ins (k := kR) (v := .int .i64 7) (td := .string) rfl rfl rfl rfl rfl trivial hb3 (by kernel_rfl) (fun w4 k4 hb4 => ?_)
  (repeat refine Zr ?_)
  exact ret_1 rfl rfl ⟨b, rfl, hb4, ((k1.trans k2 fun i hi e => (by have e : i = b := e; omega)).trans k3 fun i hi e => (by have e : i = b := e; omega)).trans k4 fun i hi e => (by have e : i = b := e; omega)⟩
end Sy
end Go.Proofs.YtfnbgbeinmekgaaGreatDoor
namespace Go.Proofs.YtfnbgbeinmekgaaGreatDoor.Sy
open Go Go.RowKit Fw
set_option linter.unusedVariables false
set_option maxRecDepth 20000
abbrev ptr (X : Cx) : Value := .pointer (some ⟨X.p, 0, none⟩)
/-- What the calls of the parts come to. -/
structure Wk (X : Cx) (L : Lv) : Prop where
  row : ∀ v d s V w g, v ≤ 5 → 0 ≤ d ∧ d ≤ 64 → At X w s V → LvAt w g → Does X 120 [ptr X, lvV g v, .int .i64 d] w V (L.row v d s) intV
  expr : ∀ d s V w, 0 ≤ d ∧ d ≤ 65 → At X w s V → Does X 102 [ptr X, .int .i64 d] w V (L.expr d s) intV
  unary : ∀ d s V w, 0 ≤ d ∧ d ≤ 64 → At X w s V → Does X 133 [ptr X, .int .i64 d] w V (L.unary d s) intV
  prim : ∀ d s V w, 0 ≤ d ∧ d ≤ 64 → At X w s V → Does X 143 [ptr X, .int .i64 d] w V (L.prim d s) intV
  stmt : ∀ d s V w, 0 ≤ d ∧ d ≤ 64 → At X w s V → Does X 77 [ptr X, .int .i64 d] w V (L.stmt d s) intV
  branch : ∀ fr d s V w, 0 ≤ d ∧ d ≤ 64 → At X w s V → Does X 101 [ptr X, .int .i64 fr, .int .i64 d] w V (L.branch fr d s) intV
theorem erP.up0 {α : Type} {X : Cx} {w0 w : World} {s : PS} {V0 V : VS} {r : Rs α} (h : Sg X w0 V0 w s V) : ∀ c w1, erP X w V r c w1 → erP X w0 V0 r c w1 := by
  rintro c w1 ⟨k, p, rfl, rfl, hk⟩
  exact ⟨k, p, rfl, rfl, h.gs.kp.trans hk fun i hi hs => h.gs.fr i hi hs⟩
theorem deep_le {E : Env} {d : Int} {s t : PS} {x : Unit} (h : deep E d s = .ok x t) : d ≤ 64 := by
  unfold deep at h
  split at h
  · cases h
  · omega
section
variable {X : Cx} {L : Lv}
theorem exprF (ok : Ok X) (hL : Wk X L) (d : Int) (s : PS) (V : VS) (w : World) (hd : 0 ≤ d ∧ d ≤ 65) (h : At X w s V) : Does X 102 [ptr X, .int .i64 d] w V (sExpr X.E L d s) intV := by
  intro hr
  unfold sExpr at hr ⊢
  refine retP_enter Tryz.func102 rfl Tryz.ntmps102 rfl ?_
  (repeat refine Zr ?_)
  refine s_callP (us := []) (zs := []) (by kernel_rfl) rfl rfl (deepF h ok d (bind_ne hr)) (erP.up (Sg.start h) rfl) ?_
  rintro v w1 ⟨x, s1, V1, e1, rfl, g1⟩
  have hd' := deep_le e1
  rw [e1, bind_ok] at hr ⊢
  (repeat refine Zr ?_)
  refine s_call (us := []) (zs := []) (by kernel_rfl) rfl rfl (levelsF w1) ?_
  rintro v w2 ⟨g, rfl, hg, k2⟩
  have g2 := g1.no k2
  (repeat refine Zr ?_)
  refine s_callP (us := []) (zs := []) (by kernel_rfl) rfl rfl (hL.row 0 d s1 V1 w2 g (by omega) (by omega) g2.at_ hg hr) (erP.up0 g2) ?_
  rintro v w3 ⟨x3, s3, V3, e3, rfl, g3⟩
  (repeat refine Zr ?_)
  exact retP_1 rfl rfl ⟨x3, s3, V3, e3, rfl, g2.call g3⟩
theorem unaryF (ok : Ok X) (hB : Bd L) (hL : Wk X L) (d : Int) (s : PS) (V : VS) (w : World) (hd : 0 ≤ d ∧ d ≤ 64) (h : At X w s V) : Does X 133 [ptr X, .int .i64 d] w V (sUnary X.E L d s) intV := by
  intro hr
  unfold sUnary at hr ⊢
  refine retP_enter Tryz.func133 rfl Tryz.ntmps133 rfl ?_
  (repeat refine Zr ?_)
  refine s_call (us := []) (zs := []) (by kernel_rfl) rfl rfl (hereF h ok) ?_
  rintro v w1 ⟨rfl, k1⟩
  have g1 := (Sg.start h).no k1
  (repeat refine Zr ?_)
  refine s_bs (cs := [Value.string (Tk.strOf wMinus), .string (Tk.strOf wNot)]) (e := 9) rfl (fun b2 w2 n2 => ?_)
  have g2 := g1.no n2.kp
  refine s_call (us := []) (zs := []) (by kernel_rfl) rfl rfl (takeF g2.at_ ok [Tk.strOf wMinus, Tk.strOf wNot] (some ⟨b2, 0, none⟩) 2 (RdN n2.blk) (by decide) (by decide)) ?_
  have em : [Tk.strOf wMinus, Tk.strOf wNot].map B = [wMinus, wNot] := by kernel_rfl
  rw [em]
  rintro v w3 ⟨x, hx, ⟨q, rfl, hz, g3⟩ | ⟨q, rfl, k3⟩⟩
  · have q' : Sy.wd X.E s = wMinus ∨ Sy.wd X.E s = wNot := by simpa using q
    rw [if_pos q'] at hr ⊢
    have g3 := g2.call g3
    (repeat refine Zr ?_)
    refine c_b rfl (fun hb => (by rw [show _ = _ from hz] at hb; cases hb)) (fun hb => ?_)
    refine k_re 6 (v := .string x) (v' := sv (Sy.wd X.E s)) rfl (by rw [← hx]; exact (sv_B x).symm) ?_
    (repeat refine Zr ?_)
    refine s_callP (us := []) (zs := []) (by kernel_rfl) rfl rfl (deepF g3.at_ ok (d + 1) (bind_ne hr)) (erP.up g3 rfl) ?_
    rintro v w4 ⟨y, s4, V4, e4, rfl, g4⟩
    have hd' := deep_le e4
    have e4' := deep_up e4
    subst e4'
    rw [e4, bind_ok] at hr ⊢
    have g4 := g3.call g4
    (repeat refine Zr ?_)
    refine s_callP (us := []) (zs := []) (by kernel_rfl) rfl rfl (hL.unary (d + 1) _ V4 w4 (by omega) g4.at_ (bind_ne hr)) (erP.up g4 rfl) ?_
    rintro v w5 ⟨a, s5, V5, e5, rfl, g5⟩
    rw [e5, bind_ok] at hr ⊢
    have g5 := g4.call g5
    have u := hB.unary _ _ _ _ e5
    (repeat refine Zr ?_)
    have hx5 : s5.ex.length + 1 ≤ s5.i := by
      have := g5.at_.xl
      have := g3.at_.xl
      unfold Up at u
      show s5.ex.length + 1 ≤ s5.i
      have e1 : (adv s).i = s.i + 1 := rfl
      have e2 : (adv s).ex = s.ex := rfl
      have := h.xl
      rw [e1, e2] at u
      omega
    refine s_callP (us := []) (zs := []) (by kernel_rfl) rfl rfl (putF g5.at_ ok (Sy.hr X.E s) { k := 8, op := Sy.wd X.E s, a := a } (.slice none 0 0) LI.nil Ow.nil hx5 hr) (erP.up0 g5) ?_
    rintro v w6 ⟨b, s6, V6, e6, rfl, g6⟩
    (repeat refine Zr ?_)
    exact retP_1 rfl rfl ⟨b, s6, V6, e6, rfl, g5.call g6⟩
  · have q' : ¬ (Sy.wd X.E s = wMinus ∨ Sy.wd X.E s = wNot) := by simpa using q
    rw [if_neg q'] at hr ⊢
    have g3 := g2.no k3
    (repeat refine Zr ?_)
    refine c_b rfl (fun hb => ?_) (fun hb => (by rw [show _ = _ from ez] at hb; cases hb))
    (repeat refine Zr ?_)
    refine s_callP (us := []) (zs := []) (by kernel_rfl) rfl rfl (hL.prim d s V w3 hd g3.at_ hr) (erP.up0 g3) ?_
    rintro v w4 ⟨a, s4, V4, e4, rfl, g4⟩
    (repeat refine Zr ?_)
    exact retP_1 rfl rfl ⟨a, s4, V4, e4, rfl, g3.call g4⟩
end
end Go.Proofs.YtfnbgbeinmekgaaGreatDoor.Sy
namespace Go.Proofs.YtfnbgbeinmekgaaGreatDoor.Sy
open Go Go.RowKit Fw
set_option linter.unusedVariables false
set_option maxRecDepth 20000
theorem subA_lv {g v : Nat} (hv : v < 5) : subA (some ⟨g, 2 * min v 4, none⟩) 1 (5 - v) 2 = some ⟨g, 2 * min (v + 1) 4, none⟩ := by
  match v, hv with
  | 0, _ => rfl
  | 1, _ => rfl
  | 2, _ => rfl
  | 3, _ => rfl
  | 4, _ => rfl
/-- What a row's loop is at. -/
structure RowS where
  m : Nat
  a : Int
  s : PS
  V : VS
section
variable {X : Cx} {n : Nat}
theorem rowF (ok : Ok X) (hW : ∀ m, m ≤ n → Wk X (lv X.E m)) (v : Nat) (d : Int) (s : PS) (V : VS) (w : World) (g : Nat) (hv : v ≤ 5) (hd : 0 ≤ d ∧ d ≤ 64) (h : At X w s V) (hg : LvAt w g) : Does X 120 [ptr X, lvV g v, .int .i64 d] w V (sRow X.E (lv X.E n) v d s) intV := by
  intro hr
  unfold sRow at hr ⊢
  refine retP_enter Tryz.func120 rfl Tryz.ntmps120 rfl ?_
  (repeat refine Zr ?_)
  refine c_eq rfl (fun q => ?_) (fun q => ?_)
  · have e : v = 5 := by omega
    rw [if_pos e] at hr ⊢
    (repeat refine Zr ?_)
    refine s_callP (us := []) (zs := []) (by kernel_rfl) rfl rfl ((hW n (Nat.le_refl _)).unary d s V w hd h hr) (erP.up0 (Sg.start h)) ?_
    rintro v w4 ⟨a, s4, V4, e4, rfl, g4⟩
    (repeat refine Zr ?_)
    exact retP_1 rfl rfl ⟨a, s4, V4, e4, rfl, g4⟩
  have hv5 : v < 5 := by omega
  rw [if_neg (by omega)] at hr ⊢
  (repeat refine Zr ?_)
  refine s_call (us := []) (zs := []) (by kernel_rfl) rfl rfl (hereF h ok) ?_
  rintro _ w1 ⟨rfl, k1⟩
  have g1 := (Sg.start h).no k1
  have hg1 := hg.no k1
  (repeat refine Zr ?_)
  refine s_v (r_slx (a' := some ⟨g, 2 * min (v + 1) 4, none⟩) (n' := 5 - (v + 1)) (c' := 5 - (v + 1)) (size := 2) (a := some ⟨g, 2 * min v 4, none⟩) (n := 5 - v) (c := 5 - v) (l := 1) (h := ((5 - v : Nat) : Int)) rfl rfl rfl rfl rfl (by omega) (by omega) (by omega) (by omega) (subA_lv hv5) (by omega) (by omega)) ?_
  (repeat refine Zr ?_)
  refine s_callP (us := []) (zs := []) (by kernel_rfl) rfl rfl ((hW n (Nat.le_refl _)).row (v + 1) d s V w1 g (by omega) hd g1.at_ hg1 (bind_ne hr)) (erP.up g1 rfl) ?_
  rintro _ w2 ⟨a, s2, V2, e2, rfl, g2'⟩
  rw [e2, bind_ok] at hr ⊢
  have hg2 := hg1.gs g1.at_ g2'.gs.kp
  have g2 := g1.call g2'
  obtain ⟨fr, hfr⟩ : ∃ fr, Sy.hr X.E s = fr := ⟨_, rfl⟩
  rw [hfr] at hr ⊢
  obtain ⟨R, hR⟩ : ∃ R, (lv X.E n).rows v d fr a s2 = R := ⟨_, rfl⟩
  rw [hR] at hr ⊢
  (repeat refine Zr ?_)
  refine k_loop (σ := RowS) (fun x => [(0, ptr X), (1, lvV g v), (2, .int .i64 d), (7, .int .i64 fr), (8, .int .i64 x.a)])
    (fun x w' => x.m ≤ n ∧ (lv X.E x.m).rows v d fr x.a x.s = R ∧ Sg X w V w' x.s x.V ∧ LvAt w' g) (fun x => x.m) ⟨n, a, s2, V2⟩ ⟨rfl, rfl, rfl, (by rw [← hfr]; rfl), rfl, trivial⟩ ⟨Nat.le_refl _, hR, g2, hg2⟩ ?_
  rintro ⟨m, a, s3, V3⟩ l w3 ⟨hm, hR3, g3, hg3⟩
  simp only at hm hR3 g3
  clear hR g2 hg2 e2 g2'
  cases m with
  | zero => exact (hr (by rw [← hR3]; rfl)).elim
  | succ m =>
  have hR3 : sRows X.E (lv X.E m) v d fr a s3 = R := hR3
  obtain ⟨lr, c1, c2, hrd⟩ := hg3.at hv5
  have hmin : min v 4 = v := by omega
  have hgv : lvV g v = .slice (some ⟨g, 2 * v, none⟩) (5 - v) (5 - v) := by unfold lvV; rw [hmin]
  simp only [hgv]
  (repeat refine Zr ?_)
  refine s_v (r_ia (size := 2) rfl rfl rfl rfl (by omega) (by omega)) ?_
  (repeat refine Zr ?_)
  refine s_call (us := []) (zs := []) (by kernel_rfl) rfl rfl (takeF g3.at_ ok (sgB v) (some ⟨lr, 0, none⟩) (sgB v).length hrd (sgB_len hv5) (sgB_ne hv5)) ?_
  rw [sgB_B v hv5]
  unfold sRows at hR3
  rintro _ w4 ⟨x, hx, ⟨q, rfl, hz, g4⟩ | ⟨q, rfl, k4⟩⟩
  · rw [if_pos q] at hR3
    have hne := bind_ne (show _ ≠ _ by rw [hR3]; exact hr)
    have hg4 := hg3.gs g3.at_ g4.gs.kp
    have g4 := g3.call g4
    (repeat refine Zr ?_)
    refine c_b rfl (fun hb => (by rw [show _ = _ from hz] at hb; cases hb)) (fun hb => ?_)
    refine k_re 9 (v := .string x) (v' := sv (Sy.wd X.E s3)) rfl (by rw [← hx]; exact (sv_B x).symm) ?_
    (repeat refine Zr ?_)
    refine s_v (r_slx (a' := some ⟨g, 2 * min (v + 1) 4, none⟩) (n' := 5 - (v + 1)) (c' := 5 - (v + 1)) (size := 2) (a := some ⟨g, 2 * v, none⟩) (n := 5 - v) (c := 5 - v) (l := 1) (h := ((5 - v : Nat) : Int)) rfl rfl rfl rfl rfl (by omega) (by omega) (by omega) (by omega) (by have := subA_lv (g := g) hv5; rw [hmin] at this; exact this) (by omega) (by omega)) ?_
    (repeat refine Zr ?_)
    refine s_callP (us := []) (zs := []) (by kernel_rfl) rfl rfl ((hW m (by omega)).row (v + 1) d _ V3 w4 g (by omega) hd g4.at_ hg4 hne) (erP.up g4 hR3.symm) ?_
    rintro _ w5 ⟨b, s5, V5, e5, rfl, g5'⟩
    rw [e5, bind_ok] at hR3
    have hg5 := hg4.gs g4.at_ g5'.gs.kp
    have g5 := g4.call g5'
    have hx5 : s5.ex.length + 1 ≤ s5.i := by
      have u := (bd_lv (E := X.E) m).row _ _ _ _ _ e5
      have := g3.at_.xl
      have e1 : (adv s3).i = s3.i + 1 := rfl
      have e2 : (adv s3).ex = s3.ex := rfl
      unfold Up at u
      rw [e1, e2] at u
      omega
    (repeat refine Zr ?_)
    refine s_callP (us := []) (zs := []) (by kernel_rfl) rfl rfl (putF g5.at_ ok fr { k := 9, op := Sy.wd X.E s3, a := a, b := b } (.slice none 0 0) LI.nil Ow.nil hx5 put_no) (erP.up g5 hR3.symm) ?_
    rintro _ w6 ⟨c, s6, V6, e6, rfl, g6'⟩
    rw [e6, bind_ok] at hR3
    have hg6 := hg5.gs g5.at_ g6'.gs.kp
    have g6 := g5.call g6'
    obtain ⟨lr6, c16, c26, hrd6⟩ := hg6.at hv5
    (repeat refine Zr ?_)
    refine s_v (r_ia (size := 2) rfl rfl rfl rfl (by omega) (by omega)) ?_
    (repeat refine Zr ?_)
    refine c_b rfl (fun hb => ?_) (fun hb => ?_)
    · have hb : (v == 2) = true := hb
      rw [if_pos (by simpa using hb)] at hR3
      (repeat refine Zr ?_)
      exact retP_1 rfl rfl ⟨c, s6, V6, hR3.symm, rfl, g6⟩
    · have hb : (v == 2) = false := hb
      rw [if_neg (by simpa using hb)] at hR3
      (repeat refine Zr ?_)
      exact l_next ⟨m, c, s6, V6⟩ ⟨rfl, rfl, rfl, rfl, rfl, trivial⟩ ⟨by simp only; omega, hR3, g6, hg6⟩ (by simp)
  · rw [if_neg q] at hR3
    have g4 := g3.no k4
    (repeat refine Zr ?_)
    refine c_b rfl (fun hb => ?_) (fun hb => (by rw [show _ = _ from ez] at hb; cases hb))
    (repeat refine Zr ?_)
    exact retP_1 rfl rfl ⟨a, s3, V3, hR3.symm, rfl, g4⟩
end
end Go.Proofs.YtfnbgbeinmekgaaGreatDoor.Sy
namespace Go.Proofs.YtfnbgbeinmekgaaGreatDoor.Sy
open Go Go.RowKit Fw
set_option linter.unusedVariables false
set_option maxRecDepth 20000
theorem take1 {X : Cx} {w : World} {s : PS} {V : VS} (h : At X w s V) (ok : Ok X) (y : ByteArray) (hy : B y ≠ []) {b : Nat} {T : TypeId} (hb : w.heap[b]? = some (.cells [Value.string y].toArray T (0, 0))) :
    Ret Tryz.prog 44 [ptr X, .slice (some ⟨b, 0, none⟩) 1 1] w fun v w1 => ∃ x, (v = .string x ∧ (Sy.wd X.E s = B y ∧ (x.toList == (⟨#[]⟩ : ByteArray).toList) = false ∧ Sg X w V w1 (adv s) V) ∨ v = .string x ∧ (Sy.wd X.E s ≠ B y ∧ (x.toList == (⟨#[]⟩ : ByteArray).toList) = true ∧ Kp No w w1)) := by
  refine (takeF h ok [y] (some ⟨b, 0, none⟩) 1 (Rd1 hb) (Nat.le_of_ble_eq_true rfl) (by simpa using hy)).mono ?_
  rintro v w1 ⟨x, hx, ⟨q, rfl, hz, g⟩ | ⟨q, rfl, k⟩⟩
  · exact ⟨x, .inl ⟨rfl, by simpa using q, hz, g⟩⟩
  · exact ⟨⟨#[]⟩, .inr ⟨rfl, by simpa using q, ez, k⟩⟩
theorem is1 {X : Cx} {w : World} {s : PS} {V : VS} (h : At X w s V) (ok : Ok X) (y : ByteArray) (hy : B y ≠ []) {b : Nat} {T : TypeId} (hb : w.heap[b]? = some (.cells [Value.string y].toArray T (0, 0))) :
    Ret Tryz.prog 40 [ptr X, .slice (some ⟨b, 0, none⟩) 1 1] w fun v w1 => v = .bool (decide (Sy.wd X.E s = B y)) ∧ Kp No w w1 := by
  refine (isF h ok [y] (some ⟨b, 0, none⟩) 1 (Rd1 hb) (Nat.le_of_ble_eq_true rfl) (by simpa using hy)).mono ?_
  rintro v w1 ⟨rfl, k⟩
  exact ⟨by simp, k⟩
theorem is2 {X : Cx} {w : World} {s : PS} {V : VS} (h : At X w s V) (ok : Ok X) (y z : ByteArray) (hy : B y ≠ []) (hz : B z ≠ []) {b : Nat} {T : TypeId} (hb : w.heap[b]? = some (.cells [Value.string y, Value.string z].toArray T (0, 0))) :
    Ret Tryz.prog 40 [ptr X, .slice (some ⟨b, 0, none⟩) 2 2] w fun v w1 => v = .bool (decide (Sy.wd X.E s = B y ∨ Sy.wd X.E s = B z)) ∧ Kp No w w1 := by
  refine (isF h ok [y, z] (some ⟨b, 0, none⟩) 2 (RdN hb) (Nat.le_of_ble_eq_true rfl) (by simp [Ne.symm hy, Ne.symm hz])).mono ?_
  rintro v w1 ⟨rfl, k⟩
  exact ⟨by simp, k⟩
/-- A number's digits. -/
theorem At.digs {X : Cx} {w : World} {s : PS} {V : VS} (h : At X w s V) (ok : Ok X) (hk : kd X.E s = 2) : ∃ x, Sy.wd X.E s = B x ∧ x.size ≤ 18 ∧ ∀ c ∈ B x, 48 ≤ c ∧ c ≤ 57 := by
  obtain ⟨t, x, ht, hx, e1, e2, e3⟩ := h.tok ok
  obtain ⟨h1, h2⟩ := ok.num _ _ _ ht hx (by rw [← e1]; exact hk)
  exact ⟨x, e3, h1, h2⟩
theorem numF {X : Cx} {w0 w : World} {s : PS} {V : VS} (h : At X w0 s V) (ok : Ok X) (hk : kd X.E s = 2) : Ret Tryz.prog 119 [sv (Sy.wd X.E s)] w fun v w1 => v = .int .i64 (num (Sy.wd X.E s)) ∧ w1 = w := by
  obtain ⟨x, hx, h1, h2⟩ := h.digs ok hk
  rw [hx, sv_B]
  exact numberF x w h1 h2
section
variable {X : Cx} {L : Lv}
theorem putX {w0 w : World} {s : PS} {V0 V : VS} (g : Sg X w0 V0 w s V) (ok : Ok X) (fr : Int) (x : Ex) (lv : Value) (hl : LI w lv x.l) (how : Ow V lv) (hx : s.ex.length + 1 ≤ s.i) :
    RetP Tryz.prog 134 [ptr X, .int .i64 fr, .agg (exC (x, lv)).toArray] w (okP X w V (put X.E fr x s) intV) (fun _ _ => False) := by
  refine (putF g.at_ ok fr x lv hl how hx put_no).mono (fun _ _ h => h) ?_
  rintro c w1 ⟨k, p, e, _⟩
  cases e
def CallD (X : Cx) (L : Lv) : Prop := ∀ fr nm d s V w, 0 ≤ d ∧ d ≤ 64 → At X w s V → Does X 124 [ptr X, .int .i64 fr, sv nm, .int .i64 d] w V (call X.E L fr nm d s) intV
theorem primF (ok : Ok X) (hB : Bd L) (hL : Wk X L) (hC : CallD X L) (d : Int) (s : PS) (V : VS) (w : World) (hd : 0 ≤ d ∧ d ≤ 64) (h : At X w s V) : Does X 143 [ptr X, .int .i64 d] w V (sPrim X.E L d s) intV := by
  intro hr
  have hxl := h.xl
  have hxa : (adv s).ex.length + 1 ≤ (adv s).i := by
    show s.ex.length + 1 ≤ s.i + 1
    omega
  unfold sPrim at hr ⊢
  refine retP_enter Tryz.func143 rfl Tryz.ntmps143 rfl ?_
  (repeat refine Zr ?_)
  refine s_call (us := []) (zs := []) (by kernel_rfl) rfl rfl (hereF h ok) ?_
  rintro _ w1 ⟨rfl, k1⟩
  have g1 := (Sg.start h).no k1
  have h1 := g1.at_
  obtain ⟨t, x0, ht, hx0, e1, e2, e3⟩ := h1.tok ok
  obtain ⟨gt, ct, et, hct⟩ := h1.tokens
  obtain ⟨c1, c2, c3⟩ := hct _ _ ht
  have hb := h1.blk
  rw [et] at hb
  have hlt := h1.lt
  have hll := ok.len
  have hbig := ok.big
  (repeat refine Zr ?_)
  refine k_q (by kernel_rfl) (by kernel_rfl) ?_
  (repeat (first | refine Zq ?_ | refine Zqn ?_ | refine Zqu ?_ | refine Zqg ?_))
  refine q_nil (fun w2 k2 => ?_)
  have g2 := g1.no k2
  clear hb c1 c2 c3 hct et ht hx0 e2 e3
  (repeat refine Zr ?_)
  refine c_eq rfl (fun q => ?_) (fun q => ?_)
  · have q : kd X.E s = 2 := by rw [e1]; exact q
    rw [if_pos q] at hr ⊢
    (repeat refine Zr ?_)
    refine s_callP (us := []) (zs := []) (by kernel_rfl) rfl rfl (kindF g2.at_ ok 2 (by decide) (by unfold knd; rw [if_pos q]; exact fun e => by cases e)) ?_ ?_
    · rintro c w3 ⟨k, p, e, _⟩
      unfold knd at e
      rw [if_pos q] at e
      cases e
    rintro _ w3 ⟨nm, s3, V3, e3, rfl, g3⟩
    unfold knd at e3
    rw [if_pos q] at e3
    cases e3
    have g3 := g2.call g3
    (repeat refine Zr ?_)
    refine s_call (us := []) (zs := []) (by kernel_rfl) rfl rfl (numF h ok q) ?_
    rintro _ w4 ⟨rfl, rfl⟩
    (repeat refine Zr ?_)
    refine s_callP (us := []) (zs := []) (by kernel_rfl) rfl rfl (putX g3 ok (Sy.hr X.E s) { k := 1, n := num (Sy.wd X.E s) } (.slice none 0 0) LI.nil Ow.nil hxa) (fun _ _ h => h.elim) ?_
    rintro _ w5 ⟨b, s5, V5, e5, rfl, g5⟩
    (repeat refine Zr ?_)
    exact retP_1 rfl rfl ⟨b, s5, V5, e5, rfl, g3.call g5⟩
  rw [if_neg (by rw [e1]; exact q)] at hr ⊢
  (repeat refine Zr ?_)
  refine s_bs (cs := [kT, kF, kR]) (e := 9) rfl (fun b3 w3 n3 => ?_)
  have g3 := g2.no n3.kp
  refine s_call (us := []) (zs := []) (by kernel_rfl) rfl rfl (takeF g3.at_ ok [Tk.strOf wTrue, Tk.strOf wFalse, Tk.strOf wRead] (some ⟨b3, 0, none⟩) 3 (RdN n3.blk) (by decide) (by decide)) ?_
  have em : [Tk.strOf wTrue, Tk.strOf wFalse, Tk.strOf wRead].map B = [wTrue, wFalse, wRead] := by kernel_rfl
  rw [em]
  rintro _ w4 ⟨x, hx, ⟨q4, rfl, hz, g4⟩ | ⟨q4, rfl, k4⟩⟩
  · have g4 := g3.call g4
    (repeat refine Zr ?_)
    refine c_b rfl (fun hb => ?_) (fun hb => (by rw [show _ = _ from congrArg not hz] at hb; cases hb))
    (repeat refine Zr ?_)
    refine s_call (us := []) (zs := []) (by kernel_rfl) rfl rfl (plainF w4) ?_
    rintro _ w5 ⟨bm, rfl, hm, k5⟩
    have g5 := g4.no k5
    obtain ⟨kk, i, hf, hres⟩ : ∃ (kk : Int) (i : Nat), Instr.findNow .string (.string x) plainM.toList 0 = some (some (i, .int .i64 kk)) ∧ ((if Sy.wd X.E s = wTrue then put X.E (Sy.hr X.E s) { k := 2 } (adv s) else if Sy.wd X.E s = wFalse then put X.E (Sy.hr X.E s) { k := 3 } (adv s) else if Sy.wd X.E s = wRead then put X.E (Sy.hr X.E s) { k := 7 } (adv s)
        else if Sy.wd X.E s = wLpar then (L.expr (d + 1) (adv s)).bind fun a s1 => (want X.E wRpar s1).bind fun _ s2 => .ok a s2
        else (knd X.E 1 s).bind fun nm s1 =>
          if Sy.wd X.E s1 = wLbra then (L.expr (d + 1) (adv s1)).bind fun a s2 => (want X.E wRbra s2).bind fun _ s3 => put X.E (Sy.hr X.E s) { k := 5, nm := nm, a := a } s3
          else if Sy.wd X.E s1 = wLpar then call X.E L (Sy.hr X.E s) nm d s1
          else put X.E (Sy.hr X.E s) { k := 4, nm := nm } s1) = put X.E (Sy.hr X.E s) { k := kk } (adv s)) := by
      have ex : ∀ l, l.all (fun c => decide (0 ≤ c) && decide (c < 256)) = true → Sy.wd X.E s = l → x = Tk.strOf l := fun l hl e => B_inj (by rw [hx, e, B_of hl])
      simp only [List.mem_cons, List.not_mem_nil, or_false] at q4
      rcases q4 with q4 | q4 | q4
      · refine ⟨2, 0, ?_, by rw [if_pos q4]⟩
        rw [ex _ (by decide) q4]; kernel_rfl
      · refine ⟨3, 1, ?_, by rw [if_neg (by rw [q4]; decide), if_pos q4]⟩
        rw [ex _ (by decide) q4]; kernel_rfl
      · refine ⟨7, 2, ?_, by rw [if_neg (by rw [q4]; decide), if_neg (by rw [q4]; decide), if_pos q4]⟩
        rw [ex _ (by decide) q4]; kernel_rfl
    rw [hres] at hr ⊢
    (repeat refine Zr ?_)
    refine s_v (r_lk (td := .string) (k := .string x) rfl rfl rfl rfl trivial hm hf) ?_
    (repeat refine Zr ?_)
    refine s_callP (us := []) (zs := []) (by kernel_rfl) rfl rfl (putX g5 ok (Sy.hr X.E s) { k := kk } (.slice none 0 0) LI.nil Ow.nil hxa) (fun _ _ h => h.elim) ?_
    rintro _ w6 ⟨b, s6, V6, e6, rfl, g6⟩
    (repeat refine Zr ?_)
    exact retP_1 rfl rfl ⟨b, s6, V6, e6, rfl, g5.call g6⟩
  simp only [List.mem_cons, List.not_mem_nil, or_false, not_or] at q4
  rw [if_neg q4.1, if_neg q4.2.1, if_neg q4.2.2] at hr ⊢
  have g4 := g3.no k4
  (repeat refine Zr ?_)
  refine c_b rfl (fun hb => (by rw [show _ = _ from congrArg not ez] at hb; cases hb)) (fun hb => ?_)
  (repeat refine Zr ?_)
  refine s_bs (cs := [.string (Tk.strOf wLpar)]) (e := 9) rfl (fun b5 w5 n5 => ?_)
  have g5 := g4.no n5.kp
  have el : B (Tk.strOf wLpar) = wLpar := B_of (by decide)
  refine s_call (us := []) (zs := []) (by kernel_rfl) rfl rfl (take1 g5.at_ ok (Tk.strOf wLpar) (by rw [el]; decide) n5.blk) ?_
  rw [el]
  rintro _ w6 ⟨y, ⟨rfl, q6, hz, g6⟩ | ⟨rfl, q6, hz, k6⟩⟩
  · rw [if_pos q6] at hr ⊢
    have g6 := g5.call g6
    (repeat refine Zr ?_)
    refine c_b rfl (fun hb => ?_) (fun hb => (by rw [show _ = _ from congrArg not hz] at hb; cases hb))
    (repeat refine Zr ?_)
    refine s_callP (us := []) (zs := []) (by kernel_rfl) rfl rfl (hL.expr (d + 1) _ V w6 (by omega) g6.at_ (bind_ne hr)) (erP.up g6 rfl) ?_
    rintro _ w7 ⟨a, s7, V7, e7, rfl, g7⟩
    rw [e7, bind_ok] at hr ⊢
    have g7 := g6.call g7
    (repeat refine Zr ?_)
    have er : B (Tk.strOf wRpar) = wRpar := B_of (by decide)
    refine s_callP (us := []) (zs := []) (by kernel_rfl) rfl rfl (wantF g7.at_ ok (Tk.strOf wRpar) (by rw [er]; decide) (by rw [er]; exact bind_ne hr)) (by rw [er]; exact erP.up g7 rfl) ?_
    rw [er]
    rintro _ w8 ⟨_, s8, V8, e8, rfl, g8⟩
    rw [e8, bind_ok] at hr ⊢
    (repeat refine Zr ?_)
    exact retP_1 rfl rfl ⟨a, s8, V8, rfl, rfl, g7.call g8⟩
  rw [if_neg q6] at hr ⊢
  have g6 := g5.no k6
  (repeat refine Zr ?_)
  refine c_b rfl (fun hb => (by rw [show _ = _ from congrArg not hz] at hb; cases hb)) (fun hb => ?_)
  (repeat refine Zr ?_)
  refine s_callP (us := []) (zs := []) (by kernel_rfl) rfl rfl (kindF g6.at_ ok 1 (by decide) (bind_ne hr)) (erP.up g6 rfl) ?_
  rintro _ w7 ⟨nm, s7, V7, e7, rfl, g7⟩
  have u7 := knd_up e7
  rw [e7, bind_ok] at hr ⊢
  have g7 := g6.call g7
  have hx7 : s7.ex.length + 1 ≤ s7.i := by unfold Up at u7; omega
  (repeat refine Zr ?_)
  refine s_bs (cs := [.string (Tk.strOf wLbra)]) (e := 9) rfl (fun b8 w8 n8 => ?_)
  have g8 := g7.no n8.kp
  have el : B (Tk.strOf wLbra) = wLbra := B_of (by decide)
  refine s_call (us := []) (zs := []) (by kernel_rfl) rfl rfl (take1 g8.at_ ok (Tk.strOf wLbra) (by rw [el]; decide) n8.blk) ?_
  rw [el]
  rintro _ w9 ⟨y, ⟨rfl, q9, hz, g9⟩ | ⟨rfl, q9, hz, k9⟩⟩
  · rw [if_pos q9] at hr ⊢
    have g9 := g8.call g9
    (repeat refine Zr ?_)
    refine c_b rfl (fun hb => ?_) (fun hb => (by rw [show _ = _ from congrArg not hz] at hb; cases hb))
    (repeat refine Zr ?_)
    refine s_callP (us := []) (zs := []) (by kernel_rfl) rfl rfl (hL.expr (d + 1) _ V7 w9 (by omega) g9.at_ (bind_ne hr)) (erP.up g9 rfl) ?_
    rintro _ w10 ⟨a, s10, V10, e10, rfl, g10⟩
    rw [e10, bind_ok] at hr ⊢
    have g10 := g9.call g10
    (repeat refine Zr ?_)
    have er : B (Tk.strOf wRbra) = wRbra := B_of (by decide)
    refine s_callP (us := []) (zs := []) (by kernel_rfl) rfl rfl (wantF g10.at_ ok (Tk.strOf wRbra) (by rw [er]; decide) (by rw [er]; exact bind_ne hr)) (by rw [er]; exact erP.up g10 rfl) ?_
    rw [er]
    rintro _ w11 ⟨_, s11, V11, e11, rfl, g11⟩
    rw [e11, bind_ok] at hr ⊢
    have g11 := g10.call g11
    have hx11 : s11.ex.length + 1 ≤ s11.i := by
      have u := ((adv_up s7).trans (hB.expr _ _ _ _ e10)).trans (want_up e11)
      unfold Up at u
      omega
    (repeat refine Zr ?_)
    refine s_callP (us := []) (zs := []) (by kernel_rfl) rfl rfl (putX g11 ok (Sy.hr X.E s) { k := 5, nm := nm, a := a } (.slice none 0 0) LI.nil Ow.nil hx11) (fun _ _ h => h.elim) ?_
    rintro _ w12 ⟨b, s12, V12, e12, rfl, g12⟩
    (repeat refine Zr ?_)
    exact retP_1 rfl rfl ⟨b, s12, V12, e12, rfl, g11.call g12⟩
  rw [if_neg q9] at hr ⊢
  have g9 := g8.no k9
  (repeat refine Zr ?_)
  refine c_b rfl (fun hb => (by rw [show _ = _ from congrArg not hz] at hb; cases hb)) (fun hb => ?_)
  (repeat refine Zr ?_)
  refine s_bs (cs := [.string (Tk.strOf wLpar)]) (e := 9) rfl (fun b10 w10 n10 => ?_)
  have g10 := g9.no n10.kp
  have el : B (Tk.strOf wLpar) = wLpar := B_of (by decide)
  refine s_call (us := []) (zs := []) (by kernel_rfl) rfl rfl (is1 g10.at_ ok (Tk.strOf wLpar) (by rw [el]; decide) n10.blk) ?_
  rw [el]
  rintro _ w11 ⟨rfl, k11⟩
  have g11 := g10.no k11
  (repeat refine Zr ?_)
  refine c_dec rfl (fun q => ?_) (fun q => ?_)
  · rw [if_pos q] at hr ⊢
    (repeat refine Zr ?_)
    refine s_callP (us := []) (zs := []) (by kernel_rfl) rfl rfl (hC (Sy.hr X.E s) nm d s7 V7 w11 hd g11.at_ hr) (erP.up0 g11) ?_
    rintro _ w12 ⟨b, s12, V12, e12, rfl, g12⟩
    (repeat refine Zr ?_)
    exact retP_1 rfl rfl ⟨b, s12, V12, e12, rfl, g11.call g12⟩
  · (repeat refine Zr ?_)
    rw [if_neg q] at hr ⊢
    refine s_callP (us := []) (zs := []) (by kernel_rfl) rfl rfl (putX g11 ok (Sy.hr X.E s) { k := 4, nm := nm } (.slice none 0 0) LI.nil Ow.nil hx7) (fun _ _ h => h.elim) ?_
    rintro _ w9 ⟨b, s9, V9, e9, rfl, g9⟩
    (repeat refine Zr ?_)
    exact retP_1 rfl rfl ⟨b, s9, V9, e9, rfl, g11.call g9⟩
end
end Go.Proofs.YtfnbgbeinmekgaaGreatDoor.Sy
namespace Go.Proofs.YtfnbgbeinmekgaaGreatDoor.Sy
open Go Go.RowKit Fw
set_option linter.unusedVariables false
set_option maxRecDepth 20000
theorem Sg.more {X : Cx} {w0 w : World} {s : PS} {V0 V : VS} {e : TypeId} {v : Value} {n : Nat} {cs : List Value} (h : Sg X w0 V0 w s V) (hl : Ls w0 w V e v n cs) : Sg X w0 V0 w s (V.add v.ownBlock) :=
  ⟨h.at_.more _ fun b hb => by obtain ⟨c, hc⟩ := own_ty hl.own hb; exact lt_of_get hc, ⟨h.gs.kp, h.gs.fr, fun b hb hs => hs.elim (h.gs.fo b hb) fun e => by have := (hl.nw b e).1; omega⟩⟩
theorem Ls.ow {V : VS} {v : Value} : Ow (V.add v.ownBlock) v := fun g hg => .inr hg
/-- A list's box and one more store into it. -/
structure CallS where
  m : Nat
  l : List Int
  lv : Value
  s : PS
  V : VS
theorem snoc_int {l : List Int} {a : Int} : l.map (Value.int .i64) ++ [Value.int .i64 a] = (l ++ [a]).map (Value.int .i64) := by simp
section
variable {X : Cx} {n : Nat}
theorem callF (ok : Ok X) (hW : ∀ m, m ≤ n → Wk X (lv X.E m)) : CallD X (lv X.E n) := by
  intro fr nm d s V w hd h hr
  have el : B (Tk.strOf wLpar) = wLpar := B_of (by decide)
  have er : B (Tk.strOf wRpar) = wRpar := B_of (by decide)
  have ec : B (Tk.strOf wComma) = wComma := B_of (by decide)
  have hbig := ok.big
  unfold call at hr ⊢
  refine retP_enter Tryz.func124 rfl Tryz.ntmps124 rfl ?_
  (repeat refine Zr ?_)
  refine s_callP (us := []) (zs := []) (by kernel_rfl) rfl rfl (wantF h ok (Tk.strOf wLpar) (by rw [el]; decide) (by rw [el]; exact bind_ne hr)) (by rw [el]; exact erP.up (Sg.start h) rfl) ?_
  rw [el]
  rintro _ w1 ⟨_, s1, V1, e1, rfl, g1⟩
  rw [e1, bind_ok] at hr ⊢
  (repeat refine Zr ?_)
  refine s_al rfl (fun b w2 n2 => ?_)
  have g2 := g1.no n2.kp
  have B2 := Bx.new (w0 := w) g1.at_ g1.size n2
  refine s_st (vs := exC ({ k := 6, nm := nm }, .slice none 0 0)) rfl rfl rfl rfl rfl B2.blk (Nat.le_of_ble_eq_true rfl) (fun w3 s3 => ?_)
  obtain ⟨g3, B3⟩ := g2.put B2 (cs' := exC ({ k := 6, nm := nm }, .slice none 0 0)) ⟨s3.kp, s3.sz, s3.blk⟩ rfl
  obtain ⟨R, hR⟩ : ∃ R, (lv X.E n).args fr nm d [] s1 = R := ⟨_, rfl⟩
  rw [hR] at hr ⊢
  refine k_nil ?_
  refine k_n ?_
  refine k_seq ?_
  refine k_blk ?_
  refine k_loop (σ := CallS) (fun x => [(0, ptr X), (1, .int .i64 fr), (3, .int .i64 d), (9, .pointer (some ⟨b, 0, none⟩))])
    (fun x w' => x.m ≤ n ∧ (lv X.E x.m).args fr nm d x.l x.s = R ∧ Sg X w V w' x.s x.V ∧ Bx X w w' x.V b (exC ({ k := 6, nm := nm }, x.lv)) 67 ∧ Ls w w' x.V 3 x.lv x.l.length (x.l.map (Value.int .i64)) ∧ x.l.length ≤ x.s.i) (fun x => x.m) ⟨n, [], .slice none 0 0, s1, V1⟩ ⟨rfl, rfl, rfl, rfl, trivial⟩ ⟨Nat.le_refl _, hR, g3, B3, Ls.nil, Nat.zero_le _⟩ ?_
  rintro ⟨m, l, lv, s4, V4⟩ lr w4 ⟨hm, hR4, g4, B4, l4, hl4⟩
  simp only at hm hR4 g4 B4 l4 hl4
  clear hR g3 B3 s3 n2 g2 B2 e1 g1
  cases m with
  | zero => exact (hr (by rw [← hR4]; rfl)).elim
  | succ m =>
  have hR4 : sArgs X.E (Sy.lv X.E m) fr nm d l s4 = R := hR4
  unfold sArgs at hR4
  obtain ⟨la, lc, e, _⟩ := own_read l4.own
  subst e
  (repeat refine Zr ?_)
  refine s_bs (cs := [.string (Tk.strOf wRpar)]) (e := 9) rfl (fun b5 w5 n5 => ?_)
  have g5 := g4.no n5.kp
  have B5 := B4.no n5.kp
  have l5 := l4.no n5.kp
  refine s_call (us := []) (zs := []) (by kernel_rfl) rfl rfl (take1 g5.at_ ok (Tk.strOf wRpar) (by rw [er]; decide) n5.blk) ?_
  rw [er]
  rintro _ w6 ⟨y, ⟨rfl, q6, hz, g6⟩ | ⟨rfl, q6, hz, k6⟩⟩
  · rw [if_pos q6] at hR4
    have B6 := B5.gs g6.gs
    have l6 := l5.gs g5.at_ g6.gs rfl
    have g6 := g5.call g6
    have b6 : w6.heap[b]? = some (.cells [Value.int .i64 6, .int .i64 0, .int .i64 0, .int .i64 0, sv nm, sv [], .int .i64 0, .int .i64 0, .slice la l.length lc].toArray 67 (0, 0)) := B6.blk
    (repeat refine Zr ?_)
    refine c_b rfl (fun hb => (by rw [show _ = _ from hz] at hb; cases hb)) (fun hb => ?_)
    (repeat refine Zr ?_)
    refine s_v (r_ldb (vs := exC ({ k := 6, nm := nm, l := l }, .slice la l.length lc)) rfl rfl rfl b6 rfl rfl) ?_
    have hx : (adv s4).ex.length + 1 ≤ (adv s4).i := by
      have := g4.at_.xl
      show s4.ex.length + 1 ≤ s4.i + 1
      omega
    refine s_callP (us := []) (zs := []) (by kernel_rfl) rfl rfl (putX (g6.more l6) ok fr { k := 6, nm := nm, l := l } (.slice la l.length lc) l6.own Ls.ow hx) (fun _ _ h => h.elim) ?_
    rintro _ w7 ⟨c, s7, V7, e7, rfl, g7⟩
    (repeat refine Zr ?_)
    exact retP_1 rfl rfl ⟨c, s7, V7, by rw [← hR4, e7], rfl, (g6.more l6).call g7⟩
  rw [if_neg q6] at hR4
  have B6 := B5.no k6
  have l6 := l5.no k6
  have g6 := g5.no k6
  have b6 : w6.heap[b]? = some (.cells [Value.int .i64 6, .int .i64 0, .int .i64 0, .int .i64 0, sv nm, sv [], .int .i64 0, .int .i64 0, .slice la l.length lc].toArray 67 (0, 0)) := B6.blk
  (repeat refine Zr ?_)
  refine c_b rfl (fun hb => ?_) (fun hb => (by rw [show _ = _ from hz] at hb; cases hb))
  (repeat refine Zr ?_)
  refine k_cutc (σ := PS × VS) (fun _ => [(0, ptr X), (1, .int .i64 fr), (3, .int .i64 d), (9, .pointer (some ⟨b, 0, none⟩))])
    (fun x w' => (if l = [] then Rs.ok () s4 else want X.E wComma s4) = .ok () x.1 ∧ Sg X w V w' x.1 x.2 ∧ Bx X w w' x.2 b (exC ({ k := 6, nm := nm }, .slice la l.length lc)) 67 ∧ Ls w w' x.2 3 (.slice la l.length lc) l.length (l.map (Value.int .i64)) ∧ l.length ≤ x.1.i) ?_ ?_
  · refine c_dec rfl (fun q => ?_) (fun q => ?_)
    · have q : l ≠ [] := fun e => by rw [e] at q; simp at q
      rw [if_neg q] at hR4
      (repeat refine Zr ?_)
      refine s_callP (us := []) (zs := []) (by kernel_rfl) rfl rfl (wantF g6.at_ ok (Tk.strOf wComma) (by rw [ec]; decide) (by rw [ec]; exact want_no)) (by rw [ec]; exact erP.up g6 hR4.symm) ?_
      rw [ec]
      rintro _ w7 ⟨_, s7, V7, e7, rfl, g7⟩
      (repeat refine Zr ?_)
      exact l_cut (s7, V7) ⟨rfl, rfl, rfl, rfl, trivial⟩ ⟨by rw [if_neg q]; exact e7, g6.call g7, B6.gs g7.gs, l6.gs g6.at_ g7.gs rfl, Nat.le_trans hl4 (Nat.le_of_succ_le (want_up e7).1)⟩
    · have q : l = [] := by
        cases l with
        | nil => rfl
        | cons a l => exact (q (by simp)).elim
      (repeat refine Zr ?_)
      exact l_cut (s4, V4) ⟨rfl, rfl, rfl, rfl, trivial⟩ ⟨by rw [if_pos q], g6, B6, l6, hl4⟩
  · rintro ⟨s7, V7⟩ lr7 w7 ⟨e7, g7, B7, l7, hl7⟩
    simp only at e7 g7 B7 l7 hl7
    rw [e7, bind_ok] at hR4
    clear g6 B6 l6 b6 k6 n5 g5 B5 l5 g4 B4 l4 hz
    refine k_seq ?_
    have b7 : w7.heap[b]? = some (.cells [Value.int .i64 6, .int .i64 0, .int .i64 0, .int .i64 0, sv nm, sv [], .int .i64 0, .int .i64 0, .slice la l.length lc].toArray 67 (0, 0)) := B7.blk
    refine k_hP (fun w' => w'.heap[b]? = some (.cells [Value.int .i64 6, .int .i64 0, .int .i64 0, .int .i64 0, sv nm, sv [], .int .i64 0, .int .i64 0, .slice la l.length lc].toArray 67 (0, 0))) [(0, false), (1, false), (2, false), (3, false), (4, false), (5, true), (6, true), (7, true), (8, false), (9, true)] 9 (by kernel_rfl) (waits_of_last (by kernel_rfl)) (by kernel_rfl) (by kernel_rfl) (by kernel_rfl) rfl (fun w8 k8 q8 => ?_)
    have g8 := g7.no k8
    have B8 := B7.no k8
    have l8 := l7.no k8
    have b8 := k8.get0 b7
    refine v_v b8 (fun w' hw => r_fa rfl rfl) ?_
    refine v_v b8 (fun w' hw => r_ld rfl rfl (cell_of_blk hw rfl)) ?_
    refine v_v b8 (fun w' hw => r_mv rfl) ?_
    refine v_v b8 (fun w' hw => r_mv rfl) ?_
    refine v_v b8 (fun w' hw => r_add rfl rfl (by omega)) ?_
    refine v_call (us := []) (zs := []) (by kernel_rfl) rfl rfl ((hW m (by omega)).expr (d + 1) s7 V7 w8 (by omega) g8.at_ (bind_ne (show _ ≠ _ by rw [hR4]; exact hr))) (erP.up g8 hR4.symm) ?_
    rintro _ w9 ⟨a, s9, V9, e9, rfl, g9⟩
    have u9 := (bd_lv (E := X.E) m).expr _ _ _ _ e9
    rw [e9, bind_ok] at hR4
    have B9 := B8.gs g9.gs
    have l9 := l8.gs g8.at_ g9.gs rfl
    have g9 := g8.call g9
    refine ⟨fun _ => B9.blk, ?_⟩
    refine h_bs (cs := [.int .i64 a]) (e := 3) rfl (fun b10 w10 n10 => ?_)
    have g10 := g9.no n10.kp
    have B10 := B9.no n10.kp
    have l10 := l9.no n10.kp
    have hi9 := g9.at_.lt
    have hlen : l.length ≤ 20001 := by unfold Up at u9; omega
    refine ⟨fun _ => B10.blk, ?_⟩
    refine h_app (size := 1) (bytes := 8) (base := 0) (news := [.int .i64 a]) rfl rfl rfl rfl rfl rfl rfl rfl l10.own rfl (blk_cells n10.blk) rfl rfl (by omega) (by omega) (Nat.zero_le _) ?_
    intro v11 w11 ap
    obtain ⟨g11, l11⟩ := g10.lst h l10 ap rfl
    have hbl : ¬ some b = (Value.slice la l.length lc).ownBlock := fun e => by
      obtain ⟨c, hc⟩ := own_ty l10.own e.symm
      exact ty_ne hc B10.blk rfl rfl
    have B11 : Bx X w w11 V9 b (exC ({ k := 6, nm := nm }, .slice la l.length lc)) 67 := ⟨B10.ge, ap.kp.get B10.blk hbl, B10.ns⟩
    refine ⟨fun _ => B11.blk, ?_⟩
    refine h_v B11.blk (fun w' hw => r_fa rfl rfl) ?_
    obtain ⟨a1, c1, e1, _⟩ := own_read l11.own
    subst e1
    refine h_st (vs := [.slice a1 (l.length + 1) c1]) rfl rfl rfl rfl rfl B11.blk (Nat.le_of_ble_eq_true rfl) (fun w12 s12 => ⟨fun h => (h rfl).elim, ?_⟩)
    obtain ⟨g12, B12⟩ := g11.put B11 (cs' := exC ({ k := 6, nm := nm }, .slice a1 (l.length + 1) c1)) ⟨s12.kp, s12.sz, s12.blk⟩ rfl
    have l12 : Ls w w12 V9 3 (.slice a1 (l.length + 1) c1) (l ++ [a]).length ((l ++ [a]).map (Value.int .i64)) := by
      have : Ls w w12 V9 3 (.slice a1 (l.length + 1) c1) (l.length + 1) (l.map (Value.int .i64) ++ [Value.int .i64 a]) := ⟨own_kp l11.own s12.kp fun g hg e => by
        obtain ⟨c, hc⟩ := own_ty l11.own hg
        exact ty_ne hc B11.blk rfl e, l11.nw⟩
      rw [snoc_int] at this
      simpa using this
    refine h_nil ?_
    (repeat refine Zr ?_)
    refine s_bs (cs := [.string (Tk.strOf wComma), .string (Tk.strOf wRpar)]) (e := 9) rfl (fun b13 w13 n13 => ?_)
    have g13 := g12.no n13.kp
    refine s_call (us := []) (zs := []) (by kernel_rfl) rfl rfl (is2 g13.at_ ok (Tk.strOf wComma) (Tk.strOf wRpar) (by rw [ec]; decide) (by rw [er]; decide) n13.blk) ?_
    rw [ec, er]
    rintro _ w14 ⟨rfl, k14⟩
    have g14 := g13.no k14
    (repeat refine Zr ?_)
    refine c_b rfl (fun hb => ?_) (fun hb => ?_)
    · have hb : (!decide (Sy.wd X.E s9 = wComma ∨ Sy.wd X.E s9 = wRpar)) = true := hb
      rw [if_neg (by simpa using hb)] at hR4
      (repeat refine Zr ?_)
      refine s_callX (us := []) (zs := []) (by kernel_rfl) rfl rfl (failF g14.at_ ok 3) ?_
      rintro c w15 ⟨rfl, k15⟩
      exact ⟨3, Sy.hr X.E s9, hR4.symm, rfl, g14.gs.kp.no k15⟩
    · have hb : (!decide (Sy.wd X.E s9 = wComma ∨ Sy.wd X.E s9 = wRpar)) = false := hb
      have hq : Sy.wd X.E s9 = wComma ∨ Sy.wd X.E s9 = wRpar := by
        by_cases q : Sy.wd X.E s9 = wComma ∨ Sy.wd X.E s9 = wRpar
        · exact q
        · rw [decide_eq_false q] at hb; cases hb
      rw [if_pos hq] at hR4
      (repeat refine Zr ?_)
      exact l_next ⟨m, l ++ [a], .slice a1 (l.length + 1) c1, s9, V9⟩ ⟨rfl, rfl, rfl, rfl, trivial⟩ ⟨by simp only; omega, hR4, g14, (B12.no n13.kp).no k14, (l12.no n13.kp).no k14, by unfold Up at u9; simp; omega⟩ (by simp)
/-- What a block's call comes to. -/
def BlockD (X : Cx) (L : Lv) : Prop := ∀ d s V w, 0 ≤ d ∧ d ≤ 65 → At X w s V → block X.E L d s ≠ .out →
  RetP Tryz.prog 45 [ptr X, .int .i64 d] w (fun v w' => ∃ l s' V', block X.E L d s = .ok l s' ∧ Sg X w V w' s' V' ∧ Ls w w' V' 3 v l.length (l.map (Value.int .i64))) (erP X w V (block X.E L d s))
theorem blockF (ok : Ok X) (hW : ∀ m, m ≤ n → Wk X (lv X.E m)) : BlockD X (lv X.E n) := by
  intro d s V w hd h hr
  have el : B (Tk.strOf wLcur) = wLcur := B_of (by decide)
  have er : B (Tk.strOf wRcur) = wRcur := B_of (by decide)
  have hbig := ok.big
  unfold block at hr ⊢
  refine retP_enter Tryz.func45 rfl Tryz.ntmps45 rfl ?_
  (repeat refine Zr ?_)
  refine s_bs (cs := [.string (Tk.strOf wLcur)]) (e := 9) rfl (fun b1 w1 n1 => ?_)
  have g1 := (Sg.start h).no n1.kp
  refine s_call (us := []) (zs := []) (by kernel_rfl) rfl rfl (is1 g1.at_ ok (Tk.strOf wLcur) (by rw [el]; decide) n1.blk) ?_
  rw [el]
  rintro _ w2 ⟨rfl, k2⟩
  have g2 := g1.no k2
  (repeat refine Zr ?_)
  refine k_cutc (σ := VS) (fun _ => [(0, ptr X), (1, .int .i64 d)]) (fun V3 w' => (if Sy.wd X.E s = wLcur then deep X.E d s else Rs.ok () s) = .ok () s ∧ (Sy.wd X.E s = wLcur → d ≤ 64) ∧ Sg X w V w' s V3) ?_ ?_
  · refine c_dec rfl (fun q => ?_) (fun q => ?_)
    · rw [if_pos q] at hr ⊢
      (repeat refine Zr ?_)
      refine s_callP (us := []) (zs := []) (by kernel_rfl) rfl rfl (deepF g2.at_ ok d (bind_ne hr)) (erP.up g2 rfl) ?_
      rintro _ w3 ⟨_, s3, V3, e3, rfl, g3⟩
      have hd' := deep_le e3
      have e3' := deep_up e3
      subst e3'
      (repeat refine Zr ?_)
      exact l_cut V3 ⟨rfl, rfl, trivial⟩ ⟨e3, fun _ => hd', g2.call g3⟩
    · rw [if_neg q] at hr ⊢
      (repeat refine Zr ?_)
      exact l_cut V ⟨rfl, rfl, trivial⟩ ⟨rfl, fun e => (q e).elim, g2⟩
  rintro V3 lr w3 ⟨e3, hd3, g3⟩
  rw [e3, bind_ok] at hr ⊢
  refine k_seq ?_
  (repeat refine Zr ?_)
  refine s_callP (us := []) (zs := []) (by kernel_rfl) rfl rfl (wantF g3.at_ ok (Tk.strOf wLcur) (by rw [el]; decide) (by rw [el]; exact want_no)) (by rw [el]; exact erP.up g3 rfl) ?_
  rw [el]
  rintro _ w4 ⟨_, s4, V4, e4, rfl, g4⟩
  have hd4 : d ≤ 64 := hd3 (by
    unfold want at e4
    split at e4
    · assumption
    · cases e4)
  rw [e4, bind_ok] at hr ⊢
  have g4 := g3.call g4
  obtain ⟨R, hR⟩ : ∃ R, (lv X.E n).stmts d [] s4 = R := ⟨_, rfl⟩
  rw [hR] at hr ⊢
  (repeat refine Zr ?_)
  refine k_loop (σ := CallS) (fun x => [(0, ptr X), (1, .int .i64 d), (5, x.lv)])
    (fun x w' => x.m ≤ n ∧ (lv X.E x.m).stmts d x.l x.s = R ∧ Sg X w V w' x.s x.V ∧ Ls w w' x.V 3 x.lv x.l.length (x.l.map (Value.int .i64)) ∧ x.l.length ≤ x.s.i) (fun x => x.m) ⟨n, [], .slice none 0 0, s4, V4⟩ ⟨rfl, rfl, rfl, trivial⟩ ⟨Nat.le_refl _, hR, g4, Ls.nil, Nat.zero_le _⟩ ?_
  rintro ⟨m, l, lv, s5, V5⟩ lr5 w5 ⟨hm, hR5, g5, l5, hl5⟩
  simp only at hm hR5 g5 l5 hl5
  clear hR g3 g4 g2 g1 n1 e3 e4
  cases m with
  | zero => exact (hr (by rw [← hR5]; rfl)).elim
  | succ m =>
  have hR5 : sStmts X.E (Sy.lv X.E m) d l s5 = R := hR5
  unfold sStmts at hR5
  obtain ⟨la, lc, e, _⟩ := own_read l5.own
  subst e
  (repeat refine Zr ?_)
  refine s_bs (cs := [.string (Tk.strOf wRcur)]) (e := 9) rfl (fun b6 w6 n6 => ?_)
  have g6 := g5.no n6.kp
  have l6 := l5.no n6.kp
  refine s_call (us := []) (zs := []) (by kernel_rfl) rfl rfl (take1 g6.at_ ok (Tk.strOf wRcur) (by rw [er]; decide) n6.blk) ?_
  rw [er]
  rintro _ w7 ⟨y, ⟨rfl, q7, hz, g7⟩ | ⟨rfl, q7, hz, k7⟩⟩
  · rw [if_pos q7] at hR5
    have l7 := l6.gs g6.at_ g7.gs rfl
    have g7 := g6.call g7
    (repeat refine Zr ?_)
    refine c_b rfl (fun hb => (by rw [show _ = _ from hz] at hb; cases hb)) (fun hb => ?_)
    (repeat refine Zr ?_)
    exact retP_1 rfl rfl ⟨l, adv s5, V5, hR5.symm, g7, l7⟩
  rw [if_neg q7] at hR5
  have l7 := l6.no k7
  have g7 := g6.no k7
  (repeat refine Zr ?_)
  refine c_b rfl (fun hb => ?_) (fun hb => (by rw [show _ = _ from hz] at hb; cases hb))
  (repeat refine Zr ?_)
  refine s_callP (us := []) (zs := []) (by kernel_rfl) rfl rfl ((hW m (by omega)).stmt d s5 V5 w7 (by omega) g7.at_ (bind_ne (show _ ≠ _ by rw [hR5]; exact hr))) (erP.up g7 hR5.symm) ?_
  rintro _ w8 ⟨a, s8, V8, e8, rfl, g8⟩
  have u8 := (bd_lv (E := X.E) m).stmt _ _ _ _ e8
  rw [e8, bind_ok] at hR5
  have l8 := l7.gs g7.at_ g8.gs rfl
  have g8 := g7.call g8
  refine s_bs (cs := [.int .i64 a]) (e := 3) rfl (fun b9 w9 n9 => ?_)
  have g9 := g8.no n9.kp
  have l9 := l8.no n9.kp
  have hi8 := g8.at_.lt
  have hlen : l.length ≤ 20001 := by unfold Up at u8; omega
  refine s_app (size := 1) (bytes := 8) (base := 0) (news := [.int .i64 a]) rfl rfl rfl rfl rfl rfl rfl rfl l9.own rfl (blk_cells n9.blk) rfl rfl (by omega) (by omega) (Nat.zero_le _) ?_
  intro v10 w10 ap
  obtain ⟨g10, l10⟩ := g9.lst h l9 ap rfl
  obtain ⟨a1, c1, e1, _⟩ := own_read l10.own
  subst e1
  have l11 : Ls w w10 V8 3 (.slice a1 (l.length + 1) c1) (l ++ [a]).length ((l ++ [a]).map (Value.int .i64)) := by
    rw [snoc_int] at l10
    simpa using l10
  (repeat refine Zr ?_)
  exact l_next ⟨m, l ++ [a], .slice a1 (l.length + 1) c1, s8, V8⟩ ⟨rfl, rfl, rfl, trivial⟩ ⟨by simp only; omega, hR5, g10, l11, by unfold Up at u8; simp; omega⟩ (by simp)
end
end Go.Proofs.YtfnbgbeinmekgaaGreatDoor.Sy
namespace Go.Proofs.YtfnbgbeinmekgaaGreatDoor.Fw
open Go Go.RowKit
section
variable {P : Program} {w : World} {n : Nat} {l : Slots} {fn : Func} {R : Value → World → Prop} {F : List PanicEntry → World → Prop}
theorem retP_c1 {r : ResultVar} {v : Value} (hr : fn.results = #[r]) (hv : Rv P w n l r v) (h : R v w) : Po (FinP P fn R F) .ret n l [] w := postP_ret (res_1 hr hv) h
end
end Go.Proofs.YtfnbgbeinmekgaaGreatDoor.Fw
namespace Go.Proofs.YtfnbgbeinmekgaaGreatDoor.Sy
open Go Go.RowKit Fw
set_option linter.unusedVariables false
set_option maxRecDepth 20000
theorem lit_iff {x q : ByteArray} {l : List Int} {b : Bool} (h : (x.toList == q.toList) = b) (hq : B q = l) : b = decide (B x = l) := by rw [← h, str_eq, hq]
theorem Sg.more' {X : Cx} {w0 w : World} {s : PS} {V0 V : VS} {v : Value} (h : Sg X w0 V0 w s V) (hl : ∀ g, v.ownBlock = some g → w0.heap.size ≤ g ∧ g < w.heap.size) : Sg X w0 V0 w s (V.add v.ownBlock) :=
  ⟨h.at_.more _ fun b hb => (hl b hb).2, ⟨h.gs.kp, h.gs.fr, fun b hb hs => hs.elim (h.gs.fo b hb) fun e => by have := (hl b e).1; omega⟩⟩
theorem Ls.rng {w0 w : World} {V : VS} {e : TypeId} {v : Value} {n : Nat} {cs : List Value} (hl : Ls w0 w V e v n cs) : ∀ g, v.ownBlock = some g → w0.heap.size ≤ g ∧ g < w.heap.size := fun g hg =>
  ⟨(hl.nw g hg).1, by obtain ⟨c, hc⟩ := own_ty hl.own hg; exact lt_of_get hc⟩
def stV (x : St) (_ : World) (v : Value) : Prop := v = .agg (stC (x, nilS, nilS)).toArray ∧ x.th = [] ∧ x.el = []
section
variable {X : Cx} {L : Lv}
theorem addX {w0 w : World} {s : PS} {V0 V : VS} (g : Sg X w0 V0 w s V) (ok : Ok X) (fr : Int) (x : St) (hth : x.th = []) (hel : x.el = []) (hi : 1 ≤ s.i) :
    RetP Tryz.prog 103 [ptr X, .int .i64 fr, .agg (stC (x, nilS, nilS)).toArray] w (okP X w V (add X.E fr x s) intV) (erP X w V (add X.E fr x s)) :=
  addF g.at_ ok fr x nilS nilS (by rw [hth]; exact LI.nil) (by rw [hel]; exact LI.nil) Ow.nil Ow.nil hi add_no
theorem declF (ok : Ok X) (hL : Wk X L) (d : Int) (s : PS) (V : VS) (w : World) (hd : 0 ≤ d ∧ d ≤ 64) (h : At X w s V) : Does X 100 [ptr X, .int .i64 d] w V (sDecl X.E L d s) stV := by
  intro hr
  have el : B (Tk.strOf wLbra) = wLbra := B_of (by decide)
  have er : B (Tk.strOf wRbra) = wRbra := B_of (by decide)
  have ee : B (Tk.strOf wEq) = wEq := B_of (by decide)
  unfold sDecl at hr ⊢
  refine retP_enter Tryz.func100 rfl Tryz.ntmps100 rfl ?_
  (repeat refine Zr ?_)
  refine s_al rfl (fun b w1 n1 => ?_)
  have g1 := (Sg.start h).no n1.kp
  have B1 := Bx.new (w0 := w) h (Nat.le_refl _) n1
  (repeat refine Zr ?_)
  refine s_callP (us := []) (zs := []) (by kernel_rfl) rfl rfl (kindF g1.at_ ok 1 (by decide) (bind_ne hr)) (erP.up g1 rfl) ?_
  rintro _ w2 ⟨nm, s2, V2, e2, rfl, g2⟩
  have B2 := B1.gs g2.gs
  have g2 := g1.call g2
  rw [e2, bind_ok] at hr ⊢
  (repeat refine Zr ?_)
  refine s_bs (cs := [.string (Tk.strOf wLbra)]) (e := 9) rfl (fun b3 w3 n3 => ?_)
  have g3 := g2.no n3.kp
  have B3 := B2.no n3.kp
  refine s_call (us := []) (zs := []) (by kernel_rfl) rfl rfl (take1 g3.at_ ok (Tk.strOf wLbra) (by rw [el]; decide) n3.blk) ?_
  rw [el]
  rintro _ w4 ⟨y, ⟨rfl, q4, hz, g4⟩ | ⟨rfl, q4, hz, k4⟩⟩
  · rw [if_pos q4] at hr ⊢
    have B4 := B3.gs g4.gs
    have g4 := g3.call g4
    (repeat refine Zr ?_)
    refine c_b rfl (fun hb => ?_) (fun hb => (by rw [show _ = _ from congrArg not hz] at hb; cases hb))
    (repeat refine Zr ?_)
    refine s_callP (us := []) (zs := []) (by kernel_rfl) rfl rfl (kindF g4.at_ ok 2 (by decide) (bind_ne hr)) (erP.up g4 rfl) ?_
    rintro _ w5 ⟨w', s5, V5, e5, rfl, g5⟩
    have hk : kd X.E (adv s2) = 2 ∧ w' = Sy.wd X.E (adv s2) := by
      unfold knd at e5
      split at e5
      · rename_i q; cases e5; exact ⟨q, rfl⟩
      · cases e5
    obtain ⟨hk, rfl⟩ := hk
    have B5 := B4.gs g5.gs
    have g5 := g4.call g5
    rw [e5, bind_ok] at hr ⊢
    (repeat refine Zr ?_)
    refine s_call (us := []) (zs := []) (by kernel_rfl) rfl rfl (numF g4.at_ ok hk) ?_
    rintro _ w5' ⟨rfl, rfl⟩
    (repeat refine Zr ?_)
    refine s_callP (us := []) (zs := []) (by kernel_rfl) rfl rfl (wantF g5.at_ ok (Tk.strOf wRbra) (by rw [er]; decide) (by rw [er]; exact want_no)) (by rw [er]; exact erP.up g5 rfl) ?_
    rw [er]
    rintro _ w6 ⟨_, s6, V6, e6, rfl, g6⟩
    have B6 := B5.gs g6.gs
    have g6 := g5.call g6
    rw [e6, bind_ok] at hr ⊢
    (repeat refine Zr ?_)
    refine s_st (vs := stC ({ k := 2, nm := nm, n := num (Sy.wd X.E (adv s2)) }, nilS, nilS)) rfl rfl rfl rfl rfl B6.blk (Nat.le_of_ble_eq_true rfl) (fun w7 s7 => ?_)
    obtain ⟨g7, B7⟩ := g6.put B6 (cs' := stC ({ k := 2, nm := nm, n := num (Sy.wd X.E (adv s2)) }, nilS, nilS)) ⟨s7.kp, s7.sz, s7.blk⟩ rfl
    (repeat refine Zr ?_)
    exact retP_c1 rfl (rv_ag (vs := stC ({ k := 2, nm := nm, n := num (Sy.wd X.E (adv s2)) }, nilS, nilS)) rfl rfl rfl B7.blk rfl rfl) ⟨_, s6, V6, rfl, ⟨rfl, rfl, rfl⟩, g7⟩
  rw [if_neg q4] at hr ⊢
  have g4 := g3.no k4
  have B4 := B3.no k4
  (repeat refine Zr ?_)
  refine c_b rfl (fun hb => (by rw [show _ = _ from congrArg not hz] at hb; cases hb)) (fun hb => ?_)
  (repeat refine Zr ?_)
  refine s_callP (us := []) (zs := []) (by kernel_rfl) rfl rfl (wantF g4.at_ ok (Tk.strOf wEq) (by rw [ee]; decide) (by rw [ee]; exact want_no)) (by rw [ee]; exact erP.up g4 rfl) ?_
  rw [ee]
  rintro _ w6 ⟨_, s6, V6, e6, rfl, g6⟩
  have B6 := B4.gs g6.gs
  have g6 := g4.call g6
  rw [e6, bind_ok] at hr ⊢
  (repeat refine Zr ?_)
  refine s_callP (us := []) (zs := []) (by kernel_rfl) rfl rfl (hL.expr d s6 V6 w6 (by omega) g6.at_ (bind_ne hr)) (erP.up g6 rfl) ?_
  rintro _ w7 ⟨a, s7, V7, e7, rfl, g7⟩
  have B7 := B6.gs g7.gs
  have g7 := g6.call g7
  rw [e7, bind_ok] at hr ⊢
  (repeat refine Zr ?_)
  refine s_st (vs := stC ({ k := 1, nm := nm, a := a }, nilS, nilS)) rfl rfl rfl rfl rfl B7.blk (Nat.le_of_ble_eq_true rfl) (fun w8 s8 => ?_)
  obtain ⟨g8, B8⟩ := g7.put B7 (cs' := stC ({ k := 1, nm := nm, a := a }, nilS, nilS)) ⟨s8.kp, s8.sz, s8.blk⟩ rfl
  (repeat refine Zr ?_)
  exact retP_c1 rfl (rv_ag (vs := stC ({ k := 1, nm := nm, a := a }, nilS, nilS)) rfl rfl rfl B8.blk rfl rfl) ⟨_, s7, V7, rfl, ⟨rfl, rfl, rfl⟩, g8⟩
theorem namedF (ok : Ok X) (hL : Wk X L) (hC : CallD X L) (d : Int) (s : PS) (V : VS) (w : World) (hd : 0 ≤ d ∧ d ≤ 64) (h : At X w s V) : Does X 104 [ptr X, .int .i64 d] w V (sNamed X.E L d s) stV := by
  intro hr
  have el : B (Tk.strOf wLbra) = wLbra := B_of (by decide)
  have er : B (Tk.strOf wRbra) = wRbra := B_of (by decide)
  have ee : B (Tk.strOf wEq) = wEq := B_of (by decide)
  have ep : B (Tk.strOf wLpar) = wLpar := B_of (by decide)
  unfold sNamed at hr ⊢
  refine retP_enter Tryz.func104 rfl Tryz.ntmps104 rfl ?_
  (repeat refine Zr ?_)
  refine s_al rfl (fun b w1 n1 => ?_)
  have g1 := (Sg.start h).no n1.kp
  have B1 := Bx.new (w0 := w) h (Nat.le_refl _) n1
  (repeat refine Zr ?_)
  refine s_call (us := []) (zs := []) (by kernel_rfl) rfl rfl (hereF g1.at_ ok) ?_
  rintro _ w1' ⟨rfl, k1⟩
  have g1 := g1.no k1
  have B1 := B1.no k1
  (repeat refine Zr ?_)
  refine s_callP (us := []) (zs := []) (by kernel_rfl) rfl rfl (kindF g1.at_ ok 1 (by decide) (bind_ne hr)) (erP.up g1 rfl) ?_
  rintro _ w2 ⟨nm, s2, V2, e2, rfl, g2⟩
  have B2 := B1.gs g2.gs
  have g2 := g1.call g2
  rw [e2, bind_ok] at hr ⊢
  (repeat refine Zr ?_)
  refine s_bs (cs := [.string (Tk.strOf wLpar)]) (e := 9) rfl (fun b3 w3 n3 => ?_)
  have g3 := g2.no n3.kp
  have B3 := B2.no n3.kp
  refine s_call (us := []) (zs := []) (by kernel_rfl) rfl rfl (is1 g3.at_ ok (Tk.strOf wLpar) (by rw [ep]; decide) n3.blk) ?_
  rw [ep]
  rintro _ w4 ⟨rfl, k4⟩
  have g4 := g3.no k4
  have B4 := B3.no k4
  (repeat refine Zr ?_)
  refine c_dec rfl (fun q => ?_) (fun q => ?_)
  · rw [if_pos q] at hr ⊢
    (repeat refine Zr ?_)
    refine s_callP (us := []) (zs := []) (by kernel_rfl) rfl rfl (hC (Sy.hr X.E s) nm d s2 V2 w4 hd g4.at_ (bind_ne hr)) (erP.up g4 rfl) ?_
    rintro _ w5 ⟨a, s5, V5, e5, rfl, g5⟩
    have B5 := B4.gs g5.gs
    have g5 := g4.call g5
    rw [e5, bind_ok] at hr ⊢
    (repeat refine Zr ?_)
    refine s_st (vs := stC ({ k := 11, a := a }, nilS, nilS)) rfl rfl rfl rfl rfl B5.blk (Nat.le_of_ble_eq_true rfl) (fun w6 s6 => ?_)
    obtain ⟨g6, B6⟩ := g5.put B5 (cs' := stC ({ k := 11, a := a }, nilS, nilS)) ⟨s6.kp, s6.sz, s6.blk⟩ rfl
    (repeat refine Zr ?_)
    exact retP_c1 rfl (rv_ag (vs := stC ({ k := 11, a := a }, nilS, nilS)) rfl rfl rfl B6.blk rfl rfl) ⟨_, s5, V5, rfl, ⟨rfl, rfl, rfl⟩, g6⟩
  rw [if_neg q] at hr ⊢
  (repeat refine Zr ?_)
  refine s_bs (cs := [.string (Tk.strOf wLbra)]) (e := 9) rfl (fun b5 w5 n5 => ?_)
  have g5 := g4.no n5.kp
  have B5 := B4.no n5.kp
  refine s_call (us := []) (zs := []) (by kernel_rfl) rfl rfl (take1 g5.at_ ok (Tk.strOf wLbra) (by rw [el]; decide) n5.blk) ?_
  rw [el]
  rintro _ w6 ⟨y, ⟨rfl, q6, hz, g6⟩ | ⟨rfl, q6, hz, k6⟩⟩
  · rw [if_pos q6] at hr ⊢
    have B6 := B5.gs g6.gs
    have g6 := g5.call g6
    (repeat refine Zr ?_)
    refine c_b rfl (fun hb => ?_) (fun hb => (by rw [show _ = _ from congrArg not hz] at hb; cases hb))
    (repeat refine Zr ?_)
    refine s_callP (us := []) (zs := []) (by kernel_rfl) rfl rfl (hL.expr (d + 1) _ V2 w6 (by omega) g6.at_ (bind_ne hr)) (erP.up g6 rfl) ?_
    rintro _ w7 ⟨a, s7, V7, e7, rfl, g7⟩
    have B7 := B6.gs g7.gs
    have g7 := g6.call g7
    rw [e7, bind_ok] at hr ⊢
    (repeat refine Zr ?_)
    refine s_al rfl (fun c w8 n8 => ?_)
    have C8 := Bx.new (w0 := w) g7.at_ g7.size n8
    have g8 := g7.no n8.kp
    have B8 := B7.no n8.kp
    refine s_st (vs := stC ({ k := 4, nm := nm, a := a }, nilS, nilS)) rfl rfl rfl rfl rfl C8.blk (Nat.le_of_ble_eq_true rfl) (fun w9 s9 => ?_)
    obtain ⟨g9, C9⟩ := g8.put C8 (cs' := stC ({ k := 4, nm := nm, a := a }, nilS, nilS)) ⟨s9.kp, s9.sz, s9.blk⟩ rfl
    have hbc : ¬ b = c := fun e => by have := lt_of_get B7.blk; have := n8.ge; omega
    have B9 : Bx X w w9 V7 b _ _ := ⟨B8.ge, s9.kp.get B8.blk hbc, B8.ns⟩
    (repeat refine Zr ?_)
    refine s_callP (us := []) (zs := []) (by kernel_rfl) rfl rfl (wantF g9.at_ ok (Tk.strOf wRbra) (by rw [er]; decide) (by rw [er]; exact want_no)) (by rw [er]; exact erP.up g9 rfl) ?_
    rw [er]
    rintro _ w10 ⟨_, s10, V10, e10, rfl, g10⟩
    have B10 := B9.gs g10.gs
    have C10 := C9.gs g10.gs
    have g10 := g9.call g10
    rw [e10, bind_ok] at hr ⊢
    (repeat refine Zr ?_)
    refine s_callP (us := []) (zs := []) (by kernel_rfl) rfl rfl (wantF g10.at_ ok (Tk.strOf wEq) (by rw [ee]; decide) (by rw [ee]; exact want_no)) (by rw [ee]; exact erP.up g10 rfl) ?_
    rw [ee]
    rintro _ w11 ⟨_, s11, V11, e11, rfl, g11⟩
    have B11 := B10.gs g11.gs
    have C11 := C10.gs g11.gs
    have g11 := g10.call g11
    rw [e11, bind_ok] at hr ⊢
    (repeat refine Zr ?_)
    refine s_callP (us := []) (zs := []) (by kernel_rfl) rfl rfl (hL.expr d s11 V11 w11 (by omega) g11.at_ (bind_ne hr)) (erP.up g11 rfl) ?_
    rintro _ w12 ⟨a2, s12, V12, e12, rfl, g12⟩
    have B12 := B11.gs g12.gs
    have C12 := C11.gs g12.gs
    have g12 := g11.call g12
    rw [e12, bind_ok] at hr ⊢
    (repeat refine Zr ?_)
    refine s_st (vs := [.int .i64 a2]) rfl rfl rfl rfl rfl C12.blk (Nat.le_of_ble_eq_true rfl) (fun w13 s13 => ?_)
    obtain ⟨g13, C13⟩ := g12.put C12 (cs' := stC ({ k := 4, nm := nm, a := a, b := a2 }, nilS, nilS)) ⟨s13.kp, s13.sz, s13.blk⟩ rfl
    have B13 : Bx X w w13 V12 b _ _ := ⟨B12.ge, s13.kp.get B12.blk hbc, B12.ns⟩
    (repeat refine Zr ?_)
    refine s_v (r_ldb (vs := stC ({ k := 4, nm := nm, a := a, b := a2 }, nilS, nilS)) rfl rfl rfl C13.blk rfl rfl) ?_
    refine s_st (vs := stC ({ k := 4, nm := nm, a := a, b := a2 }, nilS, nilS)) rfl rfl rfl rfl rfl B13.blk (Nat.le_of_ble_eq_true rfl) (fun w14 s14 => ?_)
    obtain ⟨g14, B14⟩ := g13.put B13 (cs' := stC ({ k := 4, nm := nm, a := a, b := a2 }, nilS, nilS)) ⟨s14.kp, s14.sz, s14.blk⟩ rfl
    (repeat refine Zr ?_)
    exact retP_c1 rfl (rv_ag (vs := stC ({ k := 4, nm := nm, a := a, b := a2 }, nilS, nilS)) rfl rfl rfl B14.blk rfl rfl) ⟨_, s12, V12, rfl, ⟨rfl, rfl, rfl⟩, g14⟩
  rw [if_neg q6] at hr ⊢
  have B6 := B5.no k6
  have g6 := g5.no k6
  (repeat refine Zr ?_)
  refine c_b rfl (fun hb => (by rw [show _ = _ from congrArg not hz] at hb; cases hb)) (fun hb => ?_)
  (repeat refine Zr ?_)
  refine s_callP (us := []) (zs := []) (by kernel_rfl) rfl rfl (wantF g6.at_ ok (Tk.strOf wEq) (by rw [ee]; decide) (by rw [ee]; exact want_no)) (by rw [ee]; exact erP.up g6 rfl) ?_
  rw [ee]
  rintro _ w7 ⟨_, s7, V7, e7, rfl, g7⟩
  have B7 := B6.gs g7.gs
  have g7 := g6.call g7
  rw [e7, bind_ok] at hr ⊢
  (repeat refine Zr ?_)
  refine s_callP (us := []) (zs := []) (by kernel_rfl) rfl rfl (hL.expr d s7 V7 w7 (by omega) g7.at_ (bind_ne hr)) (erP.up g7 rfl) ?_
  rintro _ w8 ⟨a, s8, V8, e8, rfl, g8⟩
  have B8 := B7.gs g8.gs
  have g8 := g7.call g8
  rw [e8, bind_ok] at hr ⊢
  (repeat refine Zr ?_)
  refine s_st (vs := stC ({ k := 3, nm := nm, a := a }, nilS, nilS)) rfl rfl rfl rfl rfl B8.blk (Nat.le_of_ble_eq_true rfl) (fun w9 s9 => ?_)
  obtain ⟨g9, B9⟩ := g8.put B8 (cs' := stC ({ k := 3, nm := nm, a := a }, nilS, nilS)) ⟨s9.kp, s9.sz, s9.blk⟩ rfl
  (repeat refine Zr ?_)
  exact retP_c1 rfl (rv_ag (vs := stC ({ k := 3, nm := nm, a := a }, nilS, nilS)) rfl rfl rfl B9.blk rfl rfl) ⟨_, s8, V8, rfl, ⟨rfl, rfl, rfl⟩, g9⟩
end
end Go.Proofs.YtfnbgbeinmekgaaGreatDoor.Sy
namespace Go.Proofs.YtfnbgbeinmekgaaGreatDoor.Sy
open Go Go.RowKit Fw
set_option linter.unusedVariables false
set_option maxRecDepth 20000
/-- A statement that is being made: its lists. -/
structure BrS where
  el : List Int
  mv : Value
  s : PS
  V : VS
section
variable {X : Cx} {L : Lv}
theorem branchF (ok : Ok X) (hB : Bd L) (hL : Wk X L) (hK : BlockD X L) (fr d : Int) (s : PS) (V : VS) (w : World) (hd : 0 ≤ d ∧ d ≤ 64) (h : At X w s V) : Does X 101 [ptr X, .int .i64 fr, .int .i64 d] w V (sBranch X.E L fr d s) intV := by
  intro hr
  have ee : B (Tk.strOf wElse) = wElse := B_of (by decide)
  have ei : B (Tk.strOf wIf) = wIf := B_of (by decide)
  obtain ⟨R, hR⟩ : ∃ R, sBranch X.E L fr d s = R := ⟨_, rfl⟩
  rw [hR] at hr ⊢
  unfold sBranch at hR
  refine retP_enter Tryz.func101 rfl Tryz.ntmps101 rfl ?_
  (repeat refine Zr ?_)
  refine s_callP (us := []) (zs := []) (by kernel_rfl) rfl rfl (hL.expr d s V w (by omega) h (bind_ne (show _ ≠ _ by rw [hR]; exact hr))) (erP.up (Sg.start h) hR.symm) ?_
  rintro _ w1 ⟨a, s1, V1, e1, rfl, g1⟩
  have u1 := hB.expr _ _ _ _ e1
  rw [e1, bind_ok] at hR
  (repeat refine Zr ?_)
  refine s_al rfl (fun b w2 n2 => ?_)
  have B2 := Bx.new (w0 := w) g1.at_ g1.size n2
  have g2 := g1.no n2.kp
  refine s_st (vs := stC ({ k := 5, a := a }, nilS, nilS)) rfl rfl rfl rfl rfl B2.blk (Nat.le_of_ble_eq_true rfl) (fun w3 s3 => ?_)
  obtain ⟨g3, B3⟩ := g2.put B2 (cs' := stC ({ k := 5, a := a }, nilS, nilS)) ⟨s3.kp, s3.sz, s3.blk⟩ rfl
  (repeat refine Zr ?_)
  refine s_callP (us := []) (zs := []) (by kernel_rfl) rfl rfl (hK (d + 1) s1 V1 w3 (by omega) g3.at_ (bind_ne (show _ ≠ _ by rw [hR]; exact hr))) (erP.up g3 hR.symm) ?_
  rintro _ w4 ⟨th, s4, V4, e4, g4, l4⟩
  have u4 := block_up hB e4
  rw [e4, bind_ok] at hR
  have B4 := B3.gs g4.gs
  have l4 : Ls w w4 V4 3 _ th.length (th.map (Value.int .i64)) := ⟨l4.own, fun g hg => ⟨Nat.le_trans g3.size (l4.nw g hg).1, (l4.nw g hg).2⟩⟩
  have g4 := g3.call g4
  obtain ⟨ta, tc, e, _⟩ := own_read l4.own
  subst e
  (repeat refine Zr ?_)
  refine s_st (vs := [.slice ta th.length tc]) rfl rfl rfl rfl rfl B4.blk (Nat.le_of_ble_eq_true rfl) (fun w5 s5 => ?_)
  have l5 : Ls w w5 V4 3 (.slice ta th.length tc) th.length (th.map (Value.int .i64)) := ⟨own_kp l4.own s5.kp fun g hg e => by
    obtain ⟨c, hc⟩ := own_ty l4.own hg
    exact ty_ne hc B4.blk rfl e, l4.nw⟩
  obtain ⟨g5, B5⟩ := g4.put B4 (cs' := stC ({ k := 5, a := a, th := th }, .slice ta th.length tc, nilS)) ⟨s5.kp, s5.sz, s5.blk⟩ rfl
  clear g4 l4 B4 g3 B3 g2 B2 n2 s3
  have hi4 : 1 ≤ s4.i := by unfold Up at u4; omega
  (repeat refine Zr ?_)
  refine s_bs (cs := [.string (Tk.strOf wElse)]) (e := 9) rfl (fun b6 w6 n6 => ?_)
  have g6 := g5.no n6.kp
  have B6 := B5.no n6.kp
  have l6 := l5.no n6.kp
  refine s_call (us := []) (zs := []) (by kernel_rfl) rfl rfl (take1 g6.at_ ok (Tk.strOf wElse) (by rw [ee]; decide) n6.blk) ?_
  rw [ee]
  refine fun v w7 hv => ?_
  have hcut : ∃ q : Bool, ∃ x : ByteArray, v = .string x ∧ (x.toList == (⟨#[]⟩ : ByteArray).toList) = !q ∧ (q = true → Sy.wd X.E s4 = wElse ∧ Sg X w V w7 (adv s4) V4 ∧ Bx X w w7 V4 b (stC ({ k := 5, a := a, th := th }, .slice ta th.length tc, nilS)) 42 ∧ Ls w w7 V4 3 (.slice ta th.length tc) th.length (th.map (Value.int .i64))) ∧
      (q = false → Sy.wd X.E s4 ≠ wElse ∧ Sg X w V w7 s4 V4 ∧ Bx X w w7 V4 b (stC ({ k := 5, a := a, th := th }, .slice ta th.length tc, nilS)) 42 ∧ Ls w w7 V4 3 (.slice ta th.length tc) th.length (th.map (Value.int .i64))) := by
    rcases hv with ⟨y, ⟨rfl, q7, hz, g7⟩ | ⟨rfl, q7, hz, k7⟩⟩
    · exact ⟨true, y, rfl, hz, fun _ => ⟨q7, g6.call g7, B6.gs g7.gs, l6.gs g6.at_ g7.gs rfl⟩, (fun e => by cases e)⟩
    · exact ⟨false, y, rfl, hz, (fun e => by cases e), fun _ => ⟨q7, g6.no k7, B6.no k7, l6.no k7⟩⟩
  clear hv
  obtain ⟨q, y, rfl, hz, hy, hn⟩ := hcut
  clear g6 B6 l6 n6 g5 B5 l5 s5
  (repeat refine Zr ?_)
  refine k_cutc (σ := BrS) (fun x => [(0, ptr X), (1, .int .i64 fr), (7, .pointer (some ⟨b, 0, none⟩))])
    (fun x w' => add X.E fr { k := 5, a := a, th := th, el := x.el } x.s = R ∧ Sg X w V w' x.s x.V ∧ Bx X w w' x.V b (stC ({ k := 5, a := a, th := th, el := x.el }, .slice ta th.length tc, x.mv)) 42 ∧ Ls w w' x.V 3 (.slice ta th.length tc) th.length (th.map (Value.int .i64)) ∧ LI w' x.mv x.el ∧
      (∀ g, x.mv.ownBlock = some g → w.heap.size ≤ g ∧ g < w'.heap.size) ∧ 1 ≤ x.s.i) ?_ ?_
  · refine c_b rfl (fun hb => ?_) (fun hb => ?_)
    · have hq : q = true := by
        have hb : (!(y.toList == (⟨#[]⟩ : ByteArray).toList)) = true := hb
        rw [hz] at hb; simpa using hb
      obtain ⟨q7, g7, B7, l7⟩ := hy hq
      rw [if_pos q7] at hR
      clear hn hy
      (repeat refine Zr ?_)
      refine s_bs (cs := [.string (Tk.strOf wIf)]) (e := 9) rfl (fun b8 w8 n8 => ?_)
      have g8 := g7.no n8.kp
      have B8 := B7.no n8.kp
      have l8 := l7.no n8.kp
      refine s_call (us := []) (zs := []) (by kernel_rfl) rfl rfl (is1 g8.at_ ok (Tk.strOf wIf) (by rw [ei]; decide) n8.blk) ?_
      rw [ei]
      rintro _ w9 ⟨rfl, k9⟩
      have g9 := g8.no k9
      have B9 := B8.no k9
      have l9 := l8.no k9
      clear g8 B8 l8 n8 k9
      (repeat refine Zr ?_)
      refine c_dec rfl (fun q9 => ?_) (fun q9 => ?_)
      · rw [if_pos q9] at hR
        (repeat refine Zr ?_)
        refine s_callP (us := []) (zs := []) (by kernel_rfl) rfl rfl (deepF g9.at_ ok (d + 1) (bind_ne (show _ ≠ _ by rw [hR]; exact hr))) (erP.up g9 hR.symm) ?_
        rintro _ w10 ⟨_, s10, V10, e10, rfl, g10⟩
        have hd' := deep_le e10
        have e10' := deep_up e10
        subst e10'
        rw [e10, bind_ok] at hR
        have B10 := B9.gs g10.gs
        have l10 := l9.gs g9.at_ g10.gs rfl
        have g10 := g9.call g10
        (repeat refine Zr ?_)
        refine s_call (us := []) (zs := []) (by kernel_rfl) rfl rfl (hereF g10.at_ ok) ?_
        rintro _ w11 ⟨rfl, k11⟩
        have g11 := g10.no k11
        have B11 := B10.no k11
        have l11 := l10.no k11
        (repeat refine Zr ?_)
        refine s_callP (us := []) (zs := []) (by kernel_rfl) rfl rfl (wantF g11.at_ ok (Tk.strOf wIf) (by rw [ei]; decide) (by rw [ei]; exact want_no)) ?_ ?_
        · rw [ei]
          rintro c w12 ⟨k, p, e, _⟩
          unfold want at e
          rw [if_pos q9] at e
          cases e
        rw [ei]
        rintro _ w12 ⟨_, s12, V12, e12, rfl, g12⟩
        have e12' : s12 = adv (adv s4) := by
          unfold want at e12
          rw [if_pos q9] at e12
          cases e12; rfl
        subst e12'
        have B12 := B11.gs g12.gs
        have l12 := l11.gs g11.at_ g12.gs rfl
        have g12 := g11.call g12
        clear e12 g11 B11 l11 g10 B10 l10 g9 B9 l9 g7 B7 l7
        (repeat refine Zr ?_)
        refine s_callP (us := []) (zs := []) (by kernel_rfl) rfl rfl (hL.branch (Sy.hr X.E (adv s4)) (d + 1) _ V12 w12 (by omega) g12.at_ (bind_ne (show _ ≠ _ by rw [hR]; exact hr))) (erP.up g12 hR.symm) ?_
        rintro _ w13 ⟨x, s13, V13, e13, rfl, g13⟩
        have u13 := hB.branch _ _ _ _ _ e13
        rw [e13, bind_ok] at hR
        have B13 := B12.gs g13.gs
        have l13 := l12.gs g12.at_ g13.gs rfl
        have g13 := g12.call g13
        refine s_bs (cs := [.int .i64 x]) (e := 3) rfl (fun b14 w14 n14 => ?_)
        have g14 := g13.no n14.kp
        have B14 := B13.no n14.kp
        have l14 := l13.no n14.kp
        have o14 : LI w14 (.slice (some ⟨b14, 0, none⟩) 1 1) [x] := own_new n14 (show 1 ≤ maxLen by decide)
        (repeat refine Zr ?_)
        refine s_st (vs := [.slice (some ⟨b14, 0, none⟩) 1 1]) rfl rfl rfl rfl rfl B14.blk (Nat.le_of_ble_eq_true rfl) (fun w15 s15 => ?_)
        have hk : ∀ {v : Value} {n : Nat} {cs : List Value}, w14.ownsRow 0 3 1 v n cs → w15.ownsRow 0 3 1 v n cs := fun ho => own_kp ho s15.kp fun g hg e => by
          obtain ⟨c, hc⟩ := own_ty ho hg
          exact ty_ne hc B14.blk rfl e
        obtain ⟨g15, B15⟩ := g14.put B14 (cs' := stC ({ k := 5, a := a, th := th, el := [x] }, .slice ta th.length tc, .slice (some ⟨b14, 0, none⟩) 1 1)) ⟨s15.kp, s15.sz, s15.blk⟩ rfl
        (repeat refine Zr ?_)
        refine l_cut ⟨[x], .slice (some ⟨b14, 0, none⟩) 1 1, s13, V13⟩ ⟨rfl, rfl, rfl, trivial⟩ ⟨hR, g15, B15, ⟨hk l14.own, l14.nw⟩, hk o14, fun g hg => ?_, by unfold Up at u13; simp only; omega⟩
        have hg : some b14 = some g := hg
        cases hg
        have := n14.ge; have := n14.lt; have := s15.sz; have := g13.size
        exact ⟨by omega, by omega⟩
      · rw [if_neg q9] at hR
        (repeat refine Zr ?_)
        refine s_callP (us := []) (zs := []) (by kernel_rfl) rfl rfl (hK (d + 1) _ V4 w9 (by omega) g9.at_ (bind_ne (show _ ≠ _ by rw [hR]; exact hr))) (erP.up g9 hR.symm) ?_
        rintro _ w10 ⟨el, s10, V10, e10, g10, m10⟩
        have u10 := block_up hB e10
        rw [e10, bind_ok] at hR
        have B10 := B9.gs g10.gs
        have l10 := l9.gs g9.at_ g10.gs rfl
        have hw9 := g9.size
        have g10 := g9.call g10
        obtain ⟨ma, mc, e, _⟩ := own_read m10.own
        subst e
        (repeat refine Zr ?_)
        refine s_st (vs := [.slice ma el.length mc]) rfl rfl rfl rfl rfl B10.blk (Nat.le_of_ble_eq_true rfl) (fun w15 s15 => ?_)
        have hk : ∀ {v : Value} {n : Nat} {cs : List Value}, w10.ownsRow 0 3 1 v n cs → w15.ownsRow 0 3 1 v n cs := fun ho => own_kp ho s15.kp fun g hg e => by
          obtain ⟨c, hc⟩ := own_ty ho hg
          exact ty_ne hc B10.blk rfl e
        obtain ⟨g15, B15⟩ := g10.put B10 (cs' := stC ({ k := 5, a := a, th := th, el := el }, .slice ta th.length tc, .slice ma el.length mc)) ⟨s15.kp, s15.sz, s15.blk⟩ rfl
        (repeat refine Zr ?_)
        refine l_cut ⟨el, .slice ma el.length mc, s10, V10⟩ ⟨rfl, rfl, rfl, trivial⟩ ⟨hR, g15, B15, ⟨hk l10.own, l10.nw⟩, hk m10.own, fun g hg => ?_, by unfold Up at u10; simp only; omega⟩
        have := m10.rng g hg; have := s15.sz
        exact ⟨by omega, by omega⟩
    · have hq : q = false := by
        have hb : (!(y.toList == (⟨#[]⟩ : ByteArray).toList)) = false := hb
        rw [hz] at hb; simpa using hb
      obtain ⟨q7, g7, B7, l7⟩ := hn hq
      rw [if_neg q7] at hR
      (repeat refine Zr ?_)
      exact l_cut ⟨[], nilS, s4, V4⟩ ⟨rfl, rfl, rfl, trivial⟩ ⟨hR, g7, B7, l7, LI.nil, fun g hg => (by cases hg), hi4⟩
  · rintro ⟨el, mv, s8, V8⟩ lr8 w8 ⟨hR8, g8, B8, l8, m8, hm8, hi8⟩
    simp only at hR8 g8 B8 l8 m8 hm8 hi8
    clear hR hy hn
    obtain ⟨ma, mc, rfl⟩ := m8.val
    (repeat refine Zr ?_)
    refine s_v (r_ldb (vs := stC ({ k := 5, a := a, th := th, el := el }, .slice ta th.length tc, .slice ma el.length mc)) rfl rfl rfl B8.blk rfl rfl) ?_
    have g9 := (g8.more' l8.rng).more' hm8
    refine s_callP (us := []) (zs := []) (by kernel_rfl) rfl rfl (addF g9.at_ ok fr { k := 5, a := a, th := th, el := el } (.slice ta th.length tc) (.slice ma el.length mc) l8.own m8 (fun g hg => .inl (.inr hg)) (fun g hg => .inr hg) hi8 add_no) (by rw [← hR8]; exact erP.up0 g9) ?_
    rintro _ w9 ⟨c, s9, V9, e9, rfl, g10⟩
    (repeat refine Zr ?_)
    exact retP_1 rfl rfl ⟨c, s9, V9, by rw [← hR8, e9], rfl, g9.call g10⟩
end
end Go.Proofs.YtfnbgbeinmekgaaGreatDoor.Sy
namespace Go.Proofs.YtfnbgbeinmekgaaGreatDoor.Sy
open Go Go.RowKit Fw
set_option linter.unusedVariables false
set_option maxRecDepth 20000
structure StS where
  x : St
  s : PS
  V : VS
def w7 : List (List Int) := [wVar, wIf, wWhile, wBreak, wCont, wReturn, wPrint]
def w7B : List ByteArray := w7.map Tk.strOf
theorem w7_B : w7B.map B = w7 := by kernel_rfl
theorem w7_ne : [] ∉ w7B.map B := by rw [w7_B]; decide
section
variable {X : Cx} {L : Lv}
theorem stmtF (ok : Ok X) (hB : Bd L) (hL : Wk X L) (hK : BlockD X L) (hC : CallD X L) (d : Int) (s : PS) (V : VS) (w : World) (hd : 0 ≤ d ∧ d ≤ 64) (h : At X w s V) : Does X 77 [ptr X, .int .i64 d] w V (sStmt X.E L d s) intV := by
  intro hr
  have es : B (Tk.strOf wSemi) = wSemi := B_of (by decide)
  obtain ⟨R, hR⟩ : ∃ R, sStmt X.E L d s = R := ⟨_, rfl⟩
  rw [hR] at hr ⊢
  unfold sStmt at hR
  refine retP_enter Tryz.func77 rfl Tryz.ntmps77 rfl ?_
  (repeat refine Zr ?_)
  refine s_call (us := []) (zs := []) (by kernel_rfl) rfl rfl (hereF h ok) ?_
  rintro _ w1 ⟨rfl, k1⟩
  have g1 := (Sg.start h).no k1
  (repeat refine Zr ?_)
  refine s_al rfl (fun b w2 n2 => ?_)
  have g2 := g1.no n2.kp
  have B2 := Bx.new (w0 := w) g1.at_ g1.size n2
  have B2 : Bx X w w2 V b (stC ({ k := 0 }, nilS, nilS)) 42 := B2
  (repeat refine Zr ?_)
  refine s_bs (cs := w7B.map Value.string) (e := 9) rfl (fun b3 w3 n3 => ?_)
  have g3 := g2.no n3.kp
  have B3 := B2.no n3.kp
  refine s_call (us := []) (zs := []) (by kernel_rfl) rfl rfl (takeF g3.at_ ok w7B (some ⟨b3, 0, none⟩) 7 (RdN n3.blk) (by decide) w7_ne) ?_
  rw [w7_B]
  refine fun v w4 hv => ?_
  have hcut : ∃ q : Bool, ∃ x : ByteArray, v = .string x ∧ (q = true → Sy.wd X.E s ∈ w7 ∧ B x = Sy.wd X.E s ∧ Sg X w V w4 (adv s) V ∧ Bx X w w4 V b (stC ({ k := 0 }, nilS, nilS)) 42) ∧
      (q = false → Sy.wd X.E s ∉ w7 ∧ B x = [] ∧ Sg X w V w4 s V ∧ Bx X w w4 V b (stC ({ k := 0 }, nilS, nilS)) 42) := by
    rcases hv with ⟨y, hy, ⟨q7, rfl, hz, g7⟩ | ⟨q7, rfl, k7⟩⟩
    · exact ⟨true, y, rfl, (fun _ => ⟨q7, hy, g3.call g7, B3.gs g7.gs⟩), fun e => by cases e⟩
    · exact ⟨false, ⟨#[]⟩, rfl, (fun e => by cases e), fun _ => ⟨q7, rfl, g3.no k7, B3.no k7⟩⟩
  clear hv
  obtain ⟨q, x, rfl, hy, hn⟩ := hcut
  clear g3 B3 g2 B2 n2 n3 g1 k1
  refine k_nil ?_
  refine k_n ?_
  refine k_cutc (σ := StS) (fun _ => [(0, ptr X), (5, .int .i64 (Sy.hr X.E s)), (6, .pointer (some ⟨b, 0, none⟩))])
    (fun y w' => endS X.E (Sy.hr X.E s) y.x y.s = R ∧ Sg X w V w' y.s y.V ∧ Bx X w w' y.V b (stC (y.x, nilS, nilS)) 42 ∧ y.x.th = [] ∧ y.x.el = []) ?_ ?_
  · have tst : ∀ {l : List Int} {bo : Bool}, (bo = decide (B x = l)) → l ≠ [] → (bo = true → q = true ∧ Sy.wd X.E s = l) ∧ (bo = false → q = true → Sy.wd X.E s ≠ l) := fun {l bo} hbo hl => by
      cases q with
      | true => rw [(hy rfl).2.1] at hbo; exact ⟨fun e => ⟨rfl, by rw [hbo] at e; exact of_decide_eq_true e⟩, fun e _ => by rw [hbo] at e; exact of_decide_eq_false e⟩
      | false => rw [(hn rfl).2.1, decide_eq_false (Ne.symm hl)] at hbo; exact ⟨fun e => (by rw [hbo] at e; cases e), fun _ e => (by cases e)⟩
    (repeat refine Zr ?_)
    refine c_b rfl (fun hb => ?_) (fun hb => ?_)
    · obtain ⟨hq, q1⟩ := (tst (l := wVar) (lit_iff hb (by kernel_rfl)) (by decide)).1 rfl
      obtain ⟨_, _, g4, B4⟩ := hy hq
      rw [if_pos q1] at hR
      (repeat refine Zr ?_)
      refine s_callP (us := []) (zs := []) (by kernel_rfl) rfl rfl (declF ok hL d _ V w4 hd g4.at_ (bind_ne (show _ ≠ _ by rw [hR]; exact hr))) (erP.up g4 hR.symm) ?_
      rintro _ w5 ⟨y, s5, V5, e5, ⟨rfl, hth, hel⟩, g5⟩
      rw [e5, bind_ok] at hR
      have B5 := B4.gs g5.gs
      have g5 := g4.call g5
      refine s_st (vs := stC (y, nilS, nilS)) rfl rfl rfl rfl rfl B5.blk (Nat.le_of_ble_eq_true rfl) (fun w6 s6 => ?_)
      obtain ⟨g6, B6⟩ := g5.put B5 (cs' := stC (y, nilS, nilS)) ⟨s6.kp, s6.sz, s6.blk⟩ rfl
      (repeat refine Zr ?_)
      exact l_cut ⟨y, s5, V5⟩ ⟨rfl, rfl, rfl, trivial⟩ ⟨hR, g6, B6, hth, hel⟩
    have t1 := (tst (l := wVar) (lit_iff hb (by kernel_rfl)) (by decide)).2 rfl
    clear hb
    (repeat refine Zr ?_)
    refine c_b rfl (fun hb => ?_) (fun hb => ?_)
    · obtain ⟨hq, q1⟩ := (tst (l := wIf) (lit_iff hb (by kernel_rfl)) (by decide)).1 rfl
      obtain ⟨_, _, g4, B4⟩ := hy hq
      rw [if_neg (t1 hq), if_pos q1] at hR
      (repeat refine Zr ?_)
      refine s_callP (us := []) (zs := []) (by kernel_rfl) rfl rfl (hL.branch (Sy.hr X.E s) d _ V w4 hd g4.at_ (by rw [hR]; exact hr)) (by rw [hR]; exact erP.up0 g4) ?_
      rintro _ w5 ⟨c, s5, V5, e5, rfl, g5⟩
      (repeat refine Zr ?_)
      exact retP_1 rfl rfl ⟨c, s5, V5, by rw [← hR, e5], rfl, g4.call g5⟩
    have t2 := (tst (l := wIf) (lit_iff hb (by kernel_rfl)) (by decide)).2 rfl
    clear hb
    (repeat refine Zr ?_)
    refine c_b rfl (fun hb => ?_) (fun hb => ?_)
    · obtain ⟨hq, q1⟩ := (tst (l := wWhile) (lit_iff hb (by kernel_rfl)) (by decide)).1 rfl
      obtain ⟨_, _, g4, B4⟩ := hy hq
      rw [if_neg (t1 hq), if_neg (t2 hq), if_pos q1] at hR
      (repeat refine Zr ?_)
      refine s_callP (us := []) (zs := []) (by kernel_rfl) rfl rfl (hL.expr d _ V w4 (by omega) g4.at_ (bind_ne (show _ ≠ _ by rw [hR]; exact hr))) (erP.up g4 hR.symm) ?_
      rintro _ w5 ⟨a, s5, V5, e5, rfl, g5⟩
      rw [e5, bind_ok] at hR
      have B5 := B4.gs g5.gs
      have g5 := g4.call g5
      (repeat refine Zr ?_)
      refine s_st (vs := stC ({ k := 6, a := a }, nilS, nilS)) rfl rfl rfl rfl rfl B5.blk (Nat.le_of_ble_eq_true rfl) (fun w6 s6 => ?_)
      obtain ⟨g6, B6⟩ := g5.put B5 (cs' := stC ({ k := 6, a := a }, nilS, nilS)) ⟨s6.kp, s6.sz, s6.blk⟩ rfl
      (repeat refine Zr ?_)
      refine s_callP (us := []) (zs := []) (by kernel_rfl) rfl rfl (hK (d + 1) s5 V5 w6 (by omega) g6.at_ (bind_ne (show _ ≠ _ by rw [hR]; exact hr))) (erP.up g6 hR.symm) ?_
      rintro _ w7 ⟨th, s7, V7, e7, g7, l7⟩
      have u7 := block_up hB e7
      rw [e7, bind_ok] at hR
      have B7 := B6.gs g7.gs
      have l7 : Ls w w7 V7 3 _ th.length (th.map (Value.int .i64)) := ⟨l7.own, fun g hg => ⟨Nat.le_trans g6.size (l7.nw g hg).1, (l7.nw g hg).2⟩⟩
      have g7 := g6.call g7
      obtain ⟨ta, tc, e, _⟩ := own_read l7.own
      subst e
      (repeat refine Zr ?_)
      refine s_st (vs := [.slice ta th.length tc]) rfl rfl rfl rfl rfl B7.blk (Nat.le_of_ble_eq_true rfl) (fun w8 s8 => ?_)
      have l8 : Ls w w8 V7 3 (.slice ta th.length tc) th.length (th.map (Value.int .i64)) := ⟨own_kp l7.own s8.kp fun g hg e => by
        obtain ⟨c, hc⟩ := own_ty l7.own hg
        exact ty_ne hc B7.blk rfl e, l7.nw⟩
      obtain ⟨g8, B8⟩ := g7.put B7 (cs' := stC ({ k := 6, a := a, th := th }, .slice ta th.length tc, nilS)) ⟨s8.kp, s8.sz, s8.blk⟩ rfl
      (repeat refine Zr ?_)
      refine s_v (r_ldb (vs := stC ({ k := 6, a := a, th := th }, .slice ta th.length tc, nilS)) rfl rfl rfl B8.blk rfl rfl) ?_
      have g9 := g8.more' l8.rng
      refine s_callP (us := []) (zs := []) (by kernel_rfl) rfl rfl (addF g9.at_ ok (Sy.hr X.E s) { k := 6, a := a, th := th } (.slice ta th.length tc) nilS l8.own LI.nil (fun g hg => .inr hg) Ow.nil (by unfold Up at u7; omega) add_no) (by rw [hR]; exact erP.up0 g9) ?_
      rintro _ w9 ⟨c, s9, V9, e9, rfl, g10⟩
      (repeat refine Zr ?_)
      exact retP_1 rfl rfl ⟨c, s9, V9, by rw [← hR, e9], rfl, g9.call g10⟩
    have t3 := (tst (l := wWhile) (lit_iff hb (by kernel_rfl)) (by decide)).2 rfl
    clear hb
    (repeat refine Zr ?_)
    refine c_b rfl (fun hb => ?_) (fun hb => ?_)
    · obtain ⟨hq, q1⟩ := (tst (l := wBreak) (lit_iff hb (by kernel_rfl)) (by decide)).1 rfl
      obtain ⟨_, _, g4, B4⟩ := hy hq
      rw [if_neg (t1 hq), if_neg (t2 hq), if_neg (t3 hq), if_pos q1] at hR
      (repeat refine Zr ?_)
      refine s_st (vs := [.int .i64 7]) rfl rfl rfl rfl rfl B4.blk (Nat.le_of_ble_eq_true rfl) (fun w6 s6 => ?_)
      obtain ⟨g6, B6⟩ := g4.put B4 (cs' := stC ({ k := 7 }, nilS, nilS)) ⟨s6.kp, s6.sz, s6.blk⟩ rfl
      (repeat refine Zr ?_)
      exact l_cut ⟨{ k := 7 }, adv s, V⟩ ⟨rfl, rfl, rfl, trivial⟩ ⟨hR, g6, B6, rfl, rfl⟩
    have t4 := (tst (l := wBreak) (lit_iff hb (by kernel_rfl)) (by decide)).2 rfl
    clear hb
    (repeat refine Zr ?_)
    refine c_b rfl (fun hb => ?_) (fun hb => ?_)
    · obtain ⟨hq, q1⟩ := (tst (l := wCont) (lit_iff hb (by kernel_rfl)) (by decide)).1 rfl
      obtain ⟨_, _, g4, B4⟩ := hy hq
      rw [if_neg (t1 hq), if_neg (t2 hq), if_neg (t3 hq), if_neg (t4 hq), if_pos q1] at hR
      (repeat refine Zr ?_)
      refine s_st (vs := [.int .i64 8]) rfl rfl rfl rfl rfl B4.blk (Nat.le_of_ble_eq_true rfl) (fun w6 s6 => ?_)
      obtain ⟨g6, B6⟩ := g4.put B4 (cs' := stC ({ k := 8 }, nilS, nilS)) ⟨s6.kp, s6.sz, s6.blk⟩ rfl
      (repeat refine Zr ?_)
      exact l_cut ⟨{ k := 8 }, adv s, V⟩ ⟨rfl, rfl, rfl, trivial⟩ ⟨hR, g6, B6, rfl, rfl⟩
    have t5 := (tst (l := wCont) (lit_iff hb (by kernel_rfl)) (by decide)).2 rfl
    clear hb
    (repeat refine Zr ?_)
    refine c_b rfl (fun hb => ?_) (fun hb => ?_)
    · obtain ⟨hq, q1⟩ := (tst (l := wReturn) (lit_iff hb (by kernel_rfl)) (by decide)).1 rfl
      obtain ⟨_, _, g4, B4⟩ := hy hq
      rw [if_neg (t1 hq), if_neg (t2 hq), if_neg (t3 hq), if_neg (t4 hq), if_neg (t5 hq), if_pos q1] at hR
      (repeat refine Zr ?_)
      refine s_st (vs := stC ({ k := 9, a := -1 }, nilS, nilS)) rfl rfl rfl rfl rfl B4.blk (Nat.le_of_ble_eq_true rfl) (fun w6 s6 => ?_)
      obtain ⟨g6, B6⟩ := g4.put B4 (cs' := stC ({ k := 9, a := -1 }, nilS, nilS)) ⟨s6.kp, s6.sz, s6.blk⟩ rfl
      (repeat refine Zr ?_)
      refine s_bs (cs := [.string (Tk.strOf wSemi)]) (e := 9) rfl (fun b7 w7 n7 => ?_)
      have g7 := g6.no n7.kp
      have B7 := B6.no n7.kp
      refine s_call (us := []) (zs := []) (by kernel_rfl) rfl rfl (is1 g7.at_ ok (Tk.strOf wSemi) (by rw [es]; decide) n7.blk) ?_
      rw [es]
      rintro _ w8 ⟨rfl, k8⟩
      have g8 := g7.no k8
      have B8 := B7.no k8
      (repeat refine Zr ?_)
      refine c_b rfl (fun hb => ?_) (fun hb => ?_)
      · have hb : (!decide (Sy.wd X.E (adv s) = wSemi)) = true := hb
        rw [if_neg (by simpa using hb)] at hR
        (repeat refine Zr ?_)
        refine s_callP (us := []) (zs := []) (by kernel_rfl) rfl rfl (hL.expr d _ V w8 (by omega) g8.at_ (bind_ne (show _ ≠ _ by rw [hR]; exact hr))) (erP.up g8 hR.symm) ?_
        rintro _ w9 ⟨a, s9, V9, e9, rfl, g9⟩
        rw [e9, bind_ok] at hR
        have B9 := B8.gs g9.gs
        have g9 := g8.call g9
        (repeat refine Zr ?_)
        refine s_st (vs := [.int .i64 a]) rfl rfl rfl rfl rfl B9.blk (Nat.le_of_ble_eq_true rfl) (fun w10 s10 => ?_)
        obtain ⟨g10, B10⟩ := g9.put B9 (cs' := stC ({ k := 9, a := a }, nilS, nilS)) ⟨s10.kp, s10.sz, s10.blk⟩ rfl
        (repeat refine Zr ?_)
        exact l_cut ⟨{ k := 9, a := a }, s9, V9⟩ ⟨rfl, rfl, rfl, trivial⟩ ⟨hR, g10, B10, rfl, rfl⟩
      · have hb : (!decide (Sy.wd X.E (adv s) = wSemi)) = false := hb
        rw [if_pos (by simpa using hb)] at hR
        (repeat refine Zr ?_)
        exact l_cut ⟨{ k := 9, a := -1 }, adv s, V⟩ ⟨rfl, rfl, rfl, trivial⟩ ⟨hR, g8, B8, rfl, rfl⟩
    have t6 := (tst (l := wReturn) (lit_iff hb (by kernel_rfl)) (by decide)).2 rfl
    clear hb
    (repeat refine Zr ?_)
    refine c_b rfl (fun hb => ?_) (fun hb => ?_)
    · obtain ⟨hq, q1⟩ := (tst (l := wPrint) (lit_iff hb (by kernel_rfl)) (by decide)).1 rfl
      obtain ⟨_, _, g4, B4⟩ := hy hq
      rw [if_neg (t1 hq), if_neg (t2 hq), if_neg (t3 hq), if_neg (t4 hq), if_neg (t5 hq), if_neg (t6 hq), if_pos q1] at hR
      (repeat refine Zr ?_)
      refine s_callP (us := []) (zs := []) (by kernel_rfl) rfl rfl (hL.expr d _ V w4 (by omega) g4.at_ (bind_ne (show _ ≠ _ by rw [hR]; exact hr))) (erP.up g4 hR.symm) ?_
      rintro _ w5 ⟨a, s5, V5, e5, rfl, g5⟩
      rw [e5, bind_ok] at hR
      have B5 := B4.gs g5.gs
      have g5 := g4.call g5
      (repeat refine Zr ?_)
      refine s_st (vs := stC ({ k := 10, a := a }, nilS, nilS)) rfl rfl rfl rfl rfl B5.blk (Nat.le_of_ble_eq_true rfl) (fun w6 s6 => ?_)
      obtain ⟨g6, B6⟩ := g5.put B5 (cs' := stC ({ k := 10, a := a }, nilS, nilS)) ⟨s6.kp, s6.sz, s6.blk⟩ rfl
      (repeat refine Zr ?_)
      exact l_cut ⟨{ k := 10, a := a }, s5, V5⟩ ⟨rfl, rfl, rfl, trivial⟩ ⟨hR, g6, B6, rfl, rfl⟩
    have t7 := (tst (l := wPrint) (lit_iff hb (by kernel_rfl)) (by decide)).2 rfl
    clear hb
    have hq : q = false := by
      cases q with
      | false => rfl
      | true =>
        have hm := (hy rfl).1
        simp only [w7, List.mem_cons, List.not_mem_nil, or_false] at hm
        rcases hm with e | e | e | e | e | e | e
        · exact (t1 rfl e).elim
        · exact (t2 rfl e).elim
        · exact (t3 rfl e).elim
        · exact (t4 rfl e).elim
        · exact (t5 rfl e).elim
        · exact (t6 rfl e).elim
        · exact (t7 rfl e).elim
    obtain ⟨hm, _, g4, B4⟩ := hn hq
    simp only [w7, List.mem_cons, List.not_mem_nil, or_false, not_or] at hm
    obtain ⟨m1, m2, m3, m4, m5, m6, m7⟩ := hm
    rw [if_neg m1, if_neg m2, if_neg m3, if_neg m4, if_neg m5, if_neg m6, if_neg m7] at hR
    (repeat refine Zr ?_)
    refine s_callP (us := []) (zs := []) (by kernel_rfl) rfl rfl (namedF ok hL hC d s V w4 hd g4.at_ (bind_ne (show _ ≠ _ by rw [hR]; exact hr))) (erP.up g4 hR.symm) ?_
    rintro _ w5 ⟨y, s5, V5, e5, ⟨rfl, hth, hel⟩, g5⟩
    rw [e5, bind_ok] at hR
    have B5 := B4.gs g5.gs
    have g5 := g4.call g5
    refine s_st (vs := stC (y, nilS, nilS)) rfl rfl rfl rfl rfl B5.blk (Nat.le_of_ble_eq_true rfl) (fun w6 s6 => ?_)
    obtain ⟨g6, B6⟩ := g5.put B5 (cs' := stC (y, nilS, nilS)) ⟨s6.kp, s6.sz, s6.blk⟩ rfl
    (repeat refine Zr ?_)
    exact l_cut ⟨y, s5, V5⟩ ⟨rfl, rfl, rfl, trivial⟩ ⟨hR, g6, B6, hth, hel⟩
  · rintro ⟨y, s8, V8⟩ lr8 w8 ⟨hR8, g8, B8, hth, hel⟩
    simp only at hR8 g8 B8 hth hel
    clear hR hy hn
    unfold endS at hR8
    (repeat refine Zr ?_)
    refine s_callP (us := []) (zs := []) (by kernel_rfl) rfl rfl (wantF g8.at_ ok (Tk.strOf wSemi) (by rw [es]; decide) (by rw [es]; exact want_no)) (by rw [es]; exact erP.up g8 hR8.symm) ?_
    rw [es]
    rintro _ w9 ⟨_, s9, V9, e9, rfl, g9⟩
    have u9 := want_up e9
    have B9 := B8.gs g9.gs
    have g9 := g8.call g9
    rw [e9, bind_ok] at hR8
    (repeat refine Zr ?_)
    refine s_v (r_ldb (vs := stC (y, nilS, nilS)) rfl rfl rfl B9.blk rfl rfl) ?_
    refine s_callP (us := []) (zs := []) (by kernel_rfl) rfl rfl (addX g9 ok (Sy.hr X.E s) y hth hel (by unfold Up at u9; omega)) (by rw [hR8]; exact erP.up0 g9) ?_
    rintro _ w10 ⟨c, s10, V10, e10, rfl, g10⟩
    (repeat refine Zr ?_)
    exact retP_1 rfl rfl ⟨c, s10, V10, by rw [← hR8, e10], rfl, g9.call g10⟩
end
/-- Each part does as it says, at any fuel. -/
theorem wk_lv {X : Cx} (ok : Ok X) : ∀ n, Wk X (lv X.E n) := by
  intro n
  induction n using Nat.strongRecOn with
  | _ n ih =>
    cases n with
    | zero => exact ⟨fun _ _ _ _ _ _ _ _ _ _ h => (h rfl).elim, fun _ _ _ _ _ _ h => (h rfl).elim, fun _ _ _ _ _ _ h => (h rfl).elim, fun _ _ _ _ _ _ h => (h rfl).elim, fun _ _ _ _ _ _ h => (h rfl).elim, fun _ _ _ _ _ _ _ h => (h rfl).elim⟩
    | succ n =>
      have hW : ∀ m, m ≤ n → Wk X (lv X.E m) := fun m hm => ih m (by omega)
      have hL := hW n (Nat.le_refl _)
      have hC := callF ok hW
      have hK := blockF ok hW
      have hB := bd_lv (E := X.E) n
      exact ⟨fun v d s V w g hv hd h hg => rowF ok hW v d s V w g hv hd h hg, fun d s V w hd h => exprF ok hL d s V w hd h, fun d s V w hd h => unaryF ok hB hL d s V w hd h, fun d s V w hd h => primF ok hB hL hC d s V w hd h,
        fun d s V w hd h => stmtF ok hB hL hK hC d s V w hd h, fun fr d s V w hd h => branchF ok hB hL hK fr d s V w hd h⟩
end Go.Proofs.YtfnbgbeinmekgaaGreatDoor.Sy
namespace Go.Proofs.YtfnbgbeinmekgaaGreatDoor.Sy
open Go Go.RowKit Fw
set_option linter.unusedVariables false
set_option maxRecDepth 20000
/-- Parameters that were taken. -/
structure PrmS where
  m : Nat
  l : List (List Int)
  lv : Value
  s : PS
  V : VS
theorem snoc_sv {l : List (List Int)} {a : List Int} : l.map sv ++ [sv a] = (l ++ [a]).map sv := by simp
section
variable {X : Cx} {n : Nat}
def FctD (X : Cx) (n : Nat) : Prop := ∀ s V w, At X w s V → fct X.E n s ≠ .out →
  RetP Tryz.prog 20 [ptr X] w (fun v w' => ∃ s' V', fct X.E n s = .ok () s' ∧ Sg X w V w' s' V') (erP X w V (fct X.E n s))
set_option maxHeartbeats 1000000 in
theorem functionF (ok : Ok X) : FctD X n := by
  intro s V w h hr
  have hW : ∀ m, m ≤ n → Wk X (lv X.E m) := fun m _ => wk_lv ok m
  have hK := blockF ok hW
  have ef : B (Tk.strOf wFunc) = wFunc := B_of (by decide)
  have el : B (Tk.strOf wLpar) = wLpar := B_of (by decide)
  have er : B (Tk.strOf wRpar) = wRpar := B_of (by decide)
  have ec : B (Tk.strOf wComma) = wComma := B_of (by decide)
  have ei : B (Tk.strOf wInt) = wInt := B_of (by decide)
  have hbig := ok.big
  obtain ⟨R, hR⟩ : ∃ R, fct X.E n s = R := ⟨_, rfl⟩
  rw [hR] at hr ⊢
  unfold fct at hR
  refine retP_enter Tryz.func20 rfl Tryz.ntmps20 rfl ?_
  (repeat refine Zr ?_)
  refine s_call (us := []) (zs := []) (by kernel_rfl) rfl rfl (hereF h ok) ?_
  rintro _ w1 ⟨rfl, k1⟩
  have g1 := (Sg.start h).no k1
  (repeat refine Zr ?_)
  refine s_bs (cs := [.string (Tk.strOf wFunc)]) (e := 9) rfl (fun b2 w2 n2 => ?_)
  have g2 := g1.no n2.kp
  refine s_call (us := []) (zs := []) (by kernel_rfl) rfl rfl (is1 g2.at_ ok (Tk.strOf wFunc) (by rw [ef]; decide) n2.blk) ?_
  rw [ef]
  rintro _ w3 ⟨rfl, k3⟩
  have g3 := g2.no k3
  have hfl := h.fl
  rcases (Decidable.em (Sy.wd X.E s = wFunc)).symm with q | q
  · refine s_set 8 false rfl (decide_eq_false q) ?_
    (repeat (first | refine Zr ?_ | refine Zn ?_ | refine Zu ?_ | refine Zg ?_))
    refine c_f rfl ?_
    (repeat refine Zr ?_)
    rw [if_neg (fun e => q e.1), bind_ok] at hR
    refine s_callP (us := []) (zs := []) (by kernel_rfl) rfl rfl (wantF g3.at_ ok (Tk.strOf wFunc) (by rw [ef]; decide) (by rw [ef]; exact want_no)) (by rw [ef]; exact erP.up g3 hR.symm) ?_
    rw [ef]
    rintro _ w4 ⟨_, s4, V4, e4, _, _⟩
    unfold want at e4
    rw [if_neg q] at e4
    cases e4
  refine s_set 8 true rfl (decide_eq_true q) ?_
  (repeat (first | refine Zr ?_ | refine Zn ?_ | refine Zu ?_ | refine Zg ?_))
  refine s_gcall (us := []) (zs := []) rfl (by kernel_rfl) rfl rfl (lenF g3.at_) ?_
  rintro _ w3' ⟨rfl, rfl⟩
  (repeat (first | refine Zr ?_ | refine Zn ?_ | refine Zu ?_ | refine Zg ?_))
  refine c_dec rfl (fun q3 => ?_) (fun q3 => ?_)
  · rw [if_pos ⟨q, by omega⟩] at hR
    (repeat refine Zr ?_)
    refine s_callX (us := []) (zs := []) (by kernel_rfl) rfl rfl (failF g3.at_ ok 5) ?_
    rintro c w4 ⟨rfl, k4⟩
    exact ⟨5, Sy.hr X.E s, hR.symm, rfl, g3.gs.kp.no k4⟩
  have hl32 : s.fn.length < 32 := by omega
  rw [if_neg (fun e => by omega), bind_ok] at hR
  (repeat refine Zr ?_)
  refine s_callP (us := []) (zs := []) (by kernel_rfl) rfl rfl (wantF g3.at_ ok (Tk.strOf wFunc) (by rw [ef]; decide) (by rw [ef]; exact want_no)) (by rw [ef]; exact erP.up g3 hR.symm) ?_
  rw [ef]
  rintro _ w4 ⟨_, s4, V4, e4, rfl, g4⟩
  have e4' : s4 = Sy.adv s := by
    unfold want at e4
    rw [if_pos q] at e4
    cases e4; rfl
  subst e4'
  rw [e4, bind_ok] at hR
  have g4 := g3.call g4
  clear g3 g2 g1 n2 k3 k1 e4
  (repeat refine Zr ?_)
  refine s_callP (us := []) (zs := []) (by kernel_rfl) rfl rfl (kindF g4.at_ ok 1 (by decide) (bind_ne (show _ ≠ _ by rw [hR]; exact hr))) (erP.up g4 hR.symm) ?_
  rintro _ w5 ⟨nm, s5, V5, e5, rfl, g5⟩
  rw [e5, bind_ok] at hR
  have g5 := g4.call g5
  (repeat refine Zr ?_)
  refine s_al rfl (fun b w6 n6 => ?_)
  have B6 := Bx.new (w0 := w) g5.at_ g5.size n6
  have g6 := g5.no n6.kp
  refine s_st (vs := fnC ({ nm := nm }, nilS, nilS)) rfl rfl rfl rfl rfl B6.blk (Nat.le_of_ble_eq_true rfl) (fun w7 s7 => ?_)
  obtain ⟨g7, B7⟩ := g6.put B6 (cs' := fnC ({ nm := nm }, nilS, nilS)) ⟨s7.kp, s7.sz, s7.blk⟩ rfl
  (repeat refine Zr ?_)
  refine s_callP (us := []) (zs := []) (by kernel_rfl) rfl rfl (wantF g7.at_ ok (Tk.strOf wLpar) (by rw [el]; decide) (by rw [el]; exact want_no)) (by rw [el]; exact erP.up g7 hR.symm) ?_
  rw [el]
  rintro _ w8 ⟨_, s8, V8, e8, rfl, g8⟩
  rw [e8, bind_ok] at hR
  have B8 := B7.gs g8.gs
  have g8 := g7.call g8
  clear g7 B7 g6 B6 n6 s7 g5 g4
  refine k_nil ?_
  refine k_n ?_
  refine k_seq ?_
  refine k_blk ?_
  have fu5 := (knd_up e5).trans (want_up e8)
  have hfn8 : s8.fn.length = s.fn.length := congrArg List.length fu5.2.2.1
  refine k_loop (σ := PrmS) (fun x => [(0, ptr X), (2, .int .i64 (Sy.hr X.E s)), (3, .pointer (some ⟨b, 0, none⟩))])
    (fun x w' => (∃ G, (prms X.E x.m x.l x.s).bind G = R ∧ G = (fun ps s4 => (if Sy.wd X.E s4 = wInt then Rs.ok (1 : Int) (Sy.adv s4) else .ok 4 s4).bind fun ty s5 => (block X.E (lv X.E n) 1 s5).bind fun bd s6 =>
      .ok () { s6 with fn := s6.fn ++ [{ nm := nm, f := Sy.hr X.E s, e := pe X.E s6, ps := ps, ty := ty, bd := bd }] })) ∧ Sg X w V w' x.s x.V ∧ Bx X w w' x.V b (fnC ({ nm := nm }, x.lv, nilS)) 62 ∧ Ls w w' x.V 9 x.lv x.l.length (x.l.map sv) ∧ x.l.length ≤ x.s.i ∧ x.s.fn.length = s.fn.length) (fun x => x.m) ⟨n, [], nilS, s8, V8⟩ ⟨rfl, rfl, rfl, trivial⟩ ⟨⟨_, hR, rfl⟩, g8, B8, Ls.nil, Nat.zero_le _, hfn8⟩ ?_
  rintro ⟨m, l, lv', s9, V9⟩ lr9 w9 ⟨⟨G, hR9, hG⟩, g9, B9, l9, hl9, hn9⟩
  simp only at hR9 g9 B9 l9 hl9 hn9
  clear hR g8 B8 e8 hfn8 fu5
  cases m with
  | zero => exact (hr (by rw [← hR9]; rfl)).elim
  | succ m =>
  unfold prms at hR9
  obtain ⟨la, lc, e, _⟩ := own_read l9.own
  subst e
  (repeat refine Zr ?_)
  refine s_bs (cs := [.string (Tk.strOf wRpar)]) (e := 9) rfl (fun b10 w10 n10 => ?_)
  have g10 := g9.no n10.kp
  have B10 := B9.no n10.kp
  have l10 := l9.no n10.kp
  refine s_call (us := []) (zs := []) (by kernel_rfl) rfl rfl (take1 g10.at_ ok (Tk.strOf wRpar) (by rw [er]; decide) n10.blk) ?_
  rw [er]
  rintro _ w11 ⟨y, ⟨rfl, q11, hz, g11⟩ | ⟨rfl, q11, hz, k11⟩⟩
  · rw [if_pos q11, bind_ok] at hR9
    have B11 := B10.gs g11.gs
    have l11 := l10.gs g10.at_ g11.gs rfl
    have g11 := g10.call g11
    clear g10 B10 l10 n10 g9 B9 l9
    subst hG
    simp only at hR9
    (repeat refine Zr ?_)
    refine c_b rfl (fun hb => (by rw [show _ = _ from hz] at hb; cases hb)) (fun hb => ?_)
    (repeat refine Zr ?_)
    refine s_bs (cs := [.string (Tk.strOf wInt)]) (e := 9) rfl (fun b12 w12 n12 => ?_)
    have g12 := g11.no n12.kp
    have B12 := B11.no n12.kp
    have l12 := l11.no n12.kp
    refine s_call (us := []) (zs := []) (by kernel_rfl) rfl rfl (take1 g12.at_ ok (Tk.strOf wInt) (by rw [ei]; decide) n12.blk) ?_
    rw [ei]
    refine fun v w13 hv => ?_
    have hcut : ∃ (z : ByteArray) (ty : Int) (s13 : PS), v = .string z ∧ (z.toList == (⟨#[]⟩ : ByteArray).toList) = (ty == 4) ∧ (ty = 1 ∨ ty = 4) ∧ (if Sy.wd X.E (Sy.adv s9) = wInt then Rs.ok (1 : Int) (Sy.adv (Sy.adv s9)) else .ok 4 (Sy.adv s9)) = .ok ty s13 ∧ (1 ≤ s13.i ∧ s13.fn = s9.fn) ∧ Sg X w V w13 s13 V9 ∧ Bx X w w13 V9 b (fnC ({ nm := nm }, .slice la l.length lc, nilS)) 62 ∧ Ls w w13 V9 9 (.slice la l.length lc) l.length (l.map sv) := by
      rcases hv with ⟨y, ⟨rfl, q7, hz, g7⟩ | ⟨rfl, q7, hz, k7⟩⟩
      · exact ⟨y, 1, Sy.adv (Sy.adv s9), rfl, hz, .inl rfl, by rw [if_pos q7], ⟨by show 1 ≤ s9.i + 1 + 1; omega, rfl⟩, g12.call g7, B12.gs g7.gs, l12.gs g12.at_ g7.gs rfl⟩
      · exact ⟨y, 4, Sy.adv s9, rfl, hz, .inr rfl, by rw [if_neg q7], ⟨by show 1 ≤ s9.i + 1; omega, rfl⟩, g12.no k7, B12.no k7, l12.no k7⟩
    clear hv g12 B12 l12 n12 g11 B11 l11
    obtain ⟨z, ty, s13, rfl, hz13, hty, e13, ⟨hi13, hn13⟩, g13, B13, l13⟩ := hcut
    rw [e13, bind_ok] at hR9
    (repeat refine Zr ?_)
    refine k_cutc (σ := Unit) (fun _ => [(0, ptr X), (2, .int .i64 (Sy.hr X.E s)), (3, .pointer (some ⟨b, 0, none⟩))])
      (fun _ w' => Sg X w V w' s13 V9 ∧ Bx X w w' V9 b (fnC ({ nm := nm, ty := ty }, .slice la l.length lc, nilS)) 62 ∧ Ls w w' V9 9 (.slice la l.length lc) l.length (l.map sv)) ?_ ?_
    · refine c_b rfl (fun hb => ?_) (fun hb => ?_)
      · have hb : (!(z.toList == (⟨#[]⟩ : ByteArray).toList)) = true := hb
        have ht : ty = 1 := by
          rcases hty with e | e
          · exact e
          · subst e; rw [hz13] at hb; cases hb
        subst ht
        (repeat refine Zr ?_)
        refine s_st (vs := [.int .i64 1]) rfl rfl rfl rfl rfl B13.blk (Nat.le_of_ble_eq_true rfl) (fun w14 s14 => ?_)
        have l14 : Ls w w14 V9 9 (.slice la l.length lc) l.length (l.map sv) := ⟨own_kp l13.own s14.kp fun g hg e => by
          obtain ⟨c, hc⟩ := own_ty l13.own hg
          exact ty_ne hc B13.blk rfl e, l13.nw⟩
        obtain ⟨g14, B14⟩ := g13.put B13 (cs' := fnC ({ nm := nm, ty := 1 }, .slice la l.length lc, nilS)) ⟨s14.kp, s14.sz, s14.blk⟩ rfl
        (repeat refine Zr ?_)
        exact l_cut () ⟨rfl, rfl, rfl, trivial⟩ ⟨g14, B14, l14⟩
      · have hb : (!(z.toList == (⟨#[]⟩ : ByteArray).toList)) = false := hb
        have ht : ty = 4 := by
          rcases hty with e | e
          · subst e; rw [hz13] at hb; cases hb
          · exact e
        subst ht
        (repeat refine Zr ?_)
        exact l_cut () ⟨rfl, rfl, rfl, trivial⟩ ⟨g13, B13, l13⟩
    rintro _ lr14 w14 ⟨g14, B14, l14⟩
    clear g13 B13 l13
    (repeat refine Zr ?_)
    refine s_callP (us := []) (zs := []) (by kernel_rfl) rfl rfl (hK 1 s13 V9 w14 (by omega) g14.at_ (bind_ne (show _ ≠ _ by rw [hR9]; exact hr))) (erP.up g14 hR9.symm) ?_
    rintro _ w15 ⟨bd, s15, V15, e15, g15, m15⟩
    have u15 := block_up (bd_lv n) e15
    rw [e15, bind_ok] at hR9
    have B15 := B14.gs g15.gs
    have l15 := l14.gs g14.at_ g15.gs rfl
    have m15 : Ls w w15 V15 3 _ bd.length (bd.map (Value.int .i64)) := ⟨m15.own, fun g hg => ⟨Nat.le_trans g14.size (m15.nw g hg).1, (m15.nw g hg).2⟩⟩
    have g15 := g14.call g15
    obtain ⟨ma, mc, e, _⟩ := own_read m15.own
    subst e
    (repeat refine Zr ?_)
    refine s_st (vs := [.slice ma bd.length mc]) rfl rfl rfl rfl rfl B15.blk (Nat.le_of_ble_eq_true rfl) (fun w16 s16 => ?_)
    have l16 : Ls w w16 V15 9 (.slice la l.length lc) l.length (l.map sv) := ⟨own_kp l15.own s16.kp fun g hg e => by
      obtain ⟨c, hc⟩ := own_ty l15.own hg
      exact ty_ne hc B15.blk rfl e, l15.nw⟩
    have m16 : Ls w w16 V15 3 (.slice ma bd.length mc) bd.length (bd.map (Value.int .i64)) := ⟨own_kp m15.own s16.kp fun g hg e => by
      obtain ⟨c, hc⟩ := own_ty m15.own hg
      exact ty_ne hc B15.blk rfl e, m15.nw⟩
    obtain ⟨g16, B16⟩ := g15.put B15 (cs' := fnC ({ nm := nm, ty := ty, ps := l, bd := bd }, .slice la l.length lc, .slice ma bd.length mc)) ⟨s16.kp, s16.sz, s16.blk⟩ rfl
    clear g15 B15 l15 m15 g14 B14 l14
    (repeat refine Zr ?_)
    refine s_call (us := []) (zs := []) (by kernel_rfl) rfl rfl (spanF g16.at_ ok (by unfold Up at u15; omega) (Sy.hr X.E s)) ?_
    rintro _ w17 ⟨rfl, k17⟩
    have g17 := g16.no k17
    have B17 := B16.no k17
    have l17 := l16.no k17
    have m17 := m16.no k17
    (repeat refine Zr ?_)
    refine s_st (vs := [.int .i64 (Sy.hr X.E s), .int .i64 (pe X.E s15)]) rfl rfl rfl rfl rfl B17.blk (Nat.le_of_ble_eq_true rfl) (fun w18 s18 => ?_)
    have l18 : Ls w w18 V15 9 (.slice la l.length lc) l.length (l.map sv) := ⟨own_kp l17.own s18.kp fun g hg e => by
      obtain ⟨c, hc⟩ := own_ty l17.own hg
      exact ty_ne hc B17.blk rfl e, l17.nw⟩
    have m18 : Ls w w18 V15 3 (.slice ma bd.length mc) bd.length (bd.map (Value.int .i64)) := ⟨own_kp m17.own s18.kp fun g hg e => by
      obtain ⟨c, hc⟩ := own_ty m17.own hg
      exact ty_ne hc B17.blk rfl e, m17.nw⟩
    obtain ⟨f, hf⟩ : ∃ f : Fn, f = { nm := nm, f := Sy.hr X.E s, e := pe X.E s15, ps := l, ty := ty, bd := bd } := ⟨_, rfl⟩
    obtain ⟨g18, B18⟩ := g17.put B17 (cs' := fnC (f, .slice la l.length lc, .slice ma bd.length mc)) ⟨s18.kp, s18.sz, by rw [hf]; exact s18.blk⟩ rfl
    clear g17 B17 l17 m17 g16 B16 l16 m16
    have g19 := (g18.more' l18.rng).more' m18.rng
    obtain ⟨V', hV'⟩ : ∃ V', V' = (V15.add (Value.slice la l.length lc).ownBlock).add (Value.slice ma bd.length mc).ownBlock := ⟨_, rfl⟩
    rw [← hV'] at g19
    have ow1 : Ow V' (.slice la l.length lc) := by rw [hV']; exact fun g hg => .inl (.inr hg)
    have ow2 : Ow V' (.slice ma bd.length mc) := by rw [hV']; exact fun g hg => .inr hg
    have B19 : Bx X w w18 V' b (fnC (f, .slice la l.length lc, .slice ma bd.length mc)) 62 := ⟨B18.ge, B18.blk, fun hs => B18.ns (by rw [hV'] at hs; exact hs)⟩
    have h3 := g19.at_
    obtain ⟨rx, a1, o1, l1⟩ := h3.fs
    have hb3 := h3.blk
    have hfl15 : s15.fn.length ≤ 32 := h3.fl
    clear B18 g18
    (repeat refine Zr ?_)
    refine k_h (fun w' => Kp (Sx X V') w18 w') [(0, false), (1, false), (2, false), (3, false), (4, true)] 5 (by kernel_rfl) (waits_none) (by kernel_rfl) (by kernel_rfl) (by kernel_rfl) rfl (fun w4 k4 q4 => ?_)
    have k4' : Kp (Sx X V') w18 w4 := k4.mono fun _ _ h => h.elim
    refine h_v k4' (fun w' hw => r_mv rfl) ?_
    refine h_v k4' (fun w' hw => r_nc rfl) ?_
    refine h_v k4' (fun w' hw => r_fa rfl rfl) ?_
    refine h_v k4' (fun w' hw => r_ldb (vs := fnC (f, .slice la l.length lc, .slice ma bd.length mc)) rfl rfl rfl (hw.get B19.blk B19.ns) rfl rfl) ?_
    have h4 := h3.no k4
    have o4 := own_kp o1 k4 fun _ _ h => h
    refine h_call (us := []) (zs := []) (by kernel_rfl) rfl rfl (arF X.p 5 [X.tv, X.wv, .int .i64 (s15.i : Int), V'.x, V'.s, V'.f] 56 V'.f s15.fn.length (rx.flatMap fnC) f la ma l.length lc bd.length mc w4 h4.blk rfl o4 (by omega) rfl) ?_
    rintro _ w5 ⟨rfl, v1, hb5, o5, k5, row5⟩
    have k5' : Kp (Sx X V') w4 w5 := k5.mono fun i _ e => e.elim .inl fun e => .inr (.inr (.inr e))
    have kk : Kp (Sx X V') w18 w5 := k4'.trans k5' fun _ _ h => h
    refine ⟨fun _ => kk, ?_⟩
    refine h_nil ?_
    have P : ∀ {base : Nat} {e : TypeId} {size : Nat} {v : Value} {n : Nat} {cs : List Value}, w4.ownsRow base e size v n cs → Nat.beq e 56 = false → Nat.beq e 62 = false → w5.ownsRow base e size v n cs := fun ho he he0 => own_put2 h4 o4 k5 ho he he0
    obtain ⟨rx', a1', o1', l1'⟩ := h4.xs
    obtain ⟨ry, a2, o2, l2⟩ := h4.ss
    have l1'' : ∀ r ∈ rx, (LS w5 r.2.1 r.1.ps ∧ Ow V' r.2.1) ∧ LI w5 r.2.2 r.1.bd ∧ Ow V' r.2.2 := fun r hr => ⟨⟨P (own_kp (l1 r hr).1.1 k4 fun _ _ h => h) rfl rfl, (l1 r hr).1.2⟩, P (own_kp (l1 r hr).2.1 k4 fun _ _ h => h) rfl rfl, (l1 r hr).2.2⟩
    have p1 : LS w5 (.slice la l.length lc) f.ps := by rw [hf]; exact P (own_kp l18.own k4 fun _ _ h => h) rfl rfl
    have p2 : LI w5 (.slice ma bd.length mc) f.bd := by rw [hf]; exact P (own_kp m18.own k4 fun _ _ h => h) rfl rfl
    have hlt := h4.lt
    (repeat refine Zr ?_)
    refine endP_0 rfl ⟨{ s15 with fn := s15.fn ++ [f] }, { V' with f := v1 }, by rw [hf]; exact hR9.symm, ⟨hb5, P h4.tk rfl rfl, P h4.wd rfl rfl,
      ⟨rx', a1', P o1' rfl rfl, fun r hr => ⟨P (l1' r hr).1 rfl rfl, (l1' r hr).2⟩⟩, ⟨ry, a2, P o2 rfl rfl, fun r hr => ⟨⟨P (l2 r hr).1.1 rfl rfl, (l2 r hr).1.2⟩, P (l2 r hr).2.1 rfl rfl, (l2 r hr).2.2⟩⟩,
      ⟨rx ++ [(f, .slice la l.length lc, .slice ma bd.length mc)], by simp [a1], ?_, ?_⟩, hlt, h4.xl, h4.sl, ?_, fun b hb => Nat.lt_of_lt_of_le (h4.ob b hb) k5.size⟩, ?_⟩
    · rw [List.flatMap_append]
      simpa using o5
    · intro r hr
      rcases List.mem_append.1 hr with hr | hr
      · exact l1'' r hr
      · rw [List.mem_singleton] at hr; subst hr; exact ⟨⟨p1, ow1⟩, p2, ow2⟩
    · have e1 := congrArg List.length u15.2.2.1
      rw [hn13] at e1
      rw [List.length_append, List.length_singleton]
      omega
    · refine (g19.gs.no k4).trans ⟨k5', fun b hb hs => ?_, fun b hb hs => hs⟩
      rcases hs with hs | hs | hs | hs
      · exact .inl hs
      · exact .inr (.inl hs)
      · exact .inr (.inr (.inl hs))
      · rcases row5 b hs with h | h
        · exact .inr (.inr (.inr h))
        · omega
  rw [if_neg q11] at hR9
  have B11 := B10.no k11
  have l11 := l10.no k11
  have g11 := g10.no k11
  clear g10 B10 l10 n10 g9 B9 l9
  have b11 : w11.heap[b]? = some (.cells [sv nm, .int .i64 0, .int .i64 0, .slice la l.length lc, .int .i64 4, nilS].toArray 62 (0, 0)) := B11.blk
  (repeat refine Zr ?_)
  refine c_b rfl (fun hb => ?_) (fun hb => (by rw [show _ = _ from hz] at hb; cases hb))
  (repeat refine Zr ?_)
  refine k_cutc (σ := PS × VS) (fun _ => [(0, ptr X), (2, .int .i64 (Sy.hr X.E s)), (3, .pointer (some ⟨b, 0, none⟩))])
    (fun x w' => (if l = [] then Rs.ok () s9 else want X.E wComma s9) = .ok () x.1 ∧ Sg X w V w' x.1 x.2 ∧ Bx X w w' x.2 b (fnC ({ nm := nm }, .slice la l.length lc, nilS)) 62 ∧ Ls w w' x.2 9 (.slice la l.length lc) l.length (l.map sv) ∧ l.length ≤ x.1.i ∧ x.1.fn.length = s.fn.length) ?_ ?_
  · refine c_dec rfl (fun q => ?_) (fun q => ?_)
    · have q : l ≠ [] := fun e => by rw [e] at q; simp at q
      rw [if_neg q] at hR9
      (repeat refine Zr ?_)
      refine s_callP (us := []) (zs := []) (by kernel_rfl) rfl rfl (wantF g11.at_ ok (Tk.strOf wComma) (by rw [ec]; decide) (by rw [ec]; exact want_no)) (by rw [ec]; exact erP.up g11 (r' := R) (by rw [← hR9]; cases want X.E wComma s9 <;> rfl)) ?_
      rw [ec]
      rintro _ w7 ⟨_, s7, V7, e7, rfl, g7⟩
      (repeat refine Zr ?_)
      exact l_cut (s7, V7) ⟨rfl, rfl, rfl, trivial⟩ ⟨by rw [if_neg q]; exact e7, g11.call g7, B11.gs g7.gs, l11.gs g11.at_ g7.gs rfl, Nat.le_trans hl9 (Nat.le_of_succ_le (want_up e7).1), by rw [(want_up e7).2.2.1]; exact hn9⟩
    · have q : l = [] := by
        cases l with
        | nil => rfl
        | cons a l => exact (q (by simp)).elim
      (repeat refine Zr ?_)
      exact l_cut (s9, V9) ⟨rfl, rfl, rfl, trivial⟩ ⟨by rw [if_pos q], g11, B11, l11, hl9, hn9⟩
  · rintro ⟨s7, V7⟩ lr7 w7 ⟨e7, g7, B7, l7, hl7, hn7⟩
    simp only at e7 g7 B7 l7 hl7 hn7
    rw [e7, bind_ok] at hR9
    clear g11 B11 l11 b11 k11 hz
    refine k_seq ?_
    have b7 : w7.heap[b]? = some (.cells [sv nm, .int .i64 0, .int .i64 0, .slice la l.length lc, .int .i64 4, nilS].toArray 62 (0, 0)) := B7.blk
    refine k_hP (fun w' => w'.heap[b]? = some (.cells [sv nm, .int .i64 0, .int .i64 0, .slice la l.length lc, .int .i64 4, nilS].toArray 62 (0, 0))) [(0, false), (1, false), (2, false), (3, true), (4, true), (5, true), (6, false), (7, true)] 7 (by kernel_rfl) (waits_of_last (by kernel_rfl)) (by kernel_rfl) (by kernel_rfl) (by kernel_rfl) rfl (fun w8 k8 q8 => ?_)
    have g8 := g7.no k8
    have B8 := B7.no k8
    have l8 := l7.no k8
    have b8 := k8.get0 b7
    refine v_v b8 (fun w' hw => r_fa rfl rfl) ?_
    refine v_v b8 (fun w' hw => r_ld rfl rfl (cell_of_blk hw rfl)) ?_
    refine v_v b8 (fun w' hw => r_mv rfl) ?_
    refine v_call (us := []) (zs := []) (by kernel_rfl) rfl rfl (kindF g8.at_ ok 1 (by decide) knd_no) ?_ ?_
    · rintro c w1 ⟨k, p, e, hc, hk⟩
      rw [e] at hR9
      exact ⟨k, p, hR9.symm, hc, g8.gs.kp.trans hk fun i hi hs => g8.gs.fr i hi hs⟩
    rintro _ w9' ⟨a, s9', V9', e9, rfl, g9⟩
    have u9 := knd_up e9
    rw [e9, bind_ok] at hR9
    have B9 := B8.gs g9.gs
    have l9 := l8.gs g8.at_ g9.gs rfl
    have g9 := g8.call g9
    refine ⟨fun _ => B9.blk, ?_⟩
    refine h_bs (cs := [sv a]) (e := 9) rfl (fun b10 w10 n10 => ?_)
    have g10 := g9.no n10.kp
    have B10 := B9.no n10.kp
    have l10 := l9.no n10.kp
    have hi9 := g9.at_.lt
    have hlen : l.length ≤ 20001 := by have := u9.1; omega
    refine ⟨fun _ => B10.blk, ?_⟩
    refine h_app (size := 1) (bytes := 16) (base := 0) (news := [sv a]) rfl rfl rfl rfl rfl rfl rfl rfl l10.own rfl (blk_cells n10.blk) rfl rfl (by omega) (by omega) (Nat.zero_le _) ?_
    intro v11 w11' ap
    obtain ⟨g11, l11⟩ := g10.lst h l10 ap rfl
    have hbl : ¬ some b = (Value.slice la l.length lc).ownBlock := fun e => by
      obtain ⟨c, hc⟩ := own_ty l10.own e.symm
      exact ty_ne hc B10.blk rfl rfl
    have B11 : Bx X w w11' V9' b (fnC ({ nm := nm }, .slice la l.length lc, nilS)) 62 := ⟨B10.ge, ap.kp.get B10.blk hbl, B10.ns⟩
    refine ⟨fun _ => B11.blk, ?_⟩
    refine h_v B11.blk (fun w' hw => r_fa rfl rfl) ?_
    obtain ⟨a1, c1, e1, _⟩ := own_read l11.own
    subst e1
    refine h_st (vs := [.slice a1 (l.length + 1) c1]) rfl rfl rfl rfl rfl B11.blk (Nat.le_of_ble_eq_true rfl) (fun w12 s12 => ⟨fun h => (h rfl).elim, ?_⟩)
    obtain ⟨g12, B12⟩ := g11.put B11 (cs' := fnC ({ nm := nm }, .slice a1 (l.length + 1) c1, nilS)) ⟨s12.kp, s12.sz, s12.blk⟩ rfl
    have l12 : Ls w w12 V9' 9 (.slice a1 (l.length + 1) c1) (l ++ [a]).length ((l ++ [a]).map sv) := by
      have : Ls w w12 V9' 9 (.slice a1 (l.length + 1) c1) (l.length + 1) (l.map sv ++ [sv a]) := ⟨own_kp l11.own s12.kp fun g hg e => by
        obtain ⟨c, hc⟩ := own_ty l11.own hg
        exact ty_ne hc B11.blk rfl e, l11.nw⟩
      rw [snoc_sv] at this
      simpa using this
    refine h_nil ?_
    (repeat refine Zr ?_)
    refine s_bs (cs := [.string (Tk.strOf wComma), .string (Tk.strOf wRpar)]) (e := 9) rfl (fun b13 w13 n13 => ?_)
    have g13 := g12.no n13.kp
    refine s_call (us := []) (zs := []) (by kernel_rfl) rfl rfl (is2 g13.at_ ok (Tk.strOf wComma) (Tk.strOf wRpar) (by rw [ec]; decide) (by rw [er]; decide) n13.blk) ?_
    rw [ec, er]
    rintro _ w14 ⟨rfl, k14⟩
    have g14 := g13.no k14
    (repeat refine Zr ?_)
    refine c_b rfl (fun hb => ?_) (fun hb => ?_)
    · have hb : (!decide (Sy.wd X.E s9' = wComma ∨ Sy.wd X.E s9' = wRpar)) = true := hb
      rw [if_neg (by simpa using hb)] at hR9
      (repeat refine Zr ?_)
      refine s_callX (us := []) (zs := []) (by kernel_rfl) rfl rfl (failF g14.at_ ok 3) ?_
      rintro c w15 ⟨rfl, k15⟩
      exact ⟨3, Sy.hr X.E s9', hR9.symm, rfl, g14.gs.kp.no k15⟩
    · have hb : (!decide (Sy.wd X.E s9' = wComma ∨ Sy.wd X.E s9' = wRpar)) = false := hb
      have hq : Sy.wd X.E s9' = wComma ∨ Sy.wd X.E s9' = wRpar := by
        by_cases q : Sy.wd X.E s9' = wComma ∨ Sy.wd X.E s9' = wRpar
        · exact q
        · rw [decide_eq_false q] at hb; cases hb
      rw [if_pos hq] at hR9
      (repeat refine Zr ?_)
      exact l_next ⟨m, l ++ [a], .slice a1 (l.length + 1) c1, s9', V9'⟩ ⟨rfl, rfl, rfl, trivial⟩ ⟨⟨G, hR9, hG⟩, g14, (B12.no n13.kp).no k14, (l12.no n13.kp).no k14, by have := u9.1; simp; omega, by rw [u9.2.2.1]; exact hn7⟩ (by simp)
end
end Go.Proofs.YtfnbgbeinmekgaaGreatDoor.Sy
namespace Go.Proofs.YtfnbgbeinmekgaaGreatDoor.Sy
open Go Go.RowKit Fw
set_option linter.unusedVariables false
set_option maxRecDepth 20000
theorem clX (v0 : Value) (k : Nat) (xs : List Value) (w : World) (own : w.ownsRow 0 67 9 v0 k xs) (h1 : xs.all Value.oneCell' = true) (hk : k ≤ 30000) :
    Ret Tryz.prog 48 [v0] w fun u w1 => w1.ownsRow 0 67 9 u k xs ∧ Kp No w w1 := by
  obtain ⟨a, c, e, hc, h0, hr⟩ := own_read own
  subst e
  refine ret_enter Tryz.func48 rfl Tryz.ntmps48 rfl ?_
  (repeat refine Zr ?_)
  refine s_v (r_seq rfl rfl rfl) ?_
  (repeat refine Zr ?_)
  cases a with
  | none =>
    refine c_t rfl ?_
    have := h0 rfl
    subst this
    have hx : xs = [] := List.eq_nil_of_length_eq_zero (by have := own.1; omega)
    subst hx
    (repeat refine Zr ?_)
    exact ret_1 rfl rfl ⟨⟨rfl, .inl ⟨rfl, rfl⟩⟩, Kp.refl _ _⟩
  | some ad =>
    obtain ⟨g, rfl, _, _, hcell⟩ := hr _ rfl
    refine c_f rfl ?_
    (repeat refine Zr ?_)
    refine s_bs0 rfl rfl (fun b1 w1 n1 => ?_)
    have y1 := n1.ge
    (repeat refine Zr ?_)
    refine s_app (size := 9) (bytes := 104) (base := 0) (news := xs) rfl rfl rfl rfl rfl rfl rfl rfl (own_empty n1 (Nat.zero_le _)) rfl (fun j u hj => n1.kp.cell0 (hcell j u hj)) own.1 h1 (by omega) (by omega) (Nat.zero_le _) ?_
    intro v2 w2 a2
    have k2 : Kp No w w2 := n1.kp.trans a2.kp (fun i hi e => by have : i = b1 := Option.some.inj e; omega)
    obtain ⟨a', c', rfl, hc', ha', hr'⟩ := own_read a2.own
    (repeat refine Zr ?_)
    refine ret_1 rfl rfl ⟨?_, k2⟩
    have := a2.own
    rw [List.nil_append] at this
    rw [Nat.zero_add] at this ⊢
    exact this
theorem alX {p o : Nat} {cs : List Value} {T : TypeId} (v0 : Value) (k : Nat) (xs : List Value) (w : World) (hb : w.heap[p]? = some (.cells cs.toArray T (0, 0))) (ho : cs[o]? = some v0) (own : w.ownsRow 0 67 9 v0 k xs) (h1 : xs.all Value.oneCell' = true) (hk : k ≤ 30000) :
    Ret Tryz.prog 21 [.pointer (some ⟨p, o, none⟩)] w fun u w1 => w1.ownsRow 0 67 9 u k xs ∧ Kp No w w1 := by
  obtain ⟨a, c, e, hc, h0, hr⟩ := own_read own
  subst e
  have hc : w.cell? ⟨p, o + 0, none⟩ = some (.slice a k c) := cell_of_blk hb (by simpa using ho)
  refine ret_enter Tryz.func21 rfl Tryz.ntmps21 rfl ?_
  (repeat refine Zr ?_)
  refine s_call (us := []) (zs := []) (by kernel_rfl) rfl rfl (clX _ k xs w own h1 hk) ?_
  rintro u w1 ⟨own1, k1⟩
  obtain ⟨a', c', rfl, _⟩ := own_read own1
  (repeat refine Zr ?_)
  exact ret_1 rfl rfl ⟨own1, k1⟩
theorem clS (v0 : Value) (k : Nat) (xs : List Value) (w : World) (own : w.ownsRow 0 42 9 v0 k xs) (h1 : xs.all Value.oneCell' = true) (hk : k ≤ 30000) :
    Ret Tryz.prog 49 [v0] w fun u w1 => w1.ownsRow 0 42 9 u k xs ∧ Kp No w w1 := by
  obtain ⟨a, c, e, hc, h0, hr⟩ := own_read own
  subst e
  refine ret_enter Tryz.func49 rfl Tryz.ntmps49 rfl ?_
  (repeat refine Zr ?_)
  refine s_v (r_seq rfl rfl rfl) ?_
  (repeat refine Zr ?_)
  cases a with
  | none =>
    refine c_t rfl ?_
    have := h0 rfl
    subst this
    have hx : xs = [] := List.eq_nil_of_length_eq_zero (by have := own.1; omega)
    subst hx
    (repeat refine Zr ?_)
    exact ret_1 rfl rfl ⟨⟨rfl, .inl ⟨rfl, rfl⟩⟩, Kp.refl _ _⟩
  | some ad =>
    obtain ⟨g, rfl, _, _, hcell⟩ := hr _ rfl
    refine c_f rfl ?_
    (repeat refine Zr ?_)
    refine s_bs0 rfl rfl (fun b1 w1 n1 => ?_)
    have y1 := n1.ge
    (repeat refine Zr ?_)
    refine s_app (size := 9) (bytes := 112) (base := 0) (news := xs) rfl rfl rfl rfl rfl rfl rfl rfl (own_empty n1 (Nat.zero_le _)) rfl (fun j u hj => n1.kp.cell0 (hcell j u hj)) own.1 h1 (by omega) (by omega) (Nat.zero_le _) ?_
    intro v2 w2 a2
    have k2 : Kp No w w2 := n1.kp.trans a2.kp (fun i hi e => by have : i = b1 := Option.some.inj e; omega)
    obtain ⟨a', c', rfl, hc', ha', hr'⟩ := own_read a2.own
    (repeat refine Zr ?_)
    refine ret_1 rfl rfl ⟨?_, k2⟩
    have := a2.own
    rw [List.nil_append] at this
    rw [Nat.zero_add] at this ⊢
    exact this
theorem alS {p o : Nat} {cs : List Value} {T : TypeId} (v0 : Value) (k : Nat) (xs : List Value) (w : World) (hb : w.heap[p]? = some (.cells cs.toArray T (0, 0))) (ho : cs[o]? = some v0) (own : w.ownsRow 0 42 9 v0 k xs) (h1 : xs.all Value.oneCell' = true) (hk : k ≤ 30000) :
    Ret Tryz.prog 22 [.pointer (some ⟨p, o, none⟩)] w fun u w1 => w1.ownsRow 0 42 9 u k xs ∧ Kp No w w1 := by
  obtain ⟨a, c, e, hc, h0, hr⟩ := own_read own
  subst e
  have hc : w.cell? ⟨p, o + 0, none⟩ = some (.slice a k c) := cell_of_blk hb (by simpa using ho)
  refine ret_enter Tryz.func22 rfl Tryz.ntmps22 rfl ?_
  (repeat refine Zr ?_)
  refine s_call (us := []) (zs := []) (by kernel_rfl) rfl rfl (clS _ k xs w own h1 hk) ?_
  rintro u w1 ⟨own1, k1⟩
  obtain ⟨a', c', rfl, _⟩ := own_read own1
  (repeat refine Zr ?_)
  exact ret_1 rfl rfl ⟨own1, k1⟩
theorem clF (v0 : Value) (k : Nat) (xs : List Value) (w : World) (own : w.ownsRow 0 62 6 v0 k xs) (h1 : xs.all Value.oneCell' = true) (hk : k ≤ 30000) :
    Ret Tryz.prog 50 [v0] w fun u w1 => w1.ownsRow 0 62 6 u k xs ∧ Kp No w w1 := by
  obtain ⟨a, c, e, hc, h0, hr⟩ := own_read own
  subst e
  refine ret_enter Tryz.func50 rfl Tryz.ntmps50 rfl ?_
  (repeat refine Zr ?_)
  refine s_v (r_seq rfl rfl rfl) ?_
  (repeat refine Zr ?_)
  cases a with
  | none =>
    refine c_t rfl ?_
    have := h0 rfl
    subst this
    have hx : xs = [] := List.eq_nil_of_length_eq_zero (by have := own.1; omega)
    subst hx
    (repeat refine Zr ?_)
    exact ret_1 rfl rfl ⟨⟨rfl, .inl ⟨rfl, rfl⟩⟩, Kp.refl _ _⟩
  | some ad =>
    obtain ⟨g, rfl, _, _, hcell⟩ := hr _ rfl
    refine c_f rfl ?_
    (repeat refine Zr ?_)
    refine s_bs0 rfl rfl (fun b1 w1 n1 => ?_)
    have y1 := n1.ge
    (repeat refine Zr ?_)
    refine s_app (size := 6) (bytes := 88) (base := 0) (news := xs) rfl rfl rfl rfl rfl rfl rfl rfl (own_empty n1 (Nat.zero_le _)) rfl (fun j u hj => n1.kp.cell0 (hcell j u hj)) own.1 h1 (by omega) (by omega) (Nat.zero_le _) ?_
    intro v2 w2 a2
    have k2 : Kp No w w2 := n1.kp.trans a2.kp (fun i hi e => by have : i = b1 := Option.some.inj e; omega)
    obtain ⟨a', c', rfl, hc', ha', hr'⟩ := own_read a2.own
    (repeat refine Zr ?_)
    refine ret_1 rfl rfl ⟨?_, k2⟩
    have := a2.own
    rw [List.nil_append] at this
    rw [Nat.zero_add] at this ⊢
    exact this
theorem alF {p o : Nat} {cs : List Value} {T : TypeId} (v0 : Value) (k : Nat) (xs : List Value) (w : World) (hb : w.heap[p]? = some (.cells cs.toArray T (0, 0))) (ho : cs[o]? = some v0) (own : w.ownsRow 0 62 6 v0 k xs) (h1 : xs.all Value.oneCell' = true) (hk : k ≤ 30000) :
    Ret Tryz.prog 23 [.pointer (some ⟨p, o, none⟩)] w fun u w1 => w1.ownsRow 0 62 6 u k xs ∧ Kp No w w1 := by
  obtain ⟨a, c, e, hc, h0, hr⟩ := own_read own
  subst e
  have hc : w.cell? ⟨p, o + 0, none⟩ = some (.slice a k c) := cell_of_blk hb (by simpa using ho)
  refine ret_enter Tryz.func23 rfl Tryz.ntmps23 rfl ?_
  (repeat refine Zr ?_)
  refine s_call (us := []) (zs := []) (by kernel_rfl) rfl rfl (clF _ k xs w own h1 hk) ?_
  rintro u w1 ⟨own1, k1⟩
  obtain ⟨a', c', rfl, _⟩ := own_read own1
  (repeat refine Zr ?_)
  exact ret_1 rfl rfl ⟨own1, k1⟩
theorem ex_one {w : World} {rx : List (Ex × Value)} (h : ∀ r ∈ rx, ∃ l, LI w r.2 l) : (rx.flatMap exC).all Value.oneCell' = true := by
  rw [List.all_eq_true]
  intro v hv
  obtain ⟨r, hr, hv⟩ := List.mem_flatMap.1 hv
  obtain ⟨l, hl⟩ := h r hr
  obtain ⟨a, c, e⟩ := hl.val
  simp only [exC, List.mem_cons, List.not_mem_nil, or_false] at hv
  rcases hv with rfl | rfl | rfl | rfl | rfl | rfl | rfl | rfl | rfl
  all_goals first | rfl | (rw [e]; rfl)
theorem st_one {w : World} {rx : List (St × Value × Value)} (h : ∀ r ∈ rx, (∃ l, LI w r.2.1 l) ∧ ∃ l, LI w r.2.2 l) : (rx.flatMap stC).all Value.oneCell' = true := by
  rw [List.all_eq_true]
  intro v hv
  obtain ⟨r, hr, hv⟩ := List.mem_flatMap.1 hv
  obtain ⟨⟨l, hl⟩, l', hl'⟩ := h r hr
  obtain ⟨a, c, e⟩ := hl.val
  obtain ⟨a', c', e'⟩ := hl'.val
  simp only [stC, List.mem_cons, List.not_mem_nil, or_false] at hv
  rcases hv with rfl | rfl | rfl | rfl | rfl | rfl | rfl | rfl | rfl
  all_goals first | rfl | (rw [e]; rfl) | (rw [e']; rfl)
theorem fn_one {w : World} {rx : List (Fn × Value × Value)} (h : ∀ r ∈ rx, (∃ l, LS w r.2.1 l) ∧ ∃ l, LI w r.2.2 l) : (rx.flatMap fnC).all Value.oneCell' = true := by
  rw [List.all_eq_true]
  intro v hv
  obtain ⟨r, hr, hv⟩ := List.mem_flatMap.1 hv
  obtain ⟨⟨l, hl⟩, l', hl'⟩ := h r hr
  obtain ⟨a, c, e⟩ := hl.val
  obtain ⟨a', c', e'⟩ := hl'.val
  simp only [fnC, List.mem_cons, List.not_mem_nil, or_false] at hv
  rcases hv with rfl | rfl | rfl | rfl | rfl | rfl
  all_goals first | rfl | (rw [e]; rfl) | (rw [e']; rfl)
end Go.Proofs.YtfnbgbeinmekgaaGreatDoor.Sy
namespace Go.Proofs.YtfnbgbeinmekgaaGreatDoor.Fw
open Go Go.RowKit
set_option linter.unusedVariables false
/-- The post of a function that defers. -/
def FinD (P : Program) (fn : Func) (R : Value → World → Prop) : Pst P := .base (bodyPostD P fn fun e w' => ∃ v, e = .returned v ∧ R v w')
theorem retD_enter {P : Program} {f : FuncId} {fn : Func} {c : Code} {args : List Value} {w : World} {R : Value → World → Prop} {n : Nat}
    (hf : P.funcs[f]? = some fn) (hb : fn.body = some c) (hn : fn.ntmps = n) (hl : Nat.ble args.length n = true)
    (h : Wc P c (FinD P fn R) n (enum 0 args) [] w) : Ret P f args w R := by
  refine calls_of_wp_defers hf hb ?_
  rw [hn, fr_init args n (Nat.le_of_ble_eq_true hl)]
  exact h.up
section
variable {P : Program} {w : World} {n : Nat} {l : Slots} {fn : Func} {R : Value → World → Prop} {ds : List Deferred}
/-- Nothing was deferred. -/
theorem retD_0 {v : Value} (hr : (results fn (fr n l)).run P w = .ok v w) (h : R v w) : Po (FinD P fn R) .ret n l [] w := ⟨⟨v, hr, v, rfl, h⟩⟩
/-- One closure was deferred: at a return. -/
theorem retD_1 {f : FuncId} {zs : List Value} {K : Ending → FrameMode → World → Prop} (hf : callOk P f = true) (hc : CallsD P f zs.toArray .returning w K)
    (h : ∀ e u w1, K e u w1 → (∃ v, e = .returned v) ∧ settle u = .returning ∧ ∃ v, (results fn (fr n l)).run P w1 = .ok v w1 ∧ R v w1) :
    Po (FinD P fn R) .ret n l [⟨.fn (.func f) zs.toArray, #[]⟩] w := by
  refine ⟨leaves_cons (by simp) (by simp only [invoke]; rw [run_callFunc hf, Array.empty_append]) (hc.mono ?_)⟩
  intro e u w1 hK
  obtain ⟨⟨v, rfl⟩, hu, v', hr, hR⟩ := h e u w1 hK
  simp only [hu]
  exact ⟨v', hr, v', rfl, hR⟩
/-- One closure was deferred: at a panic. -/
theorem panicD_1 {f : FuncId} {zs : List Value} {K : Ending → FrameMode → World → Prop} {c : List PanicEntry} (hf : callOk P f = true) (hc : CallsD P f zs.toArray (.panicking c) w K)
    (h : ∀ e u w1, K e u w1 → (∃ v, e = .returned v) ∧ settle u = .returning ∧ ∃ v, (results fn (fr n l)).run P w1 = .ok v w1 ∧ R v w1) :
    (FinD P fn R).den (.panic c) (A n l [⟨.fn (.func f) zs.toArray, #[]⟩]) w := by
  refine leaves_cons (by simp) (by simp only [invoke]; rw [run_callFunc hf, Array.empty_append]) (hc.mono ?_)
  intro e u w1 hK
  obtain ⟨⟨v, rfl⟩, hu, v', hr, hR⟩ := h e u w1 hK
  simp only [hu]
  exact ⟨v', hr, v', rfl, hR⟩
variable {q : Pst P} {rest : List Oper} {ops : Array Oper} {ty : TypeId} {pos : String} {af : Array Edge}
theorem s_defer {f : FuncId} {zs : List Value} {c : Operand} {ats : Array TypeId} (hcv : ev n l c = .func (.func f) #[] zs.toArray)
    (h : Wl P ops q rest n l (⟨.fn (.func f) zs.toArray, #[]⟩ :: ds) w) : Wl P ops q (⟨none, .defer ⟨.value c, #[], ats⟩, ty, pos, af, none⟩ :: rest) n l ds w := by
  refine ⟨wpList_plain rfl fun K hK => ?_⟩
  unfold Oper.wp
  have e : (execOp (A n l ds).eval ⟨none, .defer ⟨.value c, #[], ats⟩, ty, pos, af, none⟩).run P w = .ok (.defer ⟨.fn (.func f) zs.toArray, #[]⟩) w := by
    rw [eval_A]
    simp only [execOp, resolve, hcv, Deferred.ofValue]
    simp
  rw [e, Oper.upon_defer]
  exact hK _ _ h.up
end
section
variable {P : Program} {cs cs' : List Frame} {w : World} {n : Nat} {l : Slots} {ds : List Deferred}
theorem wpOpsS_of {ops : Array Oper} {Q : Exit → Act → List Frame → World → Prop} (hL : ¬ LetsOut (fun e a w => Q e a cs w)) : ∀ (L : List Nat) (a : Act) (w : World), wpOps P ops (fun e a w => Q e a cs w) L a w → wpOpsS P ops Q L a cs w := by
  intro L
  induction L with
  | nil => intro a w h; exact h
  | cons i L ih =>
    intro a w h
    unfold wpOpsS
    unfold wpOps at h
    cases ho : ops[i]? with
    | none => rw [ho] at h; exact ih _ _ h
    | some o =>
      rw [ho] at h
      simp only at h ⊢
      split
      · rename_i hw
        rw [if_pos hw] at h
        rcases h with h | h
        · have h2 := Oper.wp_mono (fun a w h => ih a w h) h
          unfold Oper.wp at h2
          generalize (execOp a.eval o).run P w = r at h2
          split
          · exact h2.elim
          · exact h2
        · exact (hL h.2).elim
      · rename_i hw
        rw [if_neg hw] at h
        exact ih _ _ h
theorem wpList_mono {ops : Array Oper} {Q Q' : Exit → Act → World → Prop} (hQ : ∀ e a w, Q e a w → Q' e a w) : ∀ (L : List Oper) (a : Act) (w : World), wpList P ops Q L a w → wpList P ops Q' L a w := by
  intro L
  induction L with
  | nil => intro a w h; exact hQ _ _ _ h
  | cons o L ih =>
    intro a w h
    unfold wpList at h ⊢
    split
    · rename_i hw
      rw [if_pos hw] at h
      rcases h with h | ⟨h1, ⟨a', w', h2⟩⟩
      · refine .inl ?_
        unfold Oper.wp Oper.upon at *
        revert h
        generalize (execOp a.eval o).run P w = r
        intro h
        cases r with
        | ok nx w' =>
          cases nx with
          | value u => exact ih _ _ h
          | skip => exact ih _ _ h
          | defer d => exact ih _ _ h
          | enter f args =>
            refine Calls.mono h fun e w'' he => ?_
            cases e with
            | returned u => exact ih _ _ he
            | panicked c => exact hQ _ _ _ he
            | outgrown => exact (let ⟨a, w, h⟩ := (show LetsOut Q from he); (show LetsOut Q' from ⟨a, w, hQ _ _ _ h⟩))
          | row row args => exact Rows.mono h fun u w'' he => ih _ _ he
          | _ => exact h
        | halt x w' => cases x <;> simp only at h ⊢ <;> first | exact hQ _ _ _ h | exact h
      · exact .inr ⟨h1, a', w', hQ _ _ _ h2⟩
    · rename_i hw
      rw [if_neg hw] at h
      exact ih _ _ h
/-- A region whose first operation recovers. -/
theorem rec_region {i d : Nat} {os : List Oper} {y : Code} {Q : Exit → Act → List Frame → World → Prop} {v : Value} {ats : Array TypeId} {ty : TypeId} {pos : String} {af : Array Edge} (hrec : recoverD cs = some (v, cs') ∨ (recoverD cs = none ∧ cs' = cs ∧ v = .nilIface))
    (hL : ∀ cs, ¬ LetsOut (fun e a w => Q e a cs w))
    (h : Wl P (⟨some d, .call ⟨.builtin .recover, #[], ats⟩, ty, pos, af, none⟩ :: os).toArray (.base fun e a w => Exit.thenS (fun a cs w => y.wp P (fun e a w => Q e a cs w) a w) Q e a cs' w) os n ((d, v) :: l) ds w) :
    (Code.seq (.region i (⟨some d, .call ⟨.builtin .recover, #[], ats⟩, ty, pos, af, none⟩ :: os).toArray false) y).wpS P Q (A n l ds) cs w := by
  refine wpS_seq (wpS_region ?_)
  have hr : List.range (⟨some d, .call ⟨.builtin .recover, #[], ats⟩, ty, pos, af, none⟩ :: os).toArray.size = 0 :: List.range' 1 os.length := by
    simp [List.range_eq_range', List.range'_succ]
  rw [hr]
  unfold wpOpsS
  simp only [List.getElem?_toArray, List.getElem?_cons_zero]
  rw [if_pos (by simp [Region.wanted])]
  have e : (execOp (A n l ds).eval ⟨some d, .call ⟨.builtin .recover, #[], ats⟩, ty, pos, af, none⟩).run P w = .ok .recover w := by
    simp only [execOp, resolve, invoke]
    rfl
  rw [e]
  simp only
  have hL' : ¬ LetsOut (fun e a w => Exit.thenS (y.wpS P Q) Q e a cs' w) := fun ⟨a, w, hq⟩ => hL cs' ⟨a, w, hq⟩
  have key : wpOpsS P (⟨some d, .call ⟨.builtin .recover, #[], ats⟩, ty, pos, af, none⟩ :: os).toArray (Exit.thenS (y.wpS P Q) Q) (List.range' 1 os.length) (A n ((d, v) :: l) ds) cs' w := by
    refine wpOpsS_of hL' _ _ _ ?_
    rw [wpOps_eq_wpList os 1 (fun j => by simp [Nat.add_comm 1 j])]
    refine wpList_mono ?_ _ _ _ h.up
    intro e a w hq
    cases e with
    | normal => exact wpS_of_wp hq
    | ret => exact hq
    | exit i => exact hq
    | goto i => exact hq
    | panic c => exact hq
    | outgrown => exact hq
  rcases hrec with hrec | ⟨hrec, rfl, rfl⟩
  · rw [hrec]; simp only [put_A]; exact key
  · rw [hrec]; simp only [put_A]; exact key
theorem rec_nil {y : Code} {Q : Exit → Act → List Frame → World → Prop} (h : Wc P y (.base fun e a w => Q e a cs' w) n l ds w) :
    Po (P := P) (.base fun e a w => Exit.thenS (fun a cs w => y.wp P (fun e a w => Q e a cs w) a w) Q e a cs' w) .normal n l ds w := ⟨h.up⟩
theorem postS {fn : Func} {c₀ : Frame} {R : Ending → FrameMode → World → Prop} {u : FrameMode} {v : Value} (hr : (results fn (fr n l)).run P w = .ok v w) (h : R (.returned v) u w) :
    Po (P := P) (.base fun e a w => bodyPostS P fn c₀ cs R e a ({ c₀ with mode := u } :: cs) w) .normal n l [] w := ⟨⟨rfl, u, rfl, v, hr, h⟩⟩
end
end Go.Proofs.YtfnbgbeinmekgaaGreatDoor.Fw
namespace Go.Proofs.YtfnbgbeinmekgaaGreatDoor.Fw
open Go Go.RowKit
set_option linter.unusedVariables false
section
variable {P : Program} {w : World} {ρ : Operand → Value} {dst : Option Tmp} {ty : TypeId} {pos : String} {af : Array Edge} {g : Option (Nat × Bool)} {v : Value}
theorem r_ta {t tt : TypeId} {x : Operand} {d : TypeDesc} (hd : P.underlying tt = some d) (hi : (match d with | .interface _ => false | _ => true) = true) (hx : ρ x = .iface tt v) :
    Rn P ρ ⟨dst, .typeAssert x t tt true, ty, pos, af, g⟩ w (.ok (.value (.tuple #[v, .bool true])) w) := by
  refine ⟨run_v ?_⟩
  unfold Instr.typeAssert
  rw [Sem.run_bind, run_underlying hd, hx]
  cases d <;> first | exact Bool.noConfusion hi | simp [Result.andThen]
theorem r_tn {t tt : TypeId} {x : Operand} {d : TypeDesc} {i : TypeInfo} {z : Value} (hd : P.underlying tt = some d) (hi : (match d with | .interface _ => false | _ => true) = true) (hx : ρ x = .nilIface) (hz : P.info? tt = some i) (hz' : i.zero = some z) :
    Rn P ρ ⟨dst, .typeAssert x t tt true, ty, pos, af, g⟩ w (.ok (.value (.tuple #[z, .bool false])) w) := by
  refine ⟨run_v ?_⟩
  have hzv : (zeroValue tt).run P w = .ok z w := by
    simp [zeroValue, typeInfo, Sem.run_bind, hz, hz', Result.andThen]
  unfold Instr.typeAssert
  rw [Sem.run_bind, run_underlying hd, hx]
  cases d <;> first | exact Bool.noConfusion hi | simp [Result.andThen, hzv]
end
end Go.Proofs.YtfnbgbeinmekgaaGreatDoor.Fw
namespace Go.Proofs.YtfnbgbeinmekgaaGreatDoor.Sy
open Go Go.RowKit Fw
set_option linter.unusedVariables false
set_option maxRecDepth 20000
theorem catchF (p2 p3 p4 : Nat) (a b : Int) (v2 v2' v2'' v3 v4 : Value) (w : World) (h2 : w.heap[p2]? = some (.cells [v2, v2', v2''].toArray 27 (0, 0))) (h3 : w.heap[p3]? = some (.cells [v3].toArray 3 (0, 0))) (h4 : w.heap[p4]? = some (.cells [v4].toArray 28 (0, 0)))
    (h23 : p2 ≠ p3) (h24 : p2 ≠ p4) (h34 : p3 ≠ p4) :
    CallsD Tryz.prog 18 [Value.pointer (some ⟨p2, 0, none⟩), .pointer (some ⟨p3, 0, none⟩), .pointer (some ⟨p4, 0, none⟩)].toArray (.panicking (thrown b a)) w fun e u w' => (∃ v, e = .returned v) ∧ settle u = .returning ∧
      (w'.heap[p2]? = some (.cells [nilS, nilS, nilS].toArray 27 (0, 0)) ∧ w'.heap[p3]? = some (.cells [Value.int .i64 a].toArray 3 (0, 0)) ∧ w'.heap[p4]? = some (.cells [Value.int .i64 b].toArray 28 (0, 0))) ∧ Kp (fun i => i = p2 ∨ i = p3 ∨ i = p4) w w' := by
  refine callsD_of_wpS Tryz.func18 rfl fun c₀ cs hu => ?_
  rw [Tryz.ntmps18, fr_init _ _ (Nat.le_of_ble_eq_true rfl)]
  refine rec_region (cs' := { c₀ with mode := .panicking [{ v := .iface 58 (.agg #[.int .i64 a, .int .i64 b]), recovered := true }] } :: cs) (v := .iface 58 (.agg #[.int .i64 a, .int .i64 b])) (.inl (by simp [recoverD, hu, thrown])) (fun cs' ⟨a, w, hq⟩ => ?_) ?_
  · obtain ⟨u, ⟨v, hv⟩, _⟩ := hq
    cases hv
  refine s_v (r_ta rfl rfl rfl) ?_
  (repeat refine Zr ?_)
  refine s_al rfl (fun b3 w1 n1 => ?_)
  refine s_st (vs := [.int .i64 a, .int .i64 b]) rfl rfl rfl rfl rfl n1.blk (Nat.le_of_ble_eq_true rfl) (fun w2 s2 => ?_)
  have h2 := s2.kp.get (n1.kp.get0 h2) (fun e => by have := lt_of_get h2; have := n1.ge; omega)
  have h3 := s2.kp.get (n1.kp.get0 h3) (fun e => by have := lt_of_get h3; have := n1.ge; omega)
  have h4 := s2.kp.get (n1.kp.get0 h4) (fun e => by have := lt_of_get h4; have := n1.ge; omega)
  have k2 : Kp No w w2 := n1.kp.trans s2.kp fun i hi e => by have := n1.ge; omega
  have hb3 : w2.heap[b3]? = some (.cells [Value.int .i64 a, .int .i64 b].toArray 58 (0, 0)) := s2.blk
  have hb2 : b3 ≠ p2 := fun e => by subst e; rw [h2] at hb3; cases hb3
  have hb3' : b3 ≠ p3 := fun e => by subst e; rw [h3] at hb3; cases hb3
  have hb4 : b3 ≠ p4 := fun e => by subst e; rw [h4] at hb3; cases hb3
  repeat (first | refine k_nil ?_ | refine Zs ?_)
  refine rec_nil ?_
  (repeat refine Zr ?_)
  refine c_t rfl ?_
  refine k_h (fun w' => w'.heap[b3]? = some (.cells [Value.int .i64 a, Value.int .i64 b].toArray 58 (0, 0))) [(0, false), (1, false), (2, false), (3, false), (4, false), (5, true), (6, true), (7, true)] 7 (by kernel_rfl) (waits_of_last (by kernel_rfl)) (by kernel_rfl) (by kernel_rfl) (by kernel_rfl) rfl (fun w3 k3 q3 => ?_)
  have b3' := k3.get0 hb3
  have h2' := k3.get0 h2
  have h3' := k3.get0 h3
  have h4' := k3.get0 h4
  refine h_v b3' (fun w' hw => r_bd rfl) ?_
  refine h_v b3' (fun w' hw => r_fa rfl rfl) ?_
  refine h_v b3' (fun w' hw => r_ld rfl rfl (cell_of_blk hw rfl)) ?_
  refine h_v b3' (fun w' hw => r_fa rfl rfl) ?_
  refine h_v b3' (fun w' hw => r_ld rfl rfl (cell_of_blk hw rfl)) ?_
  refine h_st (vs := [nilS, nilS, nilS]) rfl rfl rfl rfl rfl h2' (Nat.le_of_ble_eq_true rfl) (fun w4 s4 => ⟨fun _ => s4.kp.get b3' hb2, ?_⟩)
  have h3d := s4.kp.get h3' (Ne.symm h23)
  have h4d := s4.kp.get h4' (Ne.symm h24)
  refine h_st (vs := [.int .i64 a]) rfl rfl rfl rfl rfl h3d (Nat.le_of_ble_eq_true rfl) (fun w5 s5 => ⟨fun _ => s5.kp.get (s4.kp.get b3' hb2) hb3', ?_⟩)
  have h4e := s5.kp.get h4d (Ne.symm h34)
  refine h_st (vs := [.int .i64 b]) rfl rfl rfl rfl rfl h4e (Nat.le_of_ble_eq_true rfl) (fun w6 s6 => ⟨fun h => (h rfl).elim, ?_⟩)
  refine h_nil ?_
  refine postS (results_none rfl _ _ _) ⟨⟨_, rfl⟩, rfl, ⟨s6.kp.get (s5.kp.get s4.blk h23) h24, s6.kp.get s5.blk h34, s6.blk⟩, ?_⟩
  exact (((k2.no k3).mono fun _ _ h => h.elim).trans (s4.kp.mono fun i _ e => .inl e) fun _ _ h => h).trans ((s5.kp.mono fun i _ e => (.inr (.inl e) : i = p2 ∨ i = p3 ∨ i = p4)).trans (s6.kp.mono fun i _ e => .inr (.inr e)) fun _ _ h => h) fun _ _ h => h
theorem idleF (p2 p3 p4 : Nat) (w : World) :
    CallsD Tryz.prog 18 [Value.pointer (some ⟨p2, 0, none⟩), .pointer (some ⟨p3, 0, none⟩), .pointer (some ⟨p4, 0, none⟩)].toArray .returning w fun e u w' => (∃ v, e = .returned v) ∧ settle u = .returning ∧ Kp No w w' := by
  refine callsD_of_wpS Tryz.func18 rfl fun c₀ cs hu => ?_
  rw [Tryz.ntmps18, fr_init _ _ (Nat.le_of_ble_eq_true rfl)]
  have hc : c₀ = { c₀ with mode := .returning } := by cases c₀; simp only at hu; subst hu; rfl
  refine rec_region (cs' := { c₀ with mode := .returning } :: cs) (v := .nilIface) (.inr ⟨by simp [recoverD, hu], by rw [← hc], rfl⟩) (fun cs' ⟨a, w, hq⟩ => ?_) ?_
  · obtain ⟨u, ⟨v, hv⟩, _⟩ := hq
    cases hv
  refine s_v (r_tn rfl rfl rfl rfl rfl) ?_
  (repeat refine Zr ?_)
  refine s_al rfl (fun b3 w1 n1 => ?_)
  refine s_st (vs := [.int .i64 0, .int .i64 0]) rfl rfl rfl rfl rfl n1.blk (Nat.le_of_ble_eq_true rfl) (fun w2 s2 => ?_)
  have k2 : Kp No w w2 := n1.kp.trans s2.kp fun i hi e => by have := n1.ge; omega
  repeat (first | refine k_nil ?_ | refine Zs ?_)
  refine rec_nil ?_
  (repeat refine Zr ?_)
  refine c_f rfl ?_
  (repeat refine Zr ?_)
  exact postS (results_none rfl _ _ _) ⟨⟨_, rfl⟩, rfl, k2⟩
end Go.Proofs.YtfnbgbeinmekgaaGreatDoor.Sy
namespace Go.Proofs.YtfnbgbeinmekgaaGreatDoor.Sy
open Go Go.RowKit Fw
set_option linter.unusedVariables false
theorem ok_of {s : ByteArray} {X : Cx} (h0 : (Tk.allT (B s)).2.2 = 0) (hT : X.T = (Tk.allT (B s)).1) (hw : X.wl = (Tk.allT (B s)).1.map (Tk.tx s)) : Ok X := by
  obtain ⟨hL, hals, _⟩ := Tk.all_ok h0
  have hlen := Tk.all_len hL
  have hbd := fun t => Tk.all_bounds (L := B s) (t := t)
  have hls := Tk.als_last _ _ _ _ hals
  have heach := Tk.als_each (B s) _ _ 0 (by rw [List.drop_zero]; exact hals)
  rw [← hT] at hlen hbd hls heach
  rw [← hT] at hw
  have hwi : ∀ (i : Nat) (x : ByteArray), X.wl[i]? = some x → ∃ t, X.T[i]? = some t ∧ x = Tk.tx s t := fun i x hx => by
    rw [hw, List.getElem?_map, Option.map_eq_some_iff] at hx
    obtain ⟨t, ht, e⟩ := hx
    exact ⟨t, ht, e.symm⟩
  have hB : ∀ t, B (Tk.tx s t) = ((B s).take t.2.2.toNat).drop t.2.1.toNat := fun t => by rw [Tk.B_tx]; rfl
  refine ⟨by rw [hw, List.length_map], by omega, fun i t ht hi => (hls i t ht).1 hi, fun i x hx hi => ?_, fun i t ht => ?_, fun i t x ht hx hk => ?_, fun i x hx => ?_⟩
  · obtain ⟨t, ht, rfl⟩ := hwi i x hx
    have hk := (hls i t ht).1 hi
    obtain ⟨b, h1, h2⟩ := heach t (List.mem_of_getElem? ht)
    rw [h2] at hk
    obtain ⟨hm, _⟩ := Tk.nx_end h1 hk
    rw [hB, h2]
    simp only [hm]
    rw [Int.toNat_natCast, Int.toNat_natCast]
    exact List.drop_eq_nil_of_le (by rw [List.length_take]; omega)
  · obtain ⟨b, h1, h2⟩ := heach t (List.mem_of_getElem? ht)
    have := hbd t (List.mem_of_getElem? ht)
    refine ⟨?_, by omega, by omega⟩
    rw [h2]
    exact Tk.body_kind _
  · obtain ⟨t', ht', rfl⟩ := hwi i x hx
    rw [ht] at ht'; cases ht'
    obtain ⟨b, h1, h2⟩ := heach t (List.mem_of_getElem? ht)
    rw [h2] at hk
    obtain ⟨hl, hd⟩ := Tk.body_num (L := ((B s).drop b).drop (Tk.nx ((B s).drop b)).n) hk
    have e : B (Tk.tx s t) = (((B s).drop b).drop (Tk.nx ((B s).drop b)).n).take (Tk.nx ((B s).drop b)).m := by
      rw [hB, h2]
      simp only [Int.toNat_natCast]
      exact wd_take
    refine ⟨?_, fun c hc => hd c (by rw [e] at hc; exact hc)⟩
    rw [← B_len, e, List.length_take]
    exact Nat.le_trans (Nat.min_le_left _ _) hl
  · obtain ⟨t, ht, rfl⟩ := hwi i x hx
    rw [← B_len, hB, List.length_drop, List.length_take]
    omega
theorem env_of {s : ByteArray} {X : Cx} (hT : X.T = (Tk.allT (B s)).1) (hw : X.wl = (Tk.allT (B s)).1.map (Tk.tx s)) : X.E = envOf (B s) := by
  unfold Cx.E envOf
  rw [hT, hw, List.map_map]
  congr 1
  exact List.map_congr_left fun t _ => Tk.B_tx s t
end Go.Proofs.YtfnbgbeinmekgaaGreatDoor.Sy
namespace Go.Proofs.YtfnbgbeinmekgaaGreatDoor.Tk
open Go Go.RowKit Fw
set_option linter.unusedVariables false
set_option maxRecDepth 20000
theorem Cut (s : ByteArray) (f t : Int) (w : World) (hf : 0 ≤ f) (hft : f ≤ t) (ht : t ≤ s.size) :
    Ret Tryz.prog 38 [.string s, .agg #[.int .i64 f, .int .i64 t]] w fun v w1 => v = .string (s.extract f.toNat t.toNat) ∧ Kp No w w1 := by
  refine ret_enter Tryz.func38 rfl Tryz.ntmps38 rfl ?_
  (repeat refine Zr ?_)
  refine s_box rfl rfl (fun b1 w1 n1 => ?_)
  have h1 : w1.heap[b1]? = some (.cells [.int .i64 f, .int .i64 t].toArray 39 (0, 0)) := n1.blk
  (repeat refine Zr ?_)
  refine s_v (r_ss rfl rfl rfl rfl (by omega) (by omega) (by omega)) ?_
  (repeat refine Zr ?_)
  exact ret_1 rfl rfl ⟨rfl, n1.kp⟩
theorem Text (s : ByteArray) (a : Option Addr) (c : Nat) (ts : List T3) (w : World) (h : RdT w a ts) (hl : ts.length ≤ 100000) (hb : ∀ t ∈ ts, 0 ≤ t.2.1 ∧ t.2.1 ≤ t.2.2 ∧ t.2.2 ≤ (s.size : Int)) :
    Ret Tryz.prog 17 [.string s, .slice a ts.length c] w fun v w1 => w1.ownsRow w.heap.size 9 1 v ts.length (sc (ts.map (tx s))) ∧ Kp No w w1 := by
  refine ret_enter Tryz.func17 rfl Tryz.ntmps17 rfl ?_
  (repeat refine Zr ?_)
  refine k_loop (σ := Nat × Value) (fun t => [(0, .string s), (5, t.2), (8, .slice a ts.length c), (9, .int .i64 ts.length), (10, .int .i64 t.1)])
    (fun t w' => t.1 ≤ ts.length ∧ w'.ownsRow w.heap.size 9 1 t.2 t.1 (sc ((ts.take t.1).map (tx s))) ∧ Kp No w w') (fun t => ts.length - t.1) (0, .slice none 0 0) ⟨rfl, rfl, rfl, rfl, rfl, trivial⟩ ⟨Nat.zero_le _, ⟨by simp [sc], .inl ⟨rfl, rfl⟩⟩, Kp.refl _ _⟩ ?_
  rintro ⟨i, v⟩ l w1 ⟨hi, hown, k1⟩
  simp only at hi hown
  dsimp only
  obtain ⟨av, cv, rfl, _, _, _⟩ := own_read hown
  (repeat refine Zr ?_)
  refine c_dec rfl (fun hlt => ?_) (fun hge => ?_)
  · obtain ⟨t, ht⟩ : ∃ t, ts[i]? = some t := ⟨_, List.getElem?_eq_getElem (by omega)⟩
    have htb := hb t (List.mem_of_getElem? ht)
    obtain ⟨b, o, rfl, hct⟩ := (h.kp0 k1).at ht
    (repeat refine Zr ?_)
    refine s_v (r_ia rfl rfl rfl rfl (by omega) (by omega)) ?_
    refine s_v (r_lda (n := 3) rfl rfl rfl rfl (hct w1 (Kp.refl _ _))) ?_
    refine s_al rfl (fun b7 w2 n2 => ?_)
    refine s_st rfl rfl rfl rfl rfl n2.blk (Nat.le_of_ble_eq_true rfl) (fun w3 s3 => ?_)
    have y2 := n2.ge
    have x2 := n2.lt
    have z3 := s3.sz
    have z1 := k1.size
    have z2 := n2.kp.size
    have k3 : Kp No w1 w3 := n2.kp.trans s3.kp (fun _ _ e => by omega)
    have hb7 : w3.heap[b7]? = some (.cells [.int .i64 t.1, .int .i64 t.2.1, .int .i64 t.2.2].toArray 64 (0, 0)) := s3.blk
    have own3 := own_kp hown k3 (fun _ _ => id)
    (repeat refine Zr ?_)
    refine s_v (r_ldb (vs := [.int .i64 t.2.1, .int .i64 t.2.2]) rfl rfl rfl hb7 rfl rfl) ?_
    refine s_call (us := []) (zs := []) (by kernel_rfl) rfl rfl (Cut s t.2.1 t.2.2 w3 htb.1 htb.2.1 htb.2.2) ?_
    rintro _ w4 ⟨rfl, k4⟩
    have z4 := k4.size
    refine s_bs rfl (fun b8 w5 n5 => ?_)
    have z5 := n5.kp.size
    have own5 := own_kp (own_kp own3 k4 (fun _ _ => id)) n5.kp (fun _ _ => id)
    refine s_app (size := 1) (bytes := 16) (base := w.heap.size) (news := [.string (s.extract t.2.1.toNat t.2.2.toNat)]) rfl rfl rfl rfl rfl rfl rfl rfl own5 rfl (blk_cells n5.blk) rfl rfl (by omega) (by omega) (by omega) ?_
    intro v6 w6 a6
    obtain ⟨a6', c6, rfl, _, _, _⟩ := own_read a6.own
    (repeat refine Zr ?_)
    refine l_next (i + 1, .slice a6' (i + 1) c6) ⟨rfl, rfl, rfl, rfl, rfl, trivial⟩ ⟨by show i + 1 ≤ ts.length; omega, ?_, (((k1.no k3).no k4).no n5.kp).trans a6.kp (fun j hj e => by have := (own_lt hown e.symm).1; omega)⟩ (by show ts.length - (i + 1) < ts.length - i; omega)
    have := a6.own
    show w6.ownsRow w.heap.size 9 1 (.slice a6' (i + 1) c6) (i + 1) (sc ((ts.take (i + 1)).map (tx s)))
    rw [List.take_add_one, ht]
    simpa [sc, tx] using this
  · have : i = ts.length := by omega
    subst this
    rw [List.take_length] at hown
    (repeat refine Zr ?_)
    exact ret_1 rfl rfl ⟨hown, k1⟩
end Go.Proofs.YtfnbgbeinmekgaaGreatDoor.Tk
namespace Go.Proofs.YtfnbgbeinmekgaaGreatDoor.Sy
open Go Go.RowKit Fw
set_option linter.unusedVariables false
set_option maxRecDepth 20000
/-- What Parse hands back. -/
def PrsV (w : World) (v : Value) : Rs Unit → Prop
  | .ok _ S => ∃ ux us uf, v = .tuple #[.agg #[ux, us, uf], .int .i64 0, .int .i64 0] ∧ Tr w ux us uf S
  | .er c p => v = .tuple #[.agg #[nilS, nilS, nilS], .int .i64 p, .int .i64 c]
  | .out => False
structure PaS where
  m : Nat
  s : PS
  V : VS
def V0 : VS := ⟨nilS, nilS, nilS, fun _ => False⟩
set_option maxHeartbeats 1000000 in
theorem ParseF (s : ByteArray) (w : World) (hg : Tk.Glob w) (hs : s.size ≤ 1000000) :
    Ret Tryz.prog 8 [.string s] w fun v w' => Kp No w w' ∧ PrsV w' v (prs (B s)) := by
  refine retD_enter Tryz.func8 rfl Tryz.ntmps8 rfl ?_
  (repeat refine Zr ?_)
  refine s_al rfl (fun p2 w1 n1 => ?_)
  refine s_al rfl (fun p3 w2 n2 => ?_)
  refine s_al rfl (fun p4 w3 n3 => ?_)
  have k3 : Kp No w w3 := (n1.kp.no n2.kp).no n3.kp
  have ge2 := n1.ge
  have ge3 : w1.heap.size ≤ p3 := n2.ge
  have ge4 : w2.heap.size ≤ p4 := n3.ge
  have lt2 := n1.lt
  have lt3 := n2.lt
  have lt4 := n3.lt
  have z1 := n1.kp.size
  have z2 := n2.kp.size
  have z3 := n3.kp.size
  have a2 : w3.heap[p2]? = some (.cells [nilS, nilS, nilS].toArray 27 (0, 0)) := n3.kp.get0 (n2.kp.get0 n1.blk)
  have a3 : w3.heap[p3]? = some (.cells [Value.int .i64 0].toArray 3 (0, 0)) := n3.kp.get0 n2.blk
  have a4 : w3.heap[p4]? = some (.cells [Value.int .i64 0].toArray 28 (0, 0)) := n3.blk
  have h23 : p2 ≠ p3 := by omega
  have h24 : p2 ≠ p4 := by omega
  have h34 : p3 ≠ p4 := by omega
  have g2 : w.heap.size ≤ p2 ∧ w.heap.size ≤ p3 ∧ w.heap.size ≤ p4 := ⟨by omega, by omega, by omega⟩
  (repeat refine Zr ?_)
  refine s_call (us := []) (zs := []) (by kernel_rfl) rfl rfl (Tk.All s w3 (hg.kp k3) (by omega)) ?_
  rintro _ w4 ⟨u, rfl, own4, k4⟩
  obtain ⟨av, cv, rfl, _, _, _⟩ := own_read own4
  (repeat refine Zr ?_)
  refine s_st (vs := [.int .i64 (Tk.allT (B s)).2.1]) rfl rfl rfl rfl rfl (k4.get0 a3) (Nat.le_of_ble_eq_true rfl) (fun w5 s5 => ?_)
  refine s_st (vs := [.int .i64 (Tk.allT (B s)).2.2]) rfl rfl rfl rfl rfl (s5.kp.get (k4.get0 a4) (Ne.symm h34)) (Nat.le_of_ble_eq_true rfl) (fun w6 s6 => ?_)
  have b2 : w6.heap[p2]? = some (.cells [nilS, nilS, nilS].toArray 27 (0, 0)) := s6.kp.get (s5.kp.get (k4.get0 a2) h23) h24
  have b3 : w6.heap[p3]? = some (.cells [Value.int .i64 (Tk.allT (B s)).2.1].toArray 3 (0, 0)) := s6.kp.get s5.blk h34
  have b4 : w6.heap[p4]? = some (.cells [Value.int .i64 (Tk.allT (B s)).2.2].toArray 28 (0, 0)) := s6.blk
  have k6 : Kp No w w6 := Kp.from0 (Kp.from0 (k3.no k4) s5.kp fun i hi e => by omega) s6.kp fun i hi e => by omega
  have own6 : w6.ownsRow 0 64 3 (.slice av (Tk.allT (B s)).1.length cv) (Tk.allT (B s)).1.length (Tk.tc (Tk.allT (B s)).1) := by
    refine own_kp (own_kp ?_ s5.kp fun g hg e => ?_) s6.kp fun g hg e => ?_
    · refine ⟨own4.1, ?_⟩
      rcases own4.2 with h | ⟨g, cap, cur, e1, _, e3⟩
      · exact .inl h
      · exact .inr ⟨g, cap, cur, e1, Nat.zero_le _, e3⟩
    · have := (own_lt own4 hg).1; omega
    · have := (own_lt own4 hg).1; omega
  clear a2 a3 a4 n1 n2 n3 s5 s6 own4 k4
  (repeat refine Zr ?_)
  refine c_ne rfl (fun hbad => ?_) (fun hgood => ?_)
  · have ep : prs (B s) = .er (Tk.allT (B s)).2.2 (Tk.allT (B s)).2.1 := by unfold prs; rw [if_pos hbad]
    rw [ep]
    (repeat refine Zr ?_)
    refine k_h (fun w' => w'.heap[p3]? = some (.cells [Value.int .i64 (Tk.allT (B s)).2.1].toArray 3 (0, 0)) ∧ w'.heap[p4]? = some (.cells [Value.int .i64 (Tk.allT (B s)).2.2].toArray 28 (0, 0))) [(0, false), (1, false), (2, false), (3, true), (4, true), (5, true)] 5 (by kernel_rfl) (waits_of_last (by kernel_rfl)) (by kernel_rfl) (by kernel_rfl) (by kernel_rfl) rfl (fun w7 k7 q7 => ?_)
    have c2 := k7.get0 b2
    have c3 := k7.get0 b3
    have c4 := k7.get0 b4
    refine h_v ⟨c3, c4⟩ (fun w' hw => r_bd rfl) ?_
    refine h_v ⟨c3, c4⟩ (fun w' hw => r_ld rfl rfl (cell_of_blk hw.1 rfl)) ?_
    refine h_v ⟨c3, c4⟩ (fun w' hw => r_ld rfl rfl (cell_of_blk hw.2 rfl)) ?_
    refine h_st (vs := [nilS, nilS, nilS]) rfl rfl rfl rfl rfl c2 (Nat.le_of_ble_eq_true rfl) (fun w8 s8 => ⟨fun _ => ⟨s8.kp.get c3 (Ne.symm h23), s8.kp.get c4 (Ne.symm h24)⟩, ?_⟩)
    have d3 := s8.kp.get c3 (Ne.symm h23)
    have d4 := s8.kp.get c4 (Ne.symm h24)
    refine h_st (vs := [.int .i64 (Tk.allT (B s)).2.1]) rfl rfl rfl rfl rfl d3 (Nat.le_of_ble_eq_true rfl) (fun w9 s9 => ⟨fun _ => ⟨s9.blk, s9.kp.get d4 (Ne.symm h34)⟩, ?_⟩)
    refine h_st (vs := [.int .i64 (Tk.allT (B s)).2.2]) rfl rfl rfl rfl rfl (s9.kp.get d4 (Ne.symm h34)) (Nat.le_of_ble_eq_true rfl) (fun w10 s10 => ⟨fun h => (h rfl).elim, ?_⟩)
    have e2 : w10.heap[p2]? = some (.cells [nilS, nilS, nilS].toArray 27 (0, 0)) := s10.kp.get (s9.kp.get s8.blk h23) h24
    have e3 : w10.heap[p3]? = some (.cells [Value.int .i64 (Tk.allT (B s)).2.1].toArray 3 (0, 0)) := s10.kp.get s9.blk h34
    have e4 : w10.heap[p4]? = some (.cells [Value.int .i64 (Tk.allT (B s)).2.2].toArray 28 (0, 0)) := s10.blk
    refine h_nil ?_
    (repeat refine Zr ?_)
    refine retD_0 (res_n (vs := [.agg #[nilS, nilS, nilS], .int .i64 (Tk.allT (B s)).2.1, .int .i64 (Tk.allT (B s)).2.2]) rfl rfl ⟨rv_ag (vs := [nilS, nilS, nilS]) rfl rfl rfl e2 rfl rfl, rv_1 rfl rfl (cell_of_blk e3 rfl), rv_1 rfl rfl (cell_of_blk e4 rfl), trivial⟩) ⟨?_, rfl⟩
    exact Kp.from0 (Kp.from0 (Kp.from0 (k6.no k7) s8.kp fun i hi e => by omega) s9.kp fun i hi e => by omega) s10.kp fun i hi e => by omega
  obtain ⟨hL, hals, hat0⟩ := Tk.all_ok hgood
  have htl := Tk.all_len hL
  have hbd := fun t => Tk.all_bounds (L := B s) (t := t)
  have hsl := B_len s
  have ep : prs (B s) = fcts (envOf (B s)) (fuel (B s)) (fuel (B s)) ⟨0, [], [], []⟩ := by unfold prs; rw [if_neg (fun e => e hgood)]
  rw [hat0] at b3
  rw [hgood] at b4
  obtain ⟨T, hT⟩ : ∃ T, T = (Tk.allT (B s)).1 := ⟨_, rfl⟩
  rw [← hT] at own6 ⊢
  have hTl : T.length ≤ s.size + 1 := by rw [hT]; omega
  (repeat refine Zr ?_)
  refine s_call (us := []) (zs := []) (by kernel_rfl) rfl rfl (Tk.Text s av cv T w6 (Tk.RdT.of own6) (by omega) (fun t ht => by rw [hT] at ht; have := hbd t ht; omega)) ?_
  rintro wv w7 ⟨own7, k7⟩
  have own7t := own_kp own6 k7 fun _ _ h => h
  have own7 : w7.ownsRow 0 9 1 wv (T.map (Tk.tx s)).length ((T.map (Tk.tx s)).map Value.string) := by
    rw [List.length_map]
    refine ⟨own7.1, ?_⟩
    rcases own7.2 with h | ⟨g, cap, cur, e1, _, e3⟩
    · exact .inl h
    · exact .inr ⟨g, cap, cur, e1, Nat.zero_le _, e3⟩
  have c2 := k7.get0 b2
  have c3 := k7.get0 b3
  have c4 := k7.get0 b4
  clear b2 b3 b4 own6
  obtain ⟨wa, wc, ew, _⟩ := own_read own7
  subst ew
  (repeat refine Zr ?_)
  refine s_box rfl rfl (fun p w8 n8 => ?_)
  obtain ⟨X, hX⟩ : ∃ X : Cx, X = ⟨p, .slice av T.length cv, .slice wa (T.map (Tk.tx s)).length wc, T, T.map (Tk.tx s)⟩ := ⟨_, rfl⟩
  have hXp : X.p = p := by rw [hX]
  have ok : Ok X := ok_of hgood (by rw [hX]; exact hT) (by rw [hX, ← hT])
  have eE : X.E = envOf (B s) := env_of (by rw [hX]; exact hT) (by rw [hX, ← hT])
  have hne : T ≠ [] := fun e => by rw [← hT, e] at hals; exact Tk.als_ne hals
  have hA : At X w8 ⟨0, [], [], []⟩ V0 := by
    rw [hX]
    refine ⟨n8.blk, own_kp own7t n8.kp fun _ _ h => h, own_kp own7 n8.kp fun _ _ h => h, ⟨[], rfl, nilown, fun r hr => (by cases hr)⟩, ⟨[], rfl, nilown, fun r hr => (by cases hr)⟩, ⟨[], rfl, nilown, fun r hr => (by cases hr)⟩, ?_, Nat.le_refl _, Nat.zero_le _, Nat.zero_le _, fun b hb => hb.elim⟩
    cases T with
    | nil => exact (hne rfl).elim
    | cons => simp
  have hz8 := n8.ge
  have k8 : Kp No w w8 := (k6.no k7).no n8.kp
  have hSx : ∀ i, i < w.heap.size → ¬ Sx X V0 i := by
    intro i hi hs
    rcases hs with hs | hs | hs | hs
    · have := k6.size; have := k7.size; omega
    · cases hs
    · cases hs
    · cases hs
  have hzw : w.heap.size ≤ w8.heap.size := k8.size
  have hns : ∀ b, b < w7.heap.size → ¬ Sx X V0 b := by
    intro b hb hs
    rcases hs with hs | hs | hs | hs
    · omega
    · cases hs
    · cases hs
    · cases hs
  have B2 : Bx X w w8 V0 p2 [nilS, nilS, nilS] 27 := ⟨g2.1, n8.kp.get0 c2, hns _ (lt_of_get c2)⟩
  have B3 : Bx X w w8 V0 p3 [.int .i64 0] 3 := ⟨g2.2.1, n8.kp.get0 c3, hns _ (lt_of_get c3)⟩
  have B4 : Bx X w w8 V0 p4 [.int .i64 0] 28 := ⟨g2.2.2, n8.kp.get0 c4, hns _ (lt_of_get c4)⟩
  have hp8 : p2 < w8.heap.size ∧ p3 < w8.heap.size ∧ p4 < w8.heap.size := ⟨lt_of_get B2.blk, lt_of_get B3.blk, lt_of_get B4.blk⟩
  rw [← eE] at ep
  obtain ⟨F, hF⟩ : ∃ F, F = fuel (B s) := ⟨_, rfl⟩
  rw [← hF] at ep
  have hno := prs_no (B s)
  obtain ⟨R, hR⟩ : ∃ R, prs (B s) = R := ⟨_, rfl⟩
  rw [hR] at hno ep ⊢
  have hpt : Value.pointer (some ⟨p, 0, none⟩) = ptr X := by rw [ptr, hXp]
  rw [hpt]
  clear n8 hX own7 own7t c2 c3 c4 hR hF hT hals hbd hsl htl hL hat0
  (repeat refine Zr ?_)
  refine s_defer (zs := [.pointer (some ⟨p2, 0, none⟩), .pointer (some ⟨p3, 0, none⟩), .pointer (some ⟨p4, 0, none⟩)]) rfl ?_
  refine k_nil ?_
  refine k_n ?_
  refine k_seq ?_
  refine k_blk ?_
  refine k_loop (σ := PaS) (fun x => [(2, .pointer (some ⟨p2, 0, none⟩)), (3, .pointer (some ⟨p3, 0, none⟩)), (4, .pointer (some ⟨p4, 0, none⟩)), (6, ptr X)])
    (fun x w' => fcts X.E F x.m x.s = R ∧ Sg X w8 V0 w' x.s x.V ∧ Bx X w w' x.V p2 [nilS, nilS, nilS] 27 ∧ Bx X w w' x.V p3 [.int .i64 0] 3 ∧ Bx X w w' x.V p4 [.int .i64 0] 28) (fun x => x.m) ⟨F, ⟨0, [], [], []⟩, V0⟩ ⟨rfl, rfl, rfl, rfl, trivial⟩ ⟨ep.symm, Sg.start hA, B2, B3, B4⟩ ?_
  rintro ⟨m, S, V⟩ l w9 ⟨hm, g9, D2, D3, D4⟩
  simp only at hm g9 D2 D3 D4
  cases m with
  | zero => exact (hno (by rw [← hm]; rfl)).elim
  | succ m =>
  unfold fcts at hm
  clear B2 B3 B4 ep hA
  have h9 := g9.at_
  obtain ⟨t, x0, ht, hx0, e1, e2, e3⟩ := h9.tok ok
  obtain ⟨gt, ct, et, hct⟩ := h9.tokens
  obtain ⟨c1, c2, c3⟩ := hct _ _ ht
  have hb := h9.blk
  rw [et] at hb
  have hlt := h9.lt
  have hbig := ok.big
  (repeat refine Zr ?_)
  refine k_q (by kernel_rfl) (by kernel_rfl) ?_
  (repeat (first | refine Zq ?_ | refine Zqn ?_ | refine Zqu ?_ | refine Zqg ?_))
  refine q_call (us := []) (zs := []) (by kernel_rfl) rfl rfl (fun w' hw => (lenF (h9.no hw)).mono (by rintro _ _ ⟨rfl, rfl⟩; exact ⟨rfl, hw⟩)) ?_
  (repeat (first | refine Zq ?_ | refine Zqn ?_ | refine Zqu ?_ | refine Zqg ?_))
  by_cases hf : S.fn = []
  · rw [if_neg (fun e => e.1 hf)] at hm
    refine q_set 30 true rfl (by rw [hf]; rfl) ?_
    (repeat (first | refine Zq ?_ | refine Zqn ?_ | refine Zqu ?_ | refine Zqg ?_))
    refine q_nil (fun w10 k10 => ?_)
    have g10 := g9.no k10
    (repeat refine Zr ?_)
    refine c_t rfl ?_
    (repeat refine Zr ?_)
    refine s_enterP (R := fun v w' => ∃ s' V', fct X.E F S = .ok () s' ∧ Sg X w10 V w' s' V') (F' := erP X w10 V (fct X.E F S)) (run_call (us := []) (zs := []) (by kernel_rfl) rfl rfl) (functionF ok S V w10 g10.at_ (bind_ne (show _ ≠ _ by rw [hm]; exact hno))) ?_ ?_
    · rintro c w11 ⟨k, q, ee, rfl, kk⟩
      have er : R = .er k q := by rw [← hm, ee]; rfl
      have D2' := kk.get (D2.no k10).blk D2.ns
      have D3' := kk.get (D3.no k10).blk D3.ns
      have D4' := kk.get (D4.no k10).blk D4.ns
      refine panicD_1 (by kernel_rfl) (catchF p2 p3 p4 q k _ _ _ _ _ w11 D2' D3' D4' h23 h24 h34) ?_
      rintro e u w12 ⟨hv, hu, ⟨f2, f3, f4⟩, kc⟩
      refine ⟨hv, hu, _, res_n (vs := [.agg #[nilS, nilS, nilS], .int .i64 q, .int .i64 k]) rfl rfl ⟨rv_ag (vs := [nilS, nilS, nilS]) rfl rfl rfl f2 rfl rfl, rv_1 rfl rfl (cell_of_blk f3 rfl), rv_1 rfl rfl (cell_of_blk f4 rfl), trivial⟩, ?_, by rw [er]; rfl⟩
      exact Kp.from0 (Kp.from0 k8 (g10.gs.kp.trans kk fun i hi hs => g10.gs.fr i hi hs) hSx) kc fun i hi e => by omega
    rintro _ w11 ⟨S', V', e11, g11⟩
    rw [e11, bind_ok] at hm
    (repeat refine Zr ?_)
    exact l_next ⟨m, S', V'⟩ ⟨rfl, rfl, rfl, rfl, trivial⟩ ⟨hm, g10.call g11, (D2.no k10).gs g11.gs, (D3.no k10).gs g11.gs, (D4.no k10).gs g11.gs⟩ (by simp)
  have hf0 : ((S.fn.length : Int) == 0) = false := by
    cases hS : S.fn with
    | nil => exact (hf hS).elim
    | cons => simp; omega
  refine q_set 30 false rfl hf0 ?_
  (repeat (first | refine Zq ?_ | refine Zqn ?_ | refine Zqu ?_ | refine Zqg ?_))
  refine q_nil (fun w10 k10 => ?_)
  have g10 := g9.no k10
  (repeat refine Zr ?_)
  refine c_ne rfl (fun q => ?_) (fun q => ?_)
  · rw [if_neg (fun e => q (by rw [← e1]; exact e.2))] at hm
    (repeat refine Zr ?_)
    refine s_enterP (R := fun v w' => ∃ s' V', fct X.E F S = .ok () s' ∧ Sg X w10 V w' s' V') (F' := erP X w10 V (fct X.E F S)) (run_call (us := []) (zs := []) (by kernel_rfl) rfl rfl) (functionF ok S V w10 g10.at_ (bind_ne (show _ ≠ _ by rw [hm]; exact hno))) ?_ ?_
    · rintro c w11 ⟨k, q, ee, rfl, kk⟩
      have er : R = .er k q := by rw [← hm, ee]; rfl
      have D2' := kk.get (D2.no k10).blk D2.ns
      have D3' := kk.get (D3.no k10).blk D3.ns
      have D4' := kk.get (D4.no k10).blk D4.ns
      refine panicD_1 (by kernel_rfl) (catchF p2 p3 p4 q k _ _ _ _ _ w11 D2' D3' D4' h23 h24 h34) ?_
      rintro e u w12 ⟨hv, hu, ⟨f2, f3, f4⟩, kc⟩
      refine ⟨hv, hu, _, res_n (vs := [.agg #[nilS, nilS, nilS], .int .i64 q, .int .i64 k]) rfl rfl ⟨rv_ag (vs := [nilS, nilS, nilS]) rfl rfl rfl f2 rfl rfl, rv_1 rfl rfl (cell_of_blk f3 rfl), rv_1 rfl rfl (cell_of_blk f4 rfl), trivial⟩, ?_, by rw [er]; rfl⟩
      exact Kp.from0 (Kp.from0 k8 (g10.gs.kp.trans kk fun i hi hs => g10.gs.fr i hi hs) hSx) kc fun i hi e => by omega
    rintro _ w11 ⟨S', V', e11, g11⟩
    rw [e11, bind_ok] at hm
    (repeat refine Zr ?_)
    exact l_next ⟨m, S', V'⟩ ⟨rfl, rfl, rfl, rfl, trivial⟩ ⟨hm, g10.call g11, (D2.no k10).gs g11.gs, (D3.no k10).gs g11.gs, (D4.no k10).gs g11.gs⟩ (by simp)
  rw [if_pos ⟨hf, by rw [e1]; exact q⟩] at hm
  have hmR := hm
  (repeat refine Zr ?_)
  clear hm g9 hb c1 c2 c3 hct et ht hx0 e1 e2 e3 hf0
  refine k_h (fun _ => True) [(0, false), (1, false), (2, false), (4, false), (5, false), (6, false), (8, false), (9, false), (10, false), (3, true), (7, true), (11, true), (12, false), (13, true), (14, true), (15, true)] 16 (by kernel_rfl) (waits_none) (by kernel_rfl) (by kernel_rfl) (by kernel_rfl) rfl (fun w11 k11 q11 => ?_)
  have h11 := h9.no (k10.no k11)
  obtain ⟨rx, a1, o1, l1⟩ := h11.xs
  obtain ⟨ry, a2, o2, l2⟩ := h11.ss
  obtain ⟨rz, a3, o3, l3⟩ := h11.fs
  have i1 : S.ex.length ≤ 30000 := by have := h9.xl; omega
  have i2 : S.st.length ≤ 30000 := by have := h9.sl; omega
  have i3 : S.fn.length ≤ 30000 := by have := h9.fl; omega
  refine h_v trivial (fun w' hw => r_mv rfl) ?_
  refine h_v trivial (fun w' hw => r_nc rfl) ?_
  refine h_v trivial (fun w' hw => r_fa rfl rfl) ?_
  refine h_v trivial (fun w' hw => r_mv rfl) ?_
  refine h_v trivial (fun w' hw => r_nc rfl) ?_
  refine h_v trivial (fun w' hw => r_fa rfl rfl) ?_
  refine h_v trivial (fun w' hw => r_mv rfl) ?_
  refine h_v trivial (fun w' hw => r_nc rfl) ?_
  refine h_v trivial (fun w' hw => r_fa rfl rfl) ?_
  refine h_call (us := []) (zs := []) (by kernel_rfl) rfl rfl (alX V.x S.ex.length (rx.flatMap exC) w11 h11.blk rfl o1 (ex_one fun r hr => ⟨_, (l1 r hr).1⟩) i1) ?_
  rintro ux w12 ⟨u1, k12⟩
  refine ⟨fun _ => trivial, ?_⟩
  have h12 := h11.no k12
  refine h_call (us := []) (zs := []) (by kernel_rfl) rfl rfl (alS V.s S.st.length (ry.flatMap stC) w12 h12.blk rfl (own_kp o2 k12 fun _ _ h => h) (st_one fun r hr => ⟨⟨_, (l2 r hr).1.1⟩, ⟨_, (l2 r hr).2.1⟩⟩) i2) ?_
  rintro us w13 ⟨u2, k13⟩
  refine ⟨fun _ => trivial, ?_⟩
  have h13 := h12.no k13
  refine h_call (us := []) (zs := []) (by kernel_rfl) rfl rfl (alF V.f S.fn.length (rz.flatMap fnC) w13 h13.blk rfl (own_kp o3 (k12.no k13) fun _ _ h => h) (fn_one fun r hr => ⟨⟨_, (l3 r hr).1.1⟩, ⟨_, (l3 r hr).2.1⟩⟩) i3) ?_
  rintro uf w14 ⟨u3, k14⟩
  refine ⟨fun _ => trivial, ?_⟩
  have kk := ((k11.no k12).no k13).no k14
  have C2 := ((D2.no k10).no kk).blk
  have C3 := ((D3.no k10).no kk).blk
  have C4 := ((D4.no k10).no kk).blk
  obtain ⟨xa, xc, rfl, _⟩ := own_read u1
  obtain ⟨sa, sc, rfl, _⟩ := own_read u2
  obtain ⟨fa, fc, rfl, _⟩ := own_read u3
  refine h_v trivial (fun w' hw => r_bd rfl) ?_
  refine h_st (vs := [.slice xa S.ex.length xc, .slice sa S.st.length sc, .slice fa S.fn.length fc]) rfl rfl rfl rfl rfl C2 (Nat.le_of_ble_eq_true rfl) (fun w15 s15 => ⟨fun _ => trivial, ?_⟩)
  refine h_st (vs := [.int .i64 0]) rfl rfl rfl rfl rfl (s15.kp.get C3 (Ne.symm h23)) (Nat.le_of_ble_eq_true rfl) (fun w16 s16 => ⟨fun _ => trivial, ?_⟩)
  refine h_st (vs := [.int .i64 0]) rfl rfl rfl rfl rfl (s16.kp.get (s15.kp.get C4 (Ne.symm h24)) (Ne.symm h34)) (Nat.le_of_ble_eq_true rfl) (fun w17 s17 => ⟨fun _ => trivial, ?_⟩)
  refine h_nil ?_
  have f2 : w17.heap[p2]? = some (.cells [.slice xa S.ex.length xc, .slice sa S.st.length sc, .slice fa S.fn.length fc].toArray 27 (0, 0)) := s17.kp.get (s16.kp.get s15.blk h23) h24
  have f3 : w17.heap[p3]? = some (.cells [Value.int .i64 0].toArray 3 (0, 0)) := s17.kp.get s16.blk h34
  have f4 : w17.heap[p4]? = some (.cells [Value.int .i64 0].toArray 28 (0, 0)) := s17.blk
  have kst : Kp (fun i => i = p2 ∨ i = p3 ∨ i = p4) w14 w17 := (s15.kp.mono fun i _ e => .inl e).trans ((s16.kp.mono fun i _ e => (.inr (.inl e) : i = p2 ∨ i = p3 ∨ i = p4)).trans (s17.kp.mono fun i _ e => .inr (.inr e)) fun _ _ h => h) fun _ _ h => h
  have gs10 := g10.gs
  have hfo : ∀ b, V.o b → ¬ (b = p2 ∨ b = p3 ∨ b = p4) := by
    intro b hb hs
    have hlt8 : b < w8.heap.size := by
      rcases hs with e | e | e <;> rw [e]
      · exact hp8.1
      · exact hp8.2.1
      · exact hp8.2.2
    exact gs10.fo b hlt8 hb
  have up : ∀ {base : Nat} {e : TypeId} {size : Nat} {v : Value} {n : Nat} {cs : List Value}, w14.ownsRow base e size v n cs → (Nat.beq e 27 || Nat.beq e 3 || Nat.beq e 28) = false → w17.ownsRow base e size v n cs := fun ho he => own_kp ho kst fun g hg hs => by
    obtain ⟨c, hc⟩ := own_ty ho hg
    simp only [Bool.or_eq_false_iff] at he
    rcases hs with hs | hs | hs
    · exact ty_ne hc C2 he.1.1 hs
    · exact ty_ne hc C3 he.1.2 hs
    · exact ty_ne hc C4 he.2 hs
  have upl : ∀ {base : Nat} {e : TypeId} {size : Nat} {v : Value} {n : Nat} {cs : List Value}, w11.ownsRow base e size v n cs → Ow V v → w17.ownsRow base e size v n cs := fun ho hw => own_kp (own_kp ho ((k12.no k13).no k14) fun _ _ h => h) kst fun g hg => hfo g (hw g hg)
  have TR : Tr w17 (.slice xa S.ex.length xc) (.slice sa S.st.length sc) (.slice fa S.fn.length fc) S :=
    ⟨⟨rx, a1, up (own_kp u1 (k13.no k14) fun _ _ h => h) rfl, fun r hr => ⟨upl (l1 r hr).1 (l1 r hr).2, fun _ _ => trivial⟩⟩, ⟨ry, a2, up (own_kp u2 k14 fun _ _ h => h) rfl, fun r hr => ⟨⟨upl (l2 r hr).1.1 (l2 r hr).1.2, fun _ _ => trivial⟩, upl (l2 r hr).2.1 (l2 r hr).2.2, fun _ _ => trivial⟩⟩,
      ⟨rz, a3, up u3 rfl, fun r hr => ⟨⟨upl (l3 r hr).1.1 (l3 r hr).1.2, fun _ _ => trivial⟩, upl (l3 r hr).2.1 (l3 r hr).2.2, fun _ _ => trivial⟩⟩⟩
  have kW : Kp No w w17 := Kp.from0 ((Kp.from0 k8 gs10.kp hSx).no kk) kst fun i hi e => by omega
  (repeat refine Zr ?_)
  refine retD_1 (by kernel_rfl) (idleF p2 p3 p4 w17) ?_
  rintro e u w18 ⟨hv, hu, k18⟩
  refine ⟨hv, hu, _, res_n (vs := [.agg #[.slice xa S.ex.length xc, .slice sa S.st.length sc, .slice fa S.fn.length fc], .int .i64 0, .int .i64 0]) rfl rfl ⟨rv_ag (vs := [.slice xa S.ex.length xc, .slice sa S.st.length sc, .slice fa S.fn.length fc]) rfl rfl rfl (k18.get0 f2) rfl rfl, rv_1 rfl rfl (cell_of_blk (k18.get0 f3) rfl), rv_1 rfl rfl (cell_of_blk (k18.get0 f4) rfl), trivial⟩, kW.no k18, ?_⟩
  rw [← hmR]
  exact ⟨_, _, _, rfl, TR.kp k18⟩
end Go.Proofs.YtfnbgbeinmekgaaGreatDoor.Sy
namespace Go.Proofs.YtfnbgbeinmekgaaGreatDoor.Sy
open Go Go.RowKit Fw
set_option linter.unusedVariables false
set_option maxRecDepth 20000
/-- What Parse hands back, in one piece. -/
theorem ParseG (s : ByteArray) (w : World) (hg : Tk.Glob w) (hs : s.size ≤ 1000000) :
    Ret Tryz.prog 8 [.string s] w fun v w' => Kp No w w' ∧ ∃ (ux us uf : Value) (S : PS) (a e : Int), v = .tuple #[.agg #[ux, us, uf], .int .i64 a, .int .i64 e] ∧ Tr w' ux us uf S ∧
      ((prs (B s) = .ok () S ∧ a = 0 ∧ e = 0 ∧ S.fn ≠ []) ∨ (prs (B s) = .er e a ∧ S = ⟨0, [], [], []⟩ ∧ e ≠ 0 ∧ 0 ≤ a ∧ a ≤ (s.size : Int))) := by
  refine (ParseF s w hg hs).mono ?_
  rintro v w' ⟨k, h⟩
  refine ⟨k, ?_⟩
  obtain ⟨R, hR⟩ : ∃ R, prs (B s) = R := ⟨_, rfl⟩
  rw [hR] at h ⊢
  cases R with
  | ok x S =>
    obtain ⟨ux, us, uf, rfl, ht⟩ := h
    exact ⟨ux, us, uf, S, 0, 0, rfl, ht, .inl ⟨rfl, rfl, rfl, prs_fn hR⟩⟩
  | er c p =>
    have h : v = .tuple #[.agg #[nilS, nilS, nilS], .int .i64 p, .int .i64 c] := h
    subst h
    obtain ⟨h1, h2, h3⟩ := prs_er hR
    rw [B_len] at h3
    exact ⟨nilS, nilS, nilS, ⟨0, [], [], []⟩, p, c, rfl, Tr.nil0, .inr ⟨rfl, rfl, h1, h2, h3⟩⟩
  | out => exact h.elim
end Go.Proofs.YtfnbgbeinmekgaaGreatDoor.Sy
namespace Go.Proofs.YtfnbgbeinmekgaaGreatDoor
open Go Go.RowKit Fw Nu Sy Pt
set_option linter.unusedVariables false
set_option maxRecDepth 20000
namespace Pr
def awakeS : ByteArray := ⟨#[102, 117, 110, 99, 32, 102, 40, 120, 41, 32, 123, 32, 112, 114, 105, 110, 116, 32, 40, 49, 43, 50, 41, 42, 45, 120, 59, 32, 125]⟩
def awakeP : List F := [⟨[102], [[120]], 4, .cons (.prn (.pr [42] (.pr [43] (.num 1) (.num 2)) (.un [45] (.nm [120])))) .nil⟩]
def awakeO : ByteArray := ⟨#[102, 117, 110, 99, 32, 102, 40, 120, 41, 32, 123, 10, 32, 32, 112, 114, 105, 110, 116, 32, 40, 49, 32, 43, 32, 50, 41, 32, 42, 32, 45, 120, 59, 10, 125, 10]⟩
def awakeT : Bool := match prs (B awakeS) with | .ok _ S => decide (S.ex.map bx = pX 0 awakeP ∧ S.st.map bs = pS 0 0 awakeP ∧ S.fn.map bf = pF 0 awakeP ∧ S.fn.length ≤ 32) | _ => false
theorem awake_ok : awakeT = true := by decide +kernel
theorem awake_out : tP awakeP = B awakeO := by decide +kernel
theorem nm_dec {w : List Int} (h : (decide (Tk.body w = (true, 1, w.length)) && decide (w.length ≤ 20000)) = true) : NmW w := by
  simpa [NmW] using h
theorem awake_wf : ∀ f ∈ awakeP, wfF f := by
  intro f hf
  obtain rfl := List.mem_singleton.1 hf
  refine ⟨nm_dec (by decide +kernel), fun p hp => ?_, by decide, .inr rfl, rfl, ?_, ?_⟩
  · obtain rfl := List.mem_singleton.1 hp
    exact nm_dec (by decide +kernel)
  · exact ⟨rfl, rfl, ⟨rfl, ⟨4, by decide, by decide⟩, rfl, rfl, ⟨⟨3, by decide, by decide⟩, rfl, rfl, ⟨by decide, by show Tk.body _ = _; decide +kernel⟩, ⟨by decide, by show Tk.body _ = _; decide +kernel⟩⟩, .inl rfl, rfl, nm_dec (by decide +kernel)⟩, trivial⟩
  · exact ⟨by show (1 : Int) + ((dp (.pr [42] (.pr [43] (.num 1) (.num 2)) (.un [45] (.nm [120]))) : Nat) : Int) ≤ 64; decide, trivial⟩
/-- What all laws know. -/
structure GG (w : World) : Prop where
  tk : Tk.Glob w
  pr : Glob w
theorem GG.kp {w w' : World} (h : GG w) (k : Kp No w w') : GG w' := ⟨h.tk.kp k, h.pr.kp k⟩
theorem awakeF (w : World) (hg : GG w) : Ret Tryz.prog 7 [] w fun v w1 => v = .bool true ∧ Kp No w w1 := by
  have ha := awake_ok
  unfold awakeT at ha
  refine ret_enter Tryz.func7 rfl Tryz.ntmps7 rfl ?_
  (repeat refine Zr ?_)
  refine s_call (us := []) (zs := []) (by kernel_rfl) rfl rfl (ParseG awakeS w hg.tk (by decide)) ?_
  rintro _ w1 ⟨k1, ux, us, uf, S, a, e, rfl, ht, hp⟩
  rcases hp.symm with ⟨hq, _⟩ | ⟨hq, ea, ee, _⟩
  · rw [hq] at ha; cases ha
  subst ea ee
  have hsm := prs_small hq
  rw [hq] at ha
  simp only [decide_eq_true_eq] at ha
  obtain ⟨h1, h2, h3, h4⟩ := ha
  have hI : Is S awakeP := ⟨h1, h2, h3, awake_wf, h4⟩
  have hlB : (B awakeS).length = 29 := rfl
  obtain ⟨xa, sa, fa, xc, sc, fc, rfl, rfl, rfl⟩ := ht.val
  (repeat refine Zr ?_)
  refine s_al rfl (fun b w2 n2 => ?_)
  refine s_st (vs := [.slice xa S.ex.length xc, .slice sa S.st.length sc, .slice fa S.fn.length fc]) rfl rfl rfl rfl rfl n2.blk (Nat.le_of_ble_eq_true rfl) (fun w3 s3 => ?_)
  have k3 : Kp No w1 w3 := n2.kp.trans s3.kp fun i hi e => by have := n2.ge; omega
  have hb : w3.heap[b]? = some (.cells [.slice xa S.ex.length xc, .slice sa S.st.length sc, .slice fa S.fn.length fc].toArray 27 (0, 0)) := s3.blk
  (repeat refine Zr ?_)
  refine s_set 11 true rfl rfl ?_
  refine s_gv rfl (r_lwb rfl hb rfl rfl) ?_
  refine s_gcall (us := []) (zs := []) rfl (by kernel_rfl) rfl rfl (PrintF hI (by decide) _ _ _ w3 (hg.pr.kp (k1.no k3)) (ht.kp k3) (by omega) (by omega)) ?_
  rintro _ w4 ⟨⟨s, rfl, hB⟩, k4⟩
  rw [awake_out] at hB
  obtain rfl := B_inj hB
  (repeat (first | refine Zr ?_ | refine Zn ?_ | refine Zu ?_ | refine Zg ?_))
  refine ret_1 rfl rfl ⟨congrArg Value.bool ?_, (k1.no k3).no k4⟩
  rw [str_eq]; exact decide_eq_true rfl
end Pr
end Go.Proofs.YtfnbgbeinmekgaaGreatDoor
namespace Go.Proofs.YtfnbgbeinmekgaaGreatDoor.Pt
open Go Sy Nu
set_option linter.unusedVariables false
/-- How many blanks a line begins with. -/
def lead : List Int → Nat
  | [] => 0
  | c :: r => if c = 32 then lead r + 1 else 0
theorem lead_le : ∀ l : List Int, lead l ≤ l.length := by
  intro l
  induction l with
  | nil => exact Nat.le_refl _
  | cons c r ih => unfold lead; split <;> simp only [List.length_cons] <;> omega
/-- What a line makes of a depth, if it may stand there. -/
def lineOk (deep : Int) (l : List Int) : Option Int :=
  if lead l = l.length then none
  else if (lead l : Int) ≠ 2 * (if l[lead l]? = some 125 then deep - 1 else deep) then none
  else some (if l.getLast? = some 123 then (if l[lead l]? = some 125 then deep - 1 else deep) + 1 else (if l[lead l]? = some 125 then deep - 1 else deep))
/-- Line by line: the depth, and the line that is begun. -/
def scan : Int → List Int → List Int → Option (Int × List Int)
  | d, p, [] => some (d, p)
  | d, p, c :: r => if c = 10 then (match lineOk d p with | none => none | some d' => scan d' [] r) else scan d (p ++ [c]) r
theorem scan_app : ∀ (a b : List Int) (d : Int) (p : List Int), scan d p (a ++ b) = (scan d p a).bind fun x => scan x.1 x.2 b := by
  intro a
  induction a with
  | nil => intro b d p; rfl
  | cons c r ih =>
    intro b d p
    simp only [List.cons_append, scan]
    split
    · cases lineOk d p with
      | none => rfl
      | some d' => exact ih b d' []
    · exact ih b d (p ++ [c])
def No10 (l : List Int) : Prop := ∀ c ∈ l, c ≠ 10
theorem scan_no : ∀ (a : List Int) (d : Int) (p : List Int), No10 a → scan d p a = some (d, p ++ a) := by
  intro a
  induction a with
  | nil => intro d p _; simp [scan]
  | cons c r ih =>
    intro d p h
    unfold scan
    rw [if_neg (h c (by simp)), ih d (p ++ [c]) fun x hx => h x (by simp [hx])]
    simp
theorem scan_nl {d d' : Int} {p : List Int} (h : lineOk d p = some d') (r : List Int) : scan d p (10 :: r) = scan d' [] r := by
  show (if (10 : Int) = 10 then (match lineOk d p with | none => none | some d' => scan d' [] r) else scan d (p ++ [10]) r) = _
  rw [if_pos rfl, h]
theorem no_app {A C : List Int} (h : No10 A) (h' : No10 C) : No10 (A ++ C) := fun c hc => (List.mem_append.1 hc).elim (h c) (h' c)
theorem no_cons {c : Int} {C : List Int} (h : c ≠ 10) (h' : No10 C) : No10 (c :: C) := fun x hx => (List.mem_cons.1 hx).elim (fun e => e ▸ h) (h' x)
theorem no_lit {l : List Int} (h : (l.all fun c => decide (c ≠ 10)) = true) : No10 l := fun c hc => by
  have := List.all_eq_true.1 h c hc
  simpa using this
theorem no_bl (d : Nat) : No10 (bl d) := fun c hc => by have := (List.mem_replicate.1 hc).2; omega
theorem nm_no {w : List Int} (h : NmW w) : No10 w := fun c hc => by have := eith_in (nm_eith h c hc); omega
theorem dc_no (n : Int) : No10 (dc n) := fun c hc => by have := dc_chars n c hc; omega
theorem no_br {t : List Int} (b : Bool) (h : No10 t) : No10 (br b t) := by
  cases b
  · exact h
  · exact no_cons (by omega) (no_app h (no_lit rfl))
theorem eT_no : ∀ x : X, wf x → No10 (eT x) := by
  intro x
  induction x with
  | num n => intro _; exact dc_no n
  | tt => intro _; exact no_lit rfl
  | ff => intro _; exact no_lit rfl
  | rd => intro _; exact no_lit rfl
  | nm w => intro h; exact nm_no h
  | idx w a ih => intro h; exact no_app (nm_no h.1) (no_cons (by omega) (no_app (ih h.2.2) (no_lit rfl)))
  | call w l ih => intro h; exact no_app (nm_no h.1) (no_cons (by omega) (no_app (ih h.2.2) (no_lit rfl)))
  | un op a ih => intro h; exact no_app (by rcases h.1 with rfl | rfl <;> exact no_lit rfl) (no_br _ (ih h.2.2))
  | pr op a b iha ihb =>
    intro h
    obtain ⟨⟨v, hv, ho⟩, h1, h2, h3, h4⟩ := h
    have : No10 op := by
      have : ∀ v ∈ List.range 5, ∀ op ∈ sgs v, ∀ c ∈ op, c ≠ 10 := by decide
      exact this v (by simp; omega) _ ho
    exact no_app (no_br _ (iha h3)) (no_cons (by omega) (no_app this (no_cons (by omega) (no_br _ (ihb h4)))))
  | nil => intro _; exact no_lit rfl
  | cons x l ihx ihl =>
    intro h
    exact no_app (ihx h.2.2.1) (no_app (by cases l <;> exact no_lit rfl) (ihl h.2.2.2))
theorem lead_bl : ∀ (n : Nat) (c : Int) (r : List Int), c ≠ 32 → lead (List.replicate n 32 ++ c :: r) = n := by
  intro n c r hc
  induction n with
  | zero => unfold lead; exact if_neg hc
  | succ n ih => rw [List.replicate_succ, List.cons_append]; unfold lead; rw [if_pos rfl, ih]
theorem at_bl (n : Nat) (c : Int) (r : List Int) : (List.replicate n 32 ++ c :: r)[n]? = some c := by
  rw [List.getElem?_append_right (by simp)]; simp
theorem last_app (a : List Int) (c : Int) (r : List Int) : (a ++ c :: r).getLast? = (c :: r).getLast? := by
  rw [List.getLast?_append]
  cases h : (c :: r).getLast? with
  | none => simp at h
  | some x => simp
theorem lineOk_a (d : Nat) (c : Int) (r : List Int) (h1 : c ≠ 32) (h2 : c ≠ 125) : lineOk d (bl d ++ c :: r) = some (if (c :: r).getLast? = some 123 then (d : Int) + 1 else d) := by
  unfold lineOk bl
  rw [lead_bl _ _ _ h1, at_bl, last_app]
  have e : ¬ (2 * d = (List.replicate (2 * d) (32 : Int) ++ c :: r).length) := by simp
  have e2 : ¬ (some c = some (125 : Int)) := by simpa using h2
  rw [if_neg e, if_neg e2, if_neg (by omega)]
theorem lineOk_b (d : Nat) (r : List Int) : lineOk ((d : Int) + 1) (bl d ++ 125 :: r) = some (if (125 :: r).getLast? = some 123 then (d : Int) + 1 else d) := by
  unfold lineOk bl
  rw [lead_bl _ _ _ (by omega), at_bl, last_app]
  have e : ¬ (2 * d = (List.replicate (2 * d) (32 : Int) ++ 125 :: r).length) := by simp
  rw [if_neg e, if_pos rfl, if_neg (by omega)]
  congr 1
  split <;> omega
/-- What a statement may stand behind on its line. -/
def Pre (p : List Int) (D : Int) (d : Nat) : Prop := (p = bl d ∧ D = d) ∨ ∃ q, p = bl d ++ 125 :: q ∧ D = (d : Int) + 1
theorem Pre.ok {p : List Int} {D : Int} {d : Nat} (h : Pre p D d) {c : Int} {r : List Int} (h1 : c ≠ 32) (h2 : c ≠ 125) : lineOk D (p ++ c :: r) = some (if (c :: r).getLast? = some 123 then (d : Int) + 1 else d) := by
  rcases h with ⟨rfl, rfl⟩ | ⟨q, rfl, rfl⟩
  · exact lineOk_a d c r h1 h2
  · rw [List.append_assoc, List.cons_append, lineOk_b]
    rw [show (125 :: (q ++ c :: r)) = (125 :: q) ++ c :: r from rfl, last_app]
theorem nm_c {w : List Int} (h : NmW w) : ∃ c r, w = c :: r ∧ c ≠ 32 ∧ c ≠ 125 := by
  obtain ⟨c, r, rfl, _⟩ := nm_hd h
  have h1 := nm_eith h c (by simp)
  have h2 := eith_in h1
  exact ⟨c, r, rfl, by omega, by omega⟩
/-- A line that goes on to its end. -/
def Ends (s : List Int) (d : Nat) : Prop := ∀ p D, Pre p D d → ∃ p' D', scan D p s = some (D', p') ∧ lineOk D' p' = some (d : Int)
theorem ends_of {s : List Int} {d : Nat} {c : Int} {r : List Int} (h : s = c :: r) (h1 : c ≠ 32) (h2 : c ≠ 125) (hn : No10 s) (hl : s.getLast? ≠ some 123) : Ends s d := fun p D hp => by
  refine ⟨p ++ s, D, scan_no s D p hn, ?_⟩
  rw [h] at hl ⊢
  rw [hp.ok h1 h2, if_neg hl]
theorem last_59 (a : List Int) : (a ++ [59]).getLast? = some (59 : Int) := by simp
/-- A block behind the beginning of a line. -/
theorem blk_scan {t h : List Int} {d : Nat} (ht : scan ((d : Int) + 1) [] t = some ((d : Int) + 1, [])) {c : Int} {r : List Int} (he : h = c :: r) (h1 : c ≠ 32) (h2 : c ≠ 125) (hn : No10 h) {p : List Int} {D : Int} (hp : Pre p D d) : scan D p (h ++ blk d t) = some ((d : Int) + 1, bl d ++ [125]) := by
  have e : h ++ blk d t = (h ++ [123]) ++ (10 :: (t ++ (bl d ++ [125]))) := by simp [blk]
  rw [e, scan_app, scan_no _ _ _ (no_app hn (no_lit rfl)), Option.bind_some]
  simp only
  have hl : lineOk D (p ++ (h ++ [123])) = some ((d : Int) + 1) := by
    rw [he, List.cons_append, hp.ok h1 h2]
    have : (c :: (r ++ [123])).getLast? = some 123 := by rw [show c :: (r ++ [123]) = (c :: r) ++ [123] from rfl, List.getLast?_append]; rfl
    rw [if_pos this]
  rw [scan_nl hl, scan_app, ht, Option.bind_some]
  simp only
  rw [scan_no _ _ _ (no_app (no_bl d) (no_lit rfl))]
  simp
theorem tabsY : ∀ (y : Y) (d : Nat), wfY y → (isY y = true → Ends (tY y false d) d) ∧ (isY y = false → scan d [] (tY y false d) = some ((d : Int), [])) ∧ (isEI y = true → Ends (tY y true d) d) := by
  have kwd : ∀ {k : List Int} {c : Int} {r t : List Int} {d : Nat}, k = c :: r → c ≠ 32 → c ≠ 125 → No10 k → No10 t → Ends (k ++ (t ++ [59])) d := fun {k c r t d} e h1 h2 h3 h4 => by
    refine ends_of (c := c) (r := r ++ (t ++ [59])) (by rw [e]; rfl) h1 h2 (no_app h3 (no_app h4 (no_lit rfl))) ?_
    rw [← List.append_assoc, last_59]; decide
  intro y
  induction y with
  | svar w x =>
    intro d h
    refine ⟨fun _ => ?_, fun h => (by cases h), fun h => (by cases h)⟩
    have := kwd (d := d) (k := wVar) (t := 32 :: (w ++ 32 :: 61 :: 32 :: eT x)) rfl (by decide) (by decide) (no_lit rfl) (no_cons (by omega) (no_app (nm_no h.1) (no_cons (by omega) (no_cons (by omega) (no_cons (by omega) (eT_no x h.2.2))))))
    simpa [tY] using this
  | sarr w n =>
    intro d h
    refine ⟨fun _ => ?_, fun h => (by cases h), fun h => (by cases h)⟩
    have := kwd (d := d) (k := wVar) (t := 32 :: (w ++ 91 :: (dc n ++ [93]))) rfl (by decide) (by decide) (no_lit rfl) (no_cons (by omega) (no_app (nm_no h.1) (no_cons (by omega) (no_app (dc_no n) (no_lit rfl)))))
    simpa [tY] using this
  | sset w x =>
    intro d h
    refine ⟨fun _ => ?_, fun h => (by cases h), fun h => (by cases h)⟩
    obtain ⟨c, r, e, h1, h2⟩ := nm_c h.1
    have := kwd (d := d) (k := w) (t := 32 :: 61 :: 32 :: eT x) e h1 h2 (nm_no h.1) (no_cons (by omega) (no_cons (by omega) (no_cons (by omega) (eT_no x h.2.2))))
    simpa [tY] using this
  | sput w x y =>
    intro d h
    refine ⟨fun _ => ?_, fun h => (by cases h), fun h => (by cases h)⟩
    obtain ⟨c, r, e, h1, h2⟩ := nm_c h.1
    have := kwd (d := d) (k := w) (t := 91 :: (eT x ++ 93 :: 32 :: 61 :: 32 :: eT y)) e h1 h2 (nm_no h.1) (no_cons (by omega) (no_app (eT_no x h.2.2.1) (no_cons (by omega) (no_cons (by omega) (no_cons (by omega) (no_cons (by omega) (eT_no y h.2.2.2.2)))))))
    simpa [tY] using this
  | sif x th el iha ihb =>
    intro d h
    refine ⟨fun _ p D hp => ?_, fun h => (by cases h), fun h => (by cases h)⟩
    have ha := (iha (d + 1) h.2.2.2.1).2.1 h.2.2.1
    have ha : scan ((d : Int) + 1) [] (tY th false (d + 1)) = some ((d : Int) + 1, []) := ha
    have hx := eT_no x h.2.1
    have s1 := blk_scan ha (h := wIf ++ 32 :: (eT x ++ [32])) (c := 105) (r := 102 :: 32 :: (eT x ++ [32])) rfl (by decide) (by decide) (no_app (no_lit rfl) (no_cons (by omega) (no_app hx (no_lit rfl)))) hp
    have e : tY (.sif x th el) false d = ((wIf ++ 32 :: (eT x ++ [32])) ++ blk d (tY th false (d + 1))) ++ (if isN el then [] else 32 :: (wElse ++ 32 :: if isEI el then tY el true d else blk d (tY el false (d + 1)))) := by simp [tY]
    rw [e, scan_app, s1, Option.bind_some]
    simp only
    have ok : lineOk ((d : Int) + 1) (bl d ++ [125]) = some (d : Int) := lineOk_b d []
    split
    · exact ⟨_, _, rfl, ok⟩
    · have hp2 : Pre ((bl d ++ [125]) ++ 32 :: (wElse ++ [32])) ((d : Int) + 1) d := .inr ⟨32 :: (wElse ++ [32]), by simp, rfl⟩
      have hn2 : No10 (32 :: (wElse ++ [32])) := no_lit rfl
      have e2 : ∀ T : List Int, (32 :: (wElse ++ 32 :: T)) = (32 :: (wElse ++ [32])) ++ T := fun T => by simp
      rw [e2, scan_app, scan_no _ _ _ hn2, Option.bind_some]
      simp only
      split
      · rename_i hei
        exact (ihb d h.2.2.2.2.2).2.2 hei _ _ hp2
      · have hb : scan ((d : Int) + 1) [] (tY el false (d + 1)) = some ((d : Int) + 1, []) := (ihb (d + 1) h.2.2.2.2.2).2.1 h.2.2.2.2.1
        have hp3 : Pre ((bl d ++ [125]) ++ 32 :: wElse) ((d : Int) + 1) d := .inr ⟨32 :: wElse, by simp, rfl⟩
        -- the bracket stands behind the blank
        have e3 : blk d (tY el false (d + 1)) = [123] ++ (10 :: (tY el false (d + 1) ++ (bl d ++ [125]))) := rfl
        rw [e3, scan_app, scan_no _ _ _ (no_lit rfl), Option.bind_some]
        simp only
        have hl : lineOk ((d : Int) + 1) (((bl d ++ [125]) ++ 32 :: (wElse ++ [32])) ++ [123]) = some ((d : Int) + 1) := by
          rw [hp2.ok (c := 123) (r := []) (by decide) (by decide)]; rfl
        rw [scan_nl hl, scan_app, hb, Option.bind_some]
        simp only
        rw [scan_no _ _ _ (no_app (no_bl d) (no_lit rfl))]
        exact ⟨_, _, rfl, by rw [List.nil_append]; exact ok⟩
  | swh x th iha =>
    intro d h
    refine ⟨fun _ p D hp => ?_, fun h => (by cases h), fun h => (by cases h)⟩
    have ha : scan ((d : Int) + 1) [] (tY th false (d + 1)) = some ((d : Int) + 1, []) := (iha (d + 1) h.2.2.2).2.1 h.2.2.1
    have hx := eT_no x h.2.1
    have s1 := blk_scan ha (h := wWhile ++ 32 :: (eT x ++ [32])) (c := 119) (r := 104 :: 105 :: 108 :: 101 :: 32 :: (eT x ++ [32])) rfl (by decide) (by decide) (no_app (no_lit rfl) (no_cons (by omega) (no_app hx (no_lit rfl)))) hp
    have e : tY (.swh x th) false d = (wWhile ++ 32 :: (eT x ++ [32])) ++ blk d (tY th false (d + 1)) := by simp [tY]
    rw [e, s1]
    exact ⟨_, _, rfl, lineOk_b d []⟩
  | brk => intro d h; exact ⟨fun _ => kwd (k := wBreak) (t := []) rfl (by decide) (by decide) (no_lit rfl) (no_lit rfl), fun h => (by cases h), fun h => (by cases h)⟩
  | cnt => intro d h; exact ⟨fun _ => kwd (k := wCont) (t := []) rfl (by decide) (by decide) (no_lit rfl) (no_lit rfl), fun h => (by cases h), fun h => (by cases h)⟩
  | ret0 => intro d h; exact ⟨fun _ => kwd (k := wReturn) (t := []) rfl (by decide) (by decide) (no_lit rfl) (no_lit rfl), fun h => (by cases h), fun h => (by cases h)⟩
  | ret x => intro d h; exact ⟨fun _ => kwd (k := wReturn) (t := 32 :: eT x) rfl (by decide) (by decide) (no_lit rfl) (no_cons (by omega) (eT_no x h.2)), fun h => (by cases h), fun h => (by cases h)⟩
  | prn x => intro d h; exact ⟨fun _ => kwd (k := wPrint) (t := 32 :: eT x) rfl (by decide) (by decide) (no_lit rfl) (no_cons (by omega) (eT_no x h.2)), fun h => (by cases h), fun h => (by cases h)⟩
  | scl x =>
    intro d h
    refine ⟨fun _ => ?_, fun h => (by cases h), fun h => (by cases h)⟩
    cases x with
    | call w l =>
      obtain ⟨c, r, e, h1, h2⟩ := nm_c h.2.1
      have hn : No10 (eT (.call w l)) := eT_no _ h.2
      have hn2 : No10 (40 :: (eT l ++ [41])) := fun c hc => hn c (by show c ∈ w ++ _; simp at hc ⊢; exact .inr hc)
      have := kwd (d := d) (k := w) (t := 40 :: (eT l ++ [41])) e h1 h2 (nm_no h.2.1) hn2
      simpa [tY, eT] using this
    | _ => exact absurd h.1 (by simp [isC])
  | nil => intro d _; exact ⟨fun h => (by cases h), fun _ => rfl, fun h => (by cases h)⟩
  | cons s l ihs ihl =>
    intro d h
    refine ⟨fun h => (by cases h), fun _ => ?_, fun hei => ?_⟩
    · obtain ⟨p', D', e1, e2⟩ := (ihs d h.2.2.1).1 h.1 (bl d) d (.inl ⟨rfl, rfl⟩)
      have e : tY (.cons s l) false d = bl d ++ (tY s false d ++ 10 :: tY l false d) := rfl
      rw [e, scan_app, scan_no _ _ _ (no_bl d), Option.bind_some]
      simp only
      rw [List.nil_append, scan_app, e1, Option.bind_some]
      simp only
      rw [scan_nl e2]
      exact (ihl d h.2.2.2).2.1 h.2.1
    · exact (ihs d h.2.2.1).1 h.1
theorem scan_step {T : List Int} {r : Int × List Int} (h : scan 0 [] T = some r) {i : Nat} {c : Int} (hc : T[i]? = some c) {d : Int} {p : List Int} (hi : scan 0 [] (T.take i) = some (d, p)) :
    (c ≠ 10 → scan 0 [] (T.take (i + 1)) = some (d, p ++ [c])) ∧ (c = 10 → ∃ d', lineOk d p = some d' ∧ scan 0 [] (T.take (i + 1)) = some (d', [])) := by
  have e : T.take (i + 1) = T.take i ++ [c] := by rw [List.take_add_one, hc]; rfl
  have e1 : scan 0 [] (T.take (i + 1)) = scan d p [c] := by rw [e, scan_app, hi]; rfl
  refine ⟨fun hn => ?_, fun hn => ?_⟩
  · rw [e1]; unfold scan; rw [if_neg hn]; rfl
  · subst hn
    have h2 : scan 0 [] T = (scan 0 [] (T.take (i + 1))).bind fun x => scan x.1 x.2 (T.drop (i + 1)) := by
      rw [← scan_app, List.take_append_drop]
    cases hl : lineOk d p with
    | none =>
      exfalso
      have e2 : scan d p [10] = none := by
        show (if (10 : Int) = 10 then (match lineOk d p with | none => none | some d' => scan d' [] []) else scan d (p ++ [10]) []) = _
        rw [if_pos rfl, hl]
      rw [e1, e2, h] at h2
      cases h2
    | some d' => exact ⟨d', rfl, by rw [e1, scan_nl hl]; rfl⟩
theorem lineOk_inv {d d' : Int} {p : List Int} (h : lineOk d p = some d') : lead p < p.length ∧ (lead p : Int) = 2 * (if p[lead p]? = some 125 then d - 1 else d) ∧ d' = (if p.getLast? = some 123 then (if p[lead p]? = some 125 then d - 1 else d) + 1 else (if p[lead p]? = some 125 then d - 1 else d)) := by
  unfold lineOk at h
  have hl := lead_le p
  split at h
  · cases h
  rename_i h1
  by_cases h2 : (lead p : Int) = 2 * (if p[lead p]? = some 125 then d - 1 else d)
  · rw [if_neg (fun h => h h2)] at h
    cases h
    exact ⟨by omega, h2, rfl⟩
  · rw [if_pos h2] at h; cases h
theorem lead_at : ∀ (p : List Int) (n : Nat), n < lead p → p[n]? = some 32 := by
  intro p
  induction p with
  | nil => intro n h; cases h
  | cons c r ih =>
    intro n h
    unfold lead at h
    split at h
    · rename_i hc
      cases n with
      | zero => simp [hc]
      | succ n => simpa using ih n (by omega)
    · cases h
theorem lead_no : ∀ p : List Int, p[lead p]? ≠ some 32 := by
  intro p
  induction p with
  | nil => simp [lead]
  | cons c r ih =>
    unfold lead
    split
    · simpa using ih
    · rename_i hc; simpa using hc
theorem jn_no : ∀ ps : List (List Int), (∀ p ∈ ps, No10 p) → No10 (jnP ps) := by
  intro ps
  induction ps with
  | nil => intro _; exact no_lit rfl
  | cons p r ih =>
    intro h
    cases r with
    | nil => exact h p (by simp)
    | cons q r => exact no_app (h p (by simp)) (no_cons (by omega) (no_cons (by omega) (ih fun x hx => h x (by simp [hx]))))
theorem tabsF {f : F} (h : wfF f) : scan 0 [] (tF f) = some (0, []) := by
  have hb : scan ((0 : Nat) + 1 : Int) [] (tY f.bd false 1) = some (((0 : Nat) : Int) + 1, []) := (tabsY f.bd 1 h.wf).2.1 h.is
  obtain ⟨H, hH⟩ : ∃ H, wFunc ++ 32 :: (f.nm ++ 40 :: (jnP f.ps ++ 41 :: 32 :: (if f.ty = 1 then wInt ++ [32] else []))) = H := ⟨_, rfl⟩
  have hn : No10 H := by
    rw [← hH]
    exact no_app (no_lit rfl) (no_cons (by omega) (no_app (nm_no h.nm) (no_cons (by omega) (no_app (jn_no f.ps fun p hp => nm_no (h.ps p hp)) (no_cons (by omega) (no_cons (by omega) (by split <;> exact no_lit rfl)))))))
  have s1 := blk_scan hb (h := H) (c := 102) (r := H.tail) (by rw [← hH]; rfl) (by decide) (by decide) hn (p := []) (D := ((0 : Nat) : Int)) (.inl ⟨rfl, rfl⟩)
  have e : tF f = (H ++ blk 0 (tY f.bd false 1)) ++ [10] := by rw [← hH]; simp [tF]
  rw [e, scan_app]
  have s1 : scan 0 [] (H ++ blk 0 (tY f.bd false 1)) = some (1, [125]) := s1
  rw [s1]
  decide
/-- A program's text, line by line. -/
theorem tabsP : ∀ fs : List F, (∀ f ∈ fs, wfF f) → scan 0 [] (tP fs) = some (0, []) := by
  intro fs
  induction fs with
  | nil => intro _; rfl
  | cons f r ih =>
    intro h
    have e : tP (f :: r) = tF f ++ tP r := rfl
    rw [e, scan_app, tabsF (h f (by simp)), Option.bind_some]
    exact ih fun g hg => h g (by simp [hg])
end Go.Proofs.YtfnbgbeinmekgaaGreatDoor.Pt
