/- Texts as lists of their bytes, and the functions of Go's library without a Go body. -/
import Derived.Test.YtlkipdfipaipbaaDoorFv
import Derived.Lib.Bytealg
import Derived.Lib.Slices
namespace Go.Proofs.YtlkipdfipaipbaaDoor.Fw
open Go Go.RowKit
set_option linter.unusedSimpArgs false
set_option linter.unusedVariables false
/-- A text's bytes. -/
def B (s : ByteArray) : List Int := s.data.toList.map fun b => (b.toNat : Int)
theorem B_len (s : ByteArray) : (B s).length = s.size := by
  rw [B, List.length_map, Array.length_toList]; rfl
theorem B_range {s : ByteArray} {c : Int} (h : c ∈ B s) : 0 ≤ c ∧ c < 256 := by
  simp only [B, List.mem_map] at h
  obtain ⟨b, _, rfl⟩ := h
  have := b.toNat_lt
  omega
theorem B_get {s : ByteArray} {i : Nat} {c : Int} (h : (B s)[i]? = some c) : bt s i = c := by
  simp only [B, List.getElem?_map, Option.map_eq_some_iff] at h
  obtain ⟨b, h1, rfl⟩ := h
  simp only [bt, Int.toNat_natCast]
  rw [← Array.getElem?_toList, h1]
  rfl
theorem B_at (s : ByteArray) (i : Nat) (h : i < s.size) : (B s)[i]? = some (bt s i) := by
  obtain ⟨c, hc⟩ : ∃ c, (B s)[i]? = some c := ⟨_, List.getElem?_eq_getElem (by rw [B_len]; exact h)⟩
  rw [hc, B_get hc]
theorem B_extract (s : ByteArray) (i j : Nat) : B (s.extract i j) = ((B s).take j).drop i := by
  rw [B, ByteArray.data_extract, Array.toList_extract, List.extract_eq_take_drop, List.map_take, List.map_drop, ← B, List.drop_take]
theorem B_append (a b : ByteArray) : B (a ++ b) = B a ++ B b := by simp [B, ByteArray.data_append]
theorem B_inj {a b : ByteArray} (h : B a = B b) : a = b := by
  have h1 : a.data.toList = b.data.toList := by
    refine List.map_inj_right (f := fun b : UInt8 => (b.toNat : Int)) ?_ |>.1 h
    intro x y e
    exact UInt8.toNat_inj.1 (by omega)
  cases a with | mk a => cases b with | mk b => simp at h1; rw [h1]
theorem str_eq (a b : ByteArray) : (a.toList == b.toList) = decide (B a = B b) := by
  by_cases h : a = b
  · subst h; simp
  · have h1 : B a ≠ B b := fun e => h (B_inj e)
    have h2 : a.toList ≠ b.toList := fun e => by
      rw [Lib.toList_data, Lib.toList_data] at e
      exact h1 (by rw [B, B, e])
    simp [h1, h2]
theorem str_eq' (a b : ByteArray) : (a.toList == b.toList) = decide (a = b) := by
  rw [str_eq]
  by_cases h : a = b
  · simp [h]
  · have h1 : B a ≠ B b := fun e => h (B_inj e)
    simp [h, h1]
theorem B_data (s : ByteArray) : s.data.toList = (B s).map fun c => c.toNat.toUInt8 := by
  rw [B, List.map_map]
  have : ((fun c : Int => c.toNat.toUInt8) ∘ fun b : UInt8 => (b.toNat : Int)) = id := by
    funext b; simp
  rw [this, List.map_id]
section
variable {P : Program} {w : World} {ρ : Operand → Value} {dst : Option Tmp} {ty : TypeId} {pos : String} {af : Array Edge} {g : Option (Nat × Bool)} {v : Value}
/-- A call of a function without a Go body, at the model's own entry. -/
theorem r_xt {f : FuncId} {fn : Func} {e : Array Value → Sem Value} {c : Operand} {xs : List Operand} {vs : List Value} {ats : Array TypeId} {w' : World} (hf : P.funcs[f]? = some fn) (hname : (fn.name == "runtime.NumGoroutine") = false)
    (hb : fn.body.isNone = true) (hn : Extern.findNext fn = none) (he : Extern.find fn = some e) (hc : ρ c = .func (.func f) #[] #[]) (hxs : evs ρ xs = some vs) (hr : (e vs.toArray).run P w = .ok v w') :
    Rn P ρ ⟨dst, .call ⟨.value c, xs.toArray, ats⟩, ty, pos, af, g⟩ w (.ok (.value v) w') := by
  refine ⟨?_⟩
  simp only [execOp, resolve, Sem.run_bind, hc, Deferred.ofValue, Sem.run_pure, Result.andThen_ok, invoke]
  rw [run_callFunc_extern hf hname hb hn he]
  have h1 := evs_eq hxs
  have h2 : (#[] ++ Array.map ρ xs.toArray ++ #[] : Array Value) = vs.toArray := by simp [← h1]
  rw [h2, hr]
  rfl
end
/-! ### results that lie in memory -/
/-- What one result reads as. -/
def rvS (tmps : Array Value) : ResultVar → Sem Value
  | .tmp t => pure (tmps.getD t undef)
  | .cell a t => do loadVar t (← asAddr (tmps.getD a undef))
structure Rv (P : Program) (w : World) (n : Nat) (l : Slots) (r : ResultVar) (v : Value) : Prop where
  eq : (rvS (fr n l) r).run P w = .ok v w
section
variable {P : Program} {w : World} {n : Nat} {l : Slots}
theorem rv_t {t : Tmp} {v : Value} (h : mvv (lk n l t) = some v) : Rv P w n l (.tmp t) v := by
  refine ⟨?_⟩; rw [rvS, getD_fr, mvv_eq h]; rfl
theorem rv_ag {t : TypeId} {a : Tmp} {b o sz : Nat} {vs cs : List Value} {T : TypeId} {fz : Nat × Nat} (hx : lk n l a = .pointer (some ⟨b, o, none⟩)) (ht : aggT P t = some true) (hn : szT P t = some sz)
    (hb : w.heap[b]? = some (.cells cs.toArray T fz)) (hv : (cs.drop o).take sz = vs) (hl : vs.length = sz) : Rv P w n l (.cell a t) (.agg vs.toArray) := by
  refine ⟨?_⟩
  have hc : ∀ j, j < sz → w.cell? ⟨b, o + j, none⟩ = vs[j]? := fun j hj => by
    subst hv
    simp [World.cell?, hb, List.getElem?_take, hj, List.getElem?_drop]
  simp only [rvS, getD_fr, hx, asAddr, loadVar, run_aggT ht, run_szT hn, Sem.run_bind, Sem.run_pure, Result.andThen_ok, if_true, loadCells]
  rw [run_loadCells sz 0 #[] vs hl (by simpa using hc)]
  simp [Sem.run, pure]
theorem rv_1 {t : TypeId} {a : Tmp} {b o : Nat} {v : Value} (hx : lk n l a = .pointer (some ⟨b, o, none⟩)) (ht : aggT P t = some false) (hc : w.cell? ⟨b, o, none⟩ = some v) : Rv P w n l (.cell a t) v := by
  refine ⟨?_⟩
  simp only [rvS, getD_fr, hx, asAddr, loadVar, run_aggT ht, Sem.run_bind, Sem.run_pure, Result.andThen_ok, Bool.false_eq_true, if_false]
  rw [run_load, hc]
theorem results_eq (fn : Func) (tmps : Array Value) : results fn tmps = (do let vs ← fn.results.mapM (rvS tmps); pure (if h : vs.size = 1 then vs[0] else .tuple vs)) := by
  unfold results
  congr 1
def RvL (P : Program) (w : World) (n : Nat) (l : Slots) : List ResultVar → List Value → Prop
  | [], [] => True
  | r :: rs, v :: vs => Rv P w n l r v ∧ RvL P w n l rs vs
  | _, _ => False
theorem run_mapA : ∀ {rs : List ResultVar} {vs : List Value}, RvL P w n l rs vs → (rs.mapM (rvS (fr n l))).run P w = .ok vs w := by
  intro rs
  induction rs with
  | nil => intro vs h; cases vs with
    | nil => simp [Sem.run, pure]
    | cons => exact h.elim
  | cons r rs ih => intro vs h; cases vs with
    | nil => exact h.elim
    | cons v vs => simp only [List.mapM_cons, Sem.run_bind, h.1.eq, Result.andThen_ok, ih h.2, Sem.run_pure]
theorem run_mapAA {rs : List ResultVar} {vs : List Value} (h : RvL P w n l rs vs) : (rs.toArray.mapM (rvS (fr n l))).run P w = .ok vs.toArray w := by
  rw [List.mapM_toArray, ← bind_pure_comp, Sem.run_bind, run_mapA h]; rfl
theorem res_n {fn : Func} {rs : List ResultVar} {vs : List Value} (hr : fn.results = rs.toArray) (h1 : Nat.beq vs.length 1 = false) (h : RvL P w n l rs vs) : (results fn (fr n l)).run P w = .ok (.tuple vs.toArray) w := by
  have : ¬ vs.length = 1 := fun e => by simp [e] at h1
  rw [results_eq, hr, Sem.run_bind, run_mapAA h, Result.andThen_ok, dif_neg (by simpa using this)]
  rfl
theorem res_1 {fn : Func} {r : ResultVar} {v : Value} (hr : fn.results = #[r]) (h : Rv P w n l r v) : (results fn (fr n l)).run P w = .ok v w := by
  have : fn.results = [r].toArray := hr
  rw [results_eq, this, Sem.run_bind, run_mapAA (show RvL P w n l [r] [v] from ⟨h, trivial⟩)]
  rfl
variable {fn : Func} {R : Value → World → Prop}
theorem ret_c1 {r : ResultVar} {v : Value} (hr : fn.results = #[r]) (hv : Rv P w n l r v) (h : R v w) : Po (Fin P fn R) .ret n l [] w := post_ret (res_1 hr hv) h
theorem ret_c2 {r r' : ResultVar} {v v' : Value} (hr : fn.results = #[r, r']) (hv : Rv P w n l r v) (hv' : Rv P w n l r' v') (h : R (.tuple #[v, v']) w) : Po (Fin P fn R) .ret n l [] w :=
  post_ret (res_n (rs := [r, r']) (vs := [v, v']) hr rfl (show RvL P w n l [r, r'] [v, v'] from ⟨hv, hv', trivial⟩)) h
theorem ret_c3 {r r' r'' : ResultVar} {v v' v'' : Value} (hr : fn.results = #[r, r', r'']) (hv : Rv P w n l r v) (hv' : Rv P w n l r' v') (hv'' : Rv P w n l r'' v'') (h : R (.tuple #[v, v', v'']) w) : Po (Fin P fn R) .ret n l [] w :=
  post_ret (res_n (rs := [r, r', r'']) (vs := [v, v', v'']) hr rfl (show RvL P w n l [r, r', r''] [v, v', v''] from ⟨hv, hv', hv'', trivial⟩)) h
end
/-! ### a guard that is itself passed over -/
section
variable {P : Program} {w : World} {os : List Oper} {rest : List Oper} {q : Pst P} {n : Nat} {l : Slots} {ds : List Deferred} {d : Nat} {op : Op} {ty : TypeId} {pos : String} {af : Array Edge}
theorem ylk_none {j : Nat} (h : ylk os n l j = some (.tuple #[])) : yielded os.toArray (fr n l) j = none := by
  unfold ylk at h
  unfold yielded
  cases ho : os[j]? with
  | none => simp [ho] at h
  | some o =>
    cases hd : o.dst with
    | none => simp [ho, hd] at h
    | some d' =>
      simp only [ho, hd] at h
      simp [List.getElem?_toArray, ho, hd, fr_get, h]
theorem s_gu {j : Nat} {b : Bool} (hy : ylk os n l j = some (.tuple #[])) (h : Wl P os.toArray q rest n ((d, undef) :: l) ds w) :
    Wl P os.toArray q (⟨some d, op, ty, pos, af, some (j, b)⟩ :: rest) n l ds w := by
  refine ⟨wpList_step fun K hK => ?_⟩
  rw [if_neg (by simp [Region.wanted, A, ylk_none hy]), put_A]
  exact hK _ _ h.up
variable {C : World → Prop} {Qq : Act → Prop}
theorem q_gu {j : Nat} {b : Bool} (hy : ylk os n l j = some (.tuple #[])) (h : Wq P os.toArray C Qq rest n ((d, undef) :: l) ds) :
    Wq P os.toArray C Qq (⟨some d, op, ty, pos, af, some (j, b)⟩ :: rest) n l ds := by
  refine ⟨?_⟩
  unfold wpQuiet
  rw [if_neg (by simp [Region.wanted, A, ylk_none hy]), put_A]
  exact h.up
end
section
variable {P : Program} {w : World} {ρ : Operand → Value} {dst : Option Tmp} {ty : TypeId} {pos : String} {af : Array Edge} {g : Option (Nat × Bool)}
/-- A part of an array in memory, its address, length and room said by the caller. -/
theorem r_slax {t e : TypeId} {x : Operand} {lo hi : Option Operand} {a : Addr} {a' : Option Addr} {n size n' c' : Nat} {l h : Int} (ht : P.underlying t = some (.array n e)) (hs : szT P e = some size) (hx : ρ x = .pointer (some a))
    (hl : bnd 0 (lo.map ρ) = some l) (hh : bnd n (hi.map ρ) = some h) (h0 : 0 ≤ l) (h1 : l ≤ h) (h2 : h ≤ n) (ha : subA (some a) l.toNat n size = a') (hn : h.toNat - l.toNat = n') (hc : n - l.toNat = c') :
    Rn P ρ ⟨dst, .slice t x lo hi none, ty, pos, af, g⟩ w (.ok (.value (.slice a' n' c')) w) := by
  subst ha hn hc; exact r_sla ht hs hx hl hh h0 h1 h2
end
/-- Where a loop's ways out meet. -/
theorem k_cutb {P : Program} {q : Pst P} {w : World} {n i : Nat} {l : Slots} {ds : List Deferred} {x y : Code} {σ : Type} (live : σ → Slots) (inv : σ → World → Prop) (hx : Wc P x (.bk i (.lp (Meet n ds live inv) q)) n l ds w)
    (hy : ∀ s l w, inv s w → Wc P y q n (live s ++ l) ds w) : Wc P x (.bk i (.sq y q)) n l ds w := by
  have key : ∀ a' w', Meet n ds live inv a' w' → y.wp P q.den a' w' := by
    rintro a' w' ⟨s, l', rfl, hag, hi⟩
    have := (hy s l' w' hi).up
    rw [← A_ag (live s) hag] at this
    exact this
  refine ⟨wp_mono hx.up ?_⟩
  intro e a' w' hq
  simp only [Pst.den] at hq ⊢
  cases e with
  | normal => exact key _ _ hq
  | exit j =>
    simp only [Exit.inBlock] at hq ⊢
    split
    · rename_i h; rw [if_pos h] at hq; exact key _ _ hq
    · rename_i h; rw [if_neg h] at hq; exact hq
  | _ => exact hq
end Go.Proofs.YtlkipdfipaipbaaDoor.Fw
