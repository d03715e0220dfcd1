/- What the proofs of this seat lean on, part 6. -/
import Derived.Test.YtfnbgbeinmekgaaGreatDoorPd5
import Derived.Test.YtfnbgbeinmekgaaGreatDoorSh
namespace Go.Proofs.YtfnbgbeinmekgaaGreatDoor
open Go Go.RowKit Fw Nu Sy Pt
set_option linter.unusedVariables false
set_option maxRecDepth 20000
namespace Pr
/-- The levels' signs. -/
def levL : List (List Int) := [[32, 124, 124, 32], [32, 38, 38, 32], [32, 61, 61, 32, 33, 61, 32, 60, 32, 60, 61, 32, 62, 32, 62, 61, 32], [32, 43, 32, 45, 32], [32, 42, 32, 47, 32, 37, 32]]
def levB : List ByteArray := levL.map strOfNums
structure Glob (w : World) : Prop where
  tab : Lib.TabIs Tryz.prog w "internal/strconv.uint64pow10" .u64 Lib.pow10Tab
  lev : ∀ (j : Nat) s, levB[j]? = some s → w.cell? ⟨2, j, none⟩ = some (.string s)
  mx : ∃ m, w.cell? ⟨3, 0, none⟩ = some (.int .i64 m)
theorem Glob.kpS {S : Nat → Prop} {w w' : World} (h : Glob w) (k : Kp S w w') (hS : ∀ b, b < w.heap.size → ¬ S b) : Glob w' := by
  refine ⟨?_, fun j s hj => ?_, ?_⟩
  · have h1 := h.tab
    unfold Lib.TabIs World.var? at h1 ⊢
    cases hg : Tryz.prog.globalNamed "internal/strconv.uint64pow10" with
    | none => rw [hg] at h1; cases h1
    | some g =>
      rw [hg] at h1
      simp only [Option.bind_some] at h1 ⊢
      cases hw : w.heap[g]? with
      | none => rw [hw] at h1; cases h1
      | some o => rw [hw] at h1; rw [k.get hw (hS g (lt_of_get hw))]; exact h1
  · have hc := h.lev j s hj
    obtain ⟨o, ho⟩ := blk_of_cell hc
    exact k.cell hc (hS _ (lt_of_get ho))
  · obtain ⟨m, hc⟩ := h.mx
    obtain ⟨o, ho⟩ := blk_of_cell hc
    exact ⟨m, k.cell hc (hS _ (lt_of_get ho))⟩
theorem Glob.kp {w w' : World} (h : Glob w) (k : Kp No w w') : Glob w' := h.kpS k fun _ _ h => h
theorem Itoa (n : Int) (w : World) (hg : Glob w) (hn : I64 n) : Ret Tryz.prog 62 [.int .i64 n] w fun v w1 => (∃ s, v = .string s ∧ B s = dc n) ∧ Kp No w w1 := by
  refine Calls.mono (Tryz.strconv_Itoa n hn.1 hn.2 w hg.tab) ?_
  rintro e w1 ⟨rfl, k, os, rfl⟩
  refine ⟨_, rfl, ⟨_, rfl, B_itoa n⟩, rfl, rfl, rfl, by show w.heap.size ≤ (w.heap ++ os).size; rw [Array.size_append]; omega, fun i hi _ => ?_⟩
  show (w.heap ++ os)[i]? = w.heap[i]?
  rw [Array.getElem?_append_left hi]
/-- Copies of two blanks. -/
theorem Repeat (n : Nat) (w : World) (hn : n ≤ 1000000) : Ret Tryz.prog 53 [.string ⟨#[32, 32]⟩, .int .i64 n] w fun v w1 => (∃ s, v = .string s ∧ B s = bl n) ∧ Kp No w w1 := by
  refine Calls.mono (Tryz.strings_Repeat ⟨#[32, 32]⟩ n w (by omega) (by show 2 * n ≤ _; omega)) ?_
  rintro e w1 ⟨rfl, hb⟩
  refine ⟨_, rfl, ⟨_, rfl, ?_⟩, Kp.of_below hb⟩
  have : ∀ k, (Lib.repeatL (ByteArray.data ⟨#[32, 32]⟩).toList k).map (fun b => (b.toNat : Int)) = bl k := by
    intro k
    induction k with
    | zero => rfl
    | succ k ih =>
      have e : Lib.repeatL (ByteArray.data ⟨#[32, 32]⟩).toList (k + 1) = 32 :: 32 :: Lib.repeatL (ByteArray.data ⟨#[32, 32]⟩).toList k := rfl
      rw [e, List.map_cons, List.map_cons, ih]
      unfold bl
      rw [show 2 * (k + 1) = 2 * k + 1 + 1 by omega, List.replicate_succ, List.replicate_succ]
      rfl
  rw [← this n]
  simp [B]
theorem join_jn (xs : List (List UInt8)) : (Lib.join xs [44, 32]).map (fun b => (b.toNat : Int)) = jnP (xs.map fun x => x.map fun b => (b.toNat : Int)) := by
  induction xs with
  | nil => rfl
  | cons x r ih =>
    cases r with
    | nil => rw [Lib.join_one]; rfl
    | cons y r =>
      have e : Lib.join (x :: y :: r) [44, 32] = x ++ 44 :: 32 :: Lib.join (y :: r) [44, 32] := by
        rw [Lib.join_cons, Lib.join_cons]; simp [Lib.joinTail]
      rw [e, List.map_append, List.map_cons, List.map_cons, ih]
      rfl
theorem Join (xs : List ByteArray) (a : Option Addr) (cap : Nat) (w : World) (hcells : ∀ (j : Nat) x, xs[j]? = some x → ∃ bk, a = some ⟨bk, 0, none⟩ ∧ bk < w.heap.size ∧ w.cell? ⟨bk, 0 + j, none⟩ = some (.string x)) (hN : xs.length ≤ 1000000) (hcap : xs.length ≤ cap)
    (hlen : (jnP (xs.map B)).length ≤ 140737488355328) :
    Ret Tryz.prog 25 [.slice a xs.length cap, .string ⟨#[44, 32]⟩] w fun v w1 => (∃ s, v = .string s ∧ B s = jnP (xs.map B)) ∧ Kp No w w1 := by
  cases hx : xs with
  | nil =>
    refine Calls.mono (Any.strings_Join_none Tryz.lays156 Tryz.Builder_Extra_156 a cap ⟨#[44, 32]⟩ w) ?_
    rintro e' w1 ⟨rfl, rfl⟩
    exact ⟨_, rfl, ⟨_, rfl, rfl⟩, Kp.refl _ _⟩
  | cons y r =>
    rw [← hx]
    obtain ⟨bk, rfl, hbk, _⟩ := hcells 0 y (by rw [hx]; rfl)
    have e : (Lib.join (xs.map (·.data.toList)) [44, 32]).map (fun b => (b.toNat : Int)) = jnP (xs.map B) := by
      rw [join_jn, List.map_map]; rfl
    refine Calls.mono (Tryz.strings_Join bk 0 cap xs ⟨#[44, 32]⟩ w (fun j x hj => by
      obtain ⟨bk', e, _, hc⟩ := hcells j x hj
      cases e; exact hc) hbk (by omega) hcap (by
      have := congrArg List.length e
      rw [List.length_map] at this
      show (Lib.join (xs.map (·.data.toList)) [44, 32]).length ≤ _
      omega)) ?_
    rintro e' w1 ⟨rfl, hb⟩
    refine ⟨_, rfl, ⟨_, rfl, ?_⟩, Kp.of_below hb⟩
    rw [← e]; simp [B]
theorem lev_tab : ∀ v ∈ List.range 5, ∀ op ∈ sgs v, ∀ j ∈ List.range 5, Lib.contains (levB[j]?.getD ⟨#[]⟩).data.toList ((ByteArray.mk #[32] ++ strOfNums op) ++ ByteArray.mk #[32]).data.toList = decide (j = v) := by decide +kernel
theorem levB_size : ∀ j ∈ List.range 5, (levB[j]?.getD ⟨#[]⟩).size ≤ 17 := by decide +kernel
theorem levOne (x : Ex) (lv : Value) (j v : Nat) (s : ByteArray) (b : Nat) (w : World) (hg : Glob w) (hb : w.heap[b]? = some (.cells (exC (x, lv)).toArray 67 (0, 0))) (hj : levB[j]? = some s) (hv : v ≤ 4) (hop : x.op ∈ sgs v) :
    Ret Tryz.prog 116 [.string s, .pointer (some ⟨b, 0, none⟩)] w fun r w1 => r = .bool (decide (j = v)) ∧ Kp No w w1 := by
  refine ret_enter Tryz.func116 rfl Tryz.ntmps116 rfl ?_
  have hjl : j < 5 := (List.getElem?_eq_some_iff.1 hj).1
  obtain ⟨m, hm⟩ := hg.mx
  have hol : x.op.length ≤ 2 := by
    have : ∀ v ∈ List.range 5, ∀ op ∈ sgs v, op.length ≤ 2 := by decide
    exact this v (by simp; omega) _ hop
  have ht := lev_tab v (by simp; omega) _ hop j (by simp; omega)
  have hz := levB_size j (by simp; omega)
  rw [hj, Option.getD_some] at ht hz
  have hb' : w.heap[b]? = some (.cells [.int .i64 x.k, .int .i64 x.f, .int .i64 x.e, .int .i64 x.n, .string (strOfNums x.nm), .string (strOfNums x.op), .int .i64 x.a, .int .i64 x.b, lv].toArray 67 (0, 0)) := hb
  have hsz : (strOfNums x.op).size ≤ 2 := by rw [strOfNums_size]; exact hol
  have h1 : (ByteArray.mk #[32]).size = 1 := rfl
  (repeat refine Zr ?_)
  refine s_v (r_cat rfl rfl (by rw [h1]; omega)) ?_
  refine s_v (r_cat rfl rfl (by rw [ByteArray.size_append, h1]; omega)) ?_
  refine s_call (us := []) (zs := []) (by kernel_rfl) rfl rfl (R := fun r w1 => r = .bool (Lib.contains s.data.toList ((ByteArray.mk #[32] ++ strOfNums x.op) ++ ByteArray.mk #[32]).data.toList) ∧ w1 = w) (Calls.mono (Tryz.strings_Contains s _ m w (by omega) hm) (fun e w1 h => ⟨_, h.1, rfl, h.2⟩)) ?_
  rintro _ w1 ⟨rfl, rfl⟩
  (repeat refine Zr ?_)
  exact ret_1 rfl rfl ⟨by rw [ht], Kp.refl _ _⟩
theorem levIdx (x : Ex) (lv : Value) (v : Nat) (b : Nat) (w : World) (hg : Glob w) (hb : w.heap[b]? = some (.cells (exC (x, lv)).toArray 67 (0, 0))) (hv : v ≤ 4) (hop : x.op ∈ sgs v) :
    Ret Tryz.prog 115 [.slice (some ⟨2, 0, none⟩) 5 5, .func (.func 116) #[] #[.pointer (some ⟨b, 0, none⟩)]] w fun r w1 => r = .int .i64 (v : Int) ∧ Kp No w w1 := by
  refine ret_enter Tryz.func115 rfl Tryz.ntmps115 rfl ?_
  (repeat refine Zr ?_)
  refine k_loop (σ := Nat) (fun j => [(0, .slice (some ⟨2, 0, none⟩) 5 5), (1, .func (.func 116) #[] #[.pointer (some ⟨b, 0, none⟩)]), (7, .int .i64 5), (8, .int .i64 j)]) (fun j m => j ≤ v ∧ Kp No w m) (fun j => 5 - j) 0 ⟨rfl, rfl, rfl, rfl, trivial⟩ ⟨Nat.zero_le _, Kp.refl _ _⟩ ?_
  rintro j l m ⟨hj, km⟩
  (repeat refine Zr ?_)
  refine c_dec rfl (fun hlt => ?_) (fun hge => ?_)
  · obtain ⟨s, hs⟩ : ∃ s, levB[j]? = some s := ⟨_, List.getElem?_eq_getElem (by show j < 5; omega)⟩
    have hc := (hg.kp km).lev j s hs
    have hc' : m.cell? ⟨2, 0 + (j : Int).toNat * 1, none⟩ = some (.string s) := by rw [Int.toNat_natCast, Nat.mul_one, Nat.zero_add]; exact hc
    (repeat refine Zr ?_)
    refine s_v (r_ia (i := j) rfl rfl rfl rfl (by omega) (by omega)) ?_
    (repeat refine Zr ?_)
    refine s_call (us := []) (zs := [.pointer (some ⟨b, 0, none⟩)]) (by kernel_rfl) rfl rfl (levOne x lv j v s b m (hg.kp km) (km.get0 hb) hs hv hop) ?_
    rintro _ m2 ⟨rfl, k2⟩
    (repeat refine Zr ?_)
    by_cases hf : j = v
    · rw [decide_eq_true hf]
      refine c_t rfl ?_
      (repeat refine Zr ?_)
      exact ret_1 rfl rfl ⟨by rw [hf], km.no k2⟩
    · rw [decide_eq_false hf]
      refine c_f rfl ?_
      (repeat refine Zr ?_)
      exact l_next (j + 1) ⟨rfl, rfl, rfl, rfl, trivial⟩ ⟨by omega, km.no k2⟩ (by omega)
  · exfalso
    omega
/-- An expression's level. -/
def lvE (x : Ex) : Nat := if x.k = 9 then lvO x.op else 5
theorem levelF (x : Ex) (lv : Value) (w : World) (hg : Glob w) (hop : x.k = 9 → ∃ v, v ≤ 4 ∧ x.op ∈ sgs v) :
    Ret Tryz.prog 94 [.agg (exC (x, lv)).toArray] w fun r w1 => r = .int .i64 (lvE x : Int) ∧ Kp No w w1 := by
  refine ret_enter Tryz.func94 rfl Tryz.ntmps94 rfl ?_
  (repeat refine Zr ?_)
  refine s_box (cs := exC (x, lv)) rfl rfl (fun b w1 n1 => ?_)
  have e1 : w1.heap[b]? = some (.cells [.int .i64 x.k, .int .i64 x.f, .int .i64 x.e, .int .i64 x.n, sv x.nm, sv x.op, .int .i64 x.a, .int .i64 x.b, lv].toArray 67 (0, 0)) := n1.blk
  (repeat refine Zr ?_)
  refine c_ne rfl (fun hk => ?_) (fun hk => ?_)
  · (repeat refine Zr ?_)
    exact ret_1 rfl rfl ⟨by unfold lvE; rw [if_neg hk]; rfl, n1.kp⟩
  · obtain ⟨v, hv, ho⟩ := hop hk
    (repeat refine Zr ?_)
    refine s_v (r_slax (a' := some ⟨2, 0, none⟩) (n' := 5) (c' := 5) rfl rfl rfl rfl rfl (by omega) (by omega) (by omega) subA_0 rfl rfl) ?_
    (repeat refine Zr ?_)
    refine s_call (us := []) (zs := []) (by kernel_rfl) rfl rfl (levIdx x lv v b w1 (hg.kp n1.kp) n1.blk hv ho) ?_
    rintro _ w2 ⟨rfl, k2⟩
    (repeat refine Zr ?_)
    exact ret_1 rfl rfl ⟨by unfold lvE; rw [if_pos hk, lvO_of hv ho], n1.kp.no k2⟩
end Pr
end Go.Proofs.YtfnbgbeinmekgaaGreatDoor
