/- What the proofs of this seat lean on, part 3. -/
import Derived.Test.YtfnbgbeinmekgaaGreatDoorPd2
import Derived.Lib.ItoaNum
import Derived.Lib.AtoiAll
namespace Go.Proofs.YtfnbgbeinmekgaaGreatDoor.Nu
open Go Fw
set_option linter.unusedVariables false
/-- The digits of a number. -/
def dcu (u : Nat) : List Int := (Lib.decDigits u).map fun b => (b.toNat : Int)
theorem dcu_eq (u : Nat) : dcu u = if u < 10 then [48 + (u : Int)] else dcu (u / 10) ++ [48 + ((u % 10 : Nat) : Int)] := by
  unfold dcu
  rw [Lib.decDigits]
  by_cases h : u < 10
  · rw [dif_pos h, if_pos h]
    have : (UInt8.ofNat (48 + u)).toNat = 48 + u := by simp [UInt8.toNat_ofNat']; omega
    simp only [List.map_cons, List.map_nil, this]
    congr 1
  · rw [dif_neg h, if_neg h, List.map_append]
    have : (UInt8.ofNat (48 + u % 10)).toNat = 48 + u % 10 := by simp [UInt8.toNat_ofNat']; omega
    simp only [List.map_cons, List.map_nil, this]
    congr 1
/-- An int as it is told. -/
def dc (n : Int) : List Int := if n < 0 then 45 :: dcu n.natAbs else dcu n.toNat
theorem dc_itoa (n : Int) : (Lib.itoa n).map (fun b => (b.toNat : Int)) = dc n := by
  unfold Lib.itoa dc
  split <;> rfl
theorem B_itoa (n : Int) : B ⟨(Lib.itoa n).toArray⟩ = dc n := by rw [← dc_itoa]; simp [B]
theorem dcu_digit (u : Nat) : ∀ c ∈ dcu u, 48 ≤ c ∧ c ≤ 57 := by
  induction u using Nat.strongRecOn with
  | _ u ih =>
    intro c hc
    rw [dcu_eq] at hc
    split at hc
    · simp only [List.mem_singleton] at hc; omega
    · rw [List.mem_append] at hc
      rcases hc with hc | hc
      · exact ih _ (by omega) c hc
      · simp only [List.mem_singleton] at hc; omega
/-- Digits read. -/
def vu : Int → List Int → Int
  | a, [] => a
  | a, c :: r => vu (a * 10 + (c - 48)) r
theorem vu_append (X Y : List Int) : ∀ a, vu a (X ++ Y) = vu (vu a X) Y := by
  induction X with
  | nil => intro a; rfl
  | cons c r ih => intro a; exact ih _
theorem vu_dcu (u : Nat) : vu 0 (dcu u) = u := by
  induction u using Nat.strongRecOn with
  | _ u ih =>
    rw [dcu_eq]
    split
    · simp [vu]; omega
    · rw [vu_append, ih _ (by omega)]
      simp only [vu]; omega
theorem dcu_inj {u v : Nat} (h : dcu u = dcu v) : u = v := by
  have := vu_dcu u
  rw [h, vu_dcu] at this
  omega
theorem dc_neg {n : Int} (h : n < 0) : dc n = 45 :: dcu n.natAbs := by rw [dc, if_pos h]
theorem dc_pos {n : Int} (h : 0 ≤ n) : dc n = dcu n.toNat := by rw [dc, if_neg (by omega)]
theorem dc_inj {m n : Int} (h : dc m = dc n) : m = n := by
  have key : ∀ u v : Nat, dcu u ≠ 45 :: dcu v := by
    intro u v e
    have := dcu_digit u 45 (by rw [e]; exact List.mem_cons_self ..)
    omega
  by_cases hm : m < 0 <;> by_cases hn : n < 0
  · rw [dc_neg hm, dc_neg hn] at h
    have := dcu_inj (List.cons.inj h).2
    omega
  · rw [dc_neg hm, dc_pos (by omega)] at h
    exact (key _ _ h.symm).elim
  · rw [dc_pos (by omega), dc_neg hn] at h
    exact (key _ _ h).elim
  · rw [dc_pos (by omega), dc_pos (by omega)] at h
    have := dcu_inj h
    omega
theorem dc_chars (n : Int) : ∀ c ∈ dc n, c = 45 ∨ (48 ≤ c ∧ c ≤ 57) := by
  intro c hc
  rw [dc] at hc
  split at hc
  · rcases List.mem_cons.1 hc with rfl | hc
    · exact .inl rfl
    · exact .inr (dcu_digit _ c hc)
  · exact .inr (dcu_digit _ c hc)
/-- Is it one of 64 bits? -/
def I64 (n : Int) : Prop := -9223372036854775808 ≤ n ∧ n ≤ 9223372036854775807
/-- The number that a text tells, as ints are told. -/
def num (L : List Int) : Option Int :=
  match Lib.atoiAll (L.map fun c => c.toNat.toUInt8) with
  | .ok n => if dc n = L then some n else none
  | _ => none
end Go.Proofs.YtfnbgbeinmekgaaGreatDoor.Nu
namespace Go.Proofs.YtfnbgbeinmekgaaGreatDoor.Sp
open Go Fw
set_option linter.unusedVariables false
/-- Where the first c stands: what Index answers. -/
def fst (c : Int) : List Int → Option Nat
  | [] => none
  | x :: r => if x = c then some 0 else (fst c r).map (· + 1)
end Go.Proofs.YtfnbgbeinmekgaaGreatDoor.Sp
namespace Go.Proofs.YtfnbgbeinmekgaaGreatDoor.Pt
open Go Sy Nu
set_option linter.unusedVariables false
/-- An expression; nil and cons: a row of some. -/
inductive X where
  | num (n : Int)
  | tt
  | ff
  | rd
  | nm (w : List Int)
  | idx (w : List Int) (a : X)
  | call (w : List Int) (l : X)
  | un (op : List Int) (a : X)
  | pr (op : List Int) (a b : X)
  | nil
  | cons (x l : X)
def NmW (w : List Int) : Prop := Tk.body w = (true, 1, w.length) ∧ w.length ≤ 20000
def NuW (w : List Int) : Prop := Tk.body w = (true, 2, w.length)
def lvO (op : List Int) : Nat := if op ∈ sgs 0 then 0 else if op ∈ sgs 1 then 1 else if op ∈ sgs 3 then 3 else if op ∈ sgs 4 then 4 else 2
def lvX : X → Nat
  | .pr op _ _ => lvO op
  | _ => 5
def lf (n : Nat) : Nat := if n = 2 then 3 else n
def isX : X → Bool
  | .nil => false
  | .cons _ _ => false
  | _ => true
def sz : X → Nat
  | .idx _ a => sz a + 1
  | .call _ l => sz l + 1
  | .un _ a => sz a + 1
  | .pr _ a b => sz a + sz b + 1
  | .nil => 0
  | .cons x l => sz x + sz l
  | _ => 1
/-- The place of the root of one that is put from a place on. -/
def rt (lo : Nat) (x : X) : Int := ((lo + sz x : Nat) : Int) - 1
def rts (lo : Nat) : X → List Int
  | .cons x l => rt lo x :: rts (lo + sz x) l
  | _ => []
/-- What is put. -/
def fl (lo : Nat) : X → List Ex
  | .num n => [{ k := 1, n := n }]
  | .tt => [{ k := 2 }]
  | .ff => [{ k := 3 }]
  | .rd => [{ k := 7 }]
  | .nm w => [{ k := 4, nm := w }]
  | .idx w a => fl lo a ++ [{ k := 5, nm := w, a := rt lo a }]
  | .call w l => fl lo l ++ [{ k := 6, nm := w, l := rts lo l }]
  | .un op a => fl lo a ++ [{ k := 8, op := op, a := rt lo a }]
  | .pr op a b => fl lo a ++ (fl (lo + sz a) b ++ [{ k := 9, op := op, a := rt lo a, b := rt (lo + sz a) b }])
  | .nil => []
  | .cons x l => fl lo x ++ fl (lo + sz x) l
theorem fl_len : ∀ (x : X) (lo : Nat), (fl lo x).length = sz x := by
  intro x
  induction x with
  | idx w a ih => intro lo; simp [fl, sz, ih]
  | call w a ih => intro lo; simp [fl, sz, ih]
  | un w a ih => intro lo; simp [fl, sz, ih]
  | pr w a b iha ihb => intro lo; simp [fl, sz, iha, ihb]; omega
  | cons a b iha ihb => intro lo; simp [fl, sz, iha, ihb]
  | _ => intro lo; rfl
theorem sz_pos : ∀ {x : X}, isX x = true → 1 ≤ sz x := by
  intro x h
  cases x <;> first | (simp only [sz]; omega) | cases h
/-- How deep it is nested, with the brackets that it needs. -/
def dp : X → Nat
  | .idx _ a => dp a + 1
  | .call _ l => dp l
  | .un _ a => dp a + 1 + if lvX a < 5 then 1 else 0
  | .pr op a b => max (dp a + if lvX a < lf (lvO op) then 1 else 0) (dp b + if lvX b < lvO op + 1 then 1 else 0)
  | .cons x l => max (dp x + 1) (dp l)
  | _ => 0
def pd (v : Nat) (x : X) : Nat := dp x + if lvX x < v then 1 else 0
def wf : X → Prop
  | .num n => 0 ≤ n ∧ NuW (dc n)
  | .nm w => NmW w
  | .idx w a => NmW w ∧ isX a = true ∧ wf a
  | .call w l => NmW w ∧ isX l = false ∧ wf l
  | .un op a => (op = wMinus ∨ op = wNot) ∧ isX a = true ∧ wf a
  | .pr op a b => (∃ v, v ≤ 4 ∧ op ∈ sgs v) ∧ isX a = true ∧ isX b = true ∧ wf a ∧ wf b
  | .cons x l => isX x = true ∧ isX l = false ∧ wf x ∧ wf l
  | _ => True
theorem lvO_of {v : Nat} {op : List Int} (hv : v ≤ 4) (h : op ∈ sgs v) : lvO op = v := by
  have : v = 0 ∨ v = 1 ∨ v = 2 ∨ v = 3 ∨ v = 4 := by omega
  rcases this with rfl | rfl | rfl | rfl | rfl <;> simp only [sgs, List.mem_cons, List.not_mem_nil, or_false] at h
  · subst h; rfl
  · subst h; rfl
  · rcases h with rfl | rfl | rfl | rfl | rfl | rfl <;> rfl
  · rcases h with rfl | rfl <;> rfl
  · rcases h with rfl | rfl | rfl <;> rfl
theorem pd_mono {u v : Nat} (h : u ≤ v) (x : X) : pd u x ≤ pd v x := by
  unfold pd; split <;> split <;> omega
theorem pd_le (v : Nat) (x : X) : pd v x ≤ dp x + 1 := by unfold pd; split <;> omega
theorem pd_0 (x : X) : pd 0 x = dp x := by unfold pd; rw [if_neg (by omega)]; rfl
theorem le_lf (v : Nat) : v ≤ lf v ∧ lf v ≤ v + 1 := by unfold lf; split <;> omega
def bx (x : Ex) : Ex := { x with f := 0, e := 0 }
structure Gr (s t : PS) (xs : List Ex) : Prop where
  ex : t.ex.map bx = s.ex.map bx ++ xs
  st : t.st = s.st
  fn : t.fn = s.fn
theorem Gr.len {s t : PS} {xs : List Ex} (h : Gr s t xs) : t.ex.length = s.ex.length + xs.length := by
  have := congrArg List.length h.ex
  simpa using this
theorem Gr.trans {s t u : PS} {xs ys : List Ex} (h : Gr s t xs) (g : Gr t u ys) : Gr s u (xs ++ ys) :=
  ⟨by rw [g.ex, h.ex, List.append_assoc], g.st.trans h.st, g.fn.trans h.fn⟩
theorem Gr.refl (s : PS) : Gr s s [] := ⟨by simp, rfl, rfl⟩
theorem Gr.to {s t u : PS} {xs : List Ex} (h : Gr s t xs) (e : u.ex = t.ex) (e1 : u.st = t.st) (e2 : u.fn = t.fn) : Gr s u xs := ⟨by rw [e]; exact h.ex, e1.trans h.st, e2.trans h.fn⟩
theorem Gr.of {s t u : PS} {xs : List Ex} (h : Gr s t xs) (e : u.ex = s.ex) (e1 : u.st = s.st) (e2 : u.fn = s.fn) : Gr u t xs := ⟨by rw [e]; exact h.ex, h.st.trans e1.symm, h.fn.trans e2.symm⟩
theorem put_gr {E : Env} {fr : Int} {x : Ex} {s t : PS} {a : Int} (h : put E fr x s = .ok a t) : Gr s t [bx x] ∧ a = (s.ex.length : Int) ∧ t.i = s.i := by
  cases h
  exact ⟨⟨by simp [bx], rfl, rfl⟩, rfl, rfl⟩
theorem want_gr {E : Env} {w : List Int} {s t : PS} {x : Unit} (h : want E w s = .ok x t) : t = adv s ∧ Sy.wd E s = w := by
  unfold want at h; split at h <;> cases h; exact ⟨rfl, by assumption⟩
theorem knd_gr {E : Env} {k : Int} {s t : PS} {x : List Int} (h : knd E k s = .ok x t) : t = adv s ∧ x = Sy.wd E s ∧ Sy.kd E s = k := by
  unfold knd at h; split at h <;> cases h; exact ⟨rfl, rfl, by assumption⟩
theorem deep_gr {E : Env} {d : Int} {s t : PS} {x : Unit} (h : deep E d s = .ok x t) : t = s ∧ d ≤ 64 := by
  unfold deep at h; split at h <;> cases h; exact ⟨rfl, by omega⟩
theorem Gr.adv {s t : PS} {xs : List Ex} (h : Gr (Sy.adv s) t xs) : Gr s t xs := ⟨h.ex, h.st, h.fn⟩
theorem Gr.adv' {s t : PS} {xs : List Ex} (h : Gr s t xs) : Gr s (Sy.adv t) xs := ⟨h.ex, h.st, h.fn⟩
/-- What names and numbers are like among tokens. -/
structure Tkn (E : Env) : Prop where
  nm : ∀ s, Sy.kd E s = 1 → NmW (Sy.wd E s)
  nu : ∀ s, Sy.kd E s = 2 → NuW (Sy.wd E s)
  le : E.T.length ≤ 20001
theorem vu_num : ∀ (w : List Int) (a : Int), vu a w = w.foldl (fun n c => n * 10 + (c - 48)) a := by
  intro w
  induction w with
  | nil => intro a; rfl
  | cons c r ih => intro a; exact ih _
theorem dcu_dig : ∀ (n : Nat) (w : List Int), w.length = n → w ≠ [] → (∀ c ∈ w, 48 ≤ c ∧ c ≤ 57) → (w.length = 1 ∨ ∀ c r, w = c :: r → c ≠ 48) → 0 ≤ vu 0 w ∧ (2 ≤ w.length → 10 ≤ vu 0 w) ∧ (w.length = 1 ∨ 1 ≤ vu 0 w) ∧ dcu (vu 0 w).toNat = w := by
  intro n
  induction n with
  | zero => intro w hl h0; exact absurd (List.length_eq_zero_iff.1 hl) h0
  | succ n ih =>
    intro w hl h0 hd h1
    obtain ⟨u, c, rfl⟩ : ∃ u c, w = u ++ [c] := ⟨w.dropLast, w.getLast h0, (List.dropLast_concat_getLast h0).symm⟩
    have hc := hd c (by simp)
    have hv : vu 0 (u ++ [c]) = vu 0 u * 10 + (c - 48) := by rw [vu_append]; rfl
    rw [hv]
    by_cases hu : u = []
    · subst hu
      have e0 : vu 0 ([] : List Int) = 0 := rfl
      rw [e0]
      refine ⟨by omega, fun h => by simp at h, .inl rfl, ?_⟩
      rw [dcu_eq, if_pos (by omega)]
      simp; omega
    · have hl' : u.length = n := by simp at hl; omega
      have hne : ∀ c' r, u = c' :: r → c' ≠ 48 := by
        intro c' r e
        rcases h1 with h1 | h1
        · rw [e] at h1; simp at h1
        · exact h1 c' (r ++ [c]) (by rw [e]; rfl)
      obtain ⟨a1, a2, a3, a4⟩ := ih u hl' hu (fun x hx => hd x (by simp [hx])) (.inr hne)
      have a5 : 1 ≤ vu 0 u := by
        rcases a3 with a3 | a3
        · obtain ⟨x, rfl⟩ : ∃ x, u = [x] := List.length_eq_one_iff.1 a3
          have := hne x [] rfl
          have := hd x (by simp)
          have e : vu 0 [x] = 0 * 10 + (x - 48) := rfl
          rw [e]; omega
        · exact a3
      refine ⟨by omega, fun _ => by omega, .inr (by omega), ?_⟩
      rw [dcu_eq, if_neg (by omega)]
      have e1 : (vu 0 u * 10 + (c - 48)).toNat / 10 = (vu 0 u).toNat := by omega
      have e2 : (vu 0 u * 10 + (c - 48)).toNat % 10 = (c - 48).toNat := by omega
      rw [e1, e2, a4]
      congr 2
      omega
theorem rn_full {p : Int → Bool} : ∀ {L : List Int}, Tk.rn p L = L.length → ∀ c ∈ L, p c = true := by
  intro L
  induction L with
  | nil => intro _ c hc; cases hc
  | cons x r ih =>
    intro h c hc
    rw [Tk.rn] at h
    split at h
    · rename_i hp
      rcases List.mem_cons.1 hc with rfl | hc
      · exact hp
      · exact ih (by simpa using h) c hc
    · simp at h
theorem nu_digits {w : List Int} (h : NuW w) : w ≠ [] ∧ w.length ≤ 18 ∧ (∀ c ∈ w, 48 ≤ c ∧ c ≤ 57) ∧ (w.length = 1 ∨ ∀ c r, w = c :: r → c ≠ 48) := by
  unfold NuW at h
  cases w with
  | nil => cases h
  | cons c r =>
    rw [Tk.body] at h
    split at h
    · have := congrArg (fun x : Bool × Int × Nat => x.2.1) h
      simp only at this
      split at this <;> omega
    split at h
    · split at h
      · rename_i hd hc
        have hr : Tk.rn Tk.digi (c :: r) = (c :: r).length := congrArg (fun x : Bool × Int × Nat => x.2.2) h
        rw [hr] at hc
        refine ⟨by simp, hc.1, fun x hx => ?_, ?_⟩
        · have := rn_full hr x hx
          unfold Tk.digi at this
          simp at this
          exact this
        · rcases hc.2.1 with e | e
          · exact .inl e
          · exact .inr fun c' r' e' => by cases e'; exact e
      · cases h
    · split at h
      · cases h
      · have := congrArg (fun x : Bool × Int × Nat => x.2.1) h
        simp at this
theorem num_wf {w : List Int} (h : NuW w) : 0 ≤ Sy.num w ∧ dc (Sy.num w) = w := by
  obtain ⟨h1, h2, h3, h4⟩ := nu_digits h
  obtain ⟨a1, _, _, a4⟩ := dcu_dig _ w rfl h1 h3 h4
  have e : Sy.num w = vu 0 w := (vu_num w 0).symm
  rw [e]
  exact ⟨a1, by rw [dc_pos a1, a4]⟩
def Ax (s t : PS) (a : Int) (v : Nat) (d : Int) : Prop := ∃ x, isX x = true ∧ wf x ∧ d + pd v x ≤ 64 ∧ Gr s t (fl s.ex.length x) ∧ a = rt s.ex.length x
structure AxL (L : Lv) : Prop where
  row : ∀ v d s a t, v ≤ 5 → d ≤ 64 → L.row v d s = .ok a t → Ax s t a v d
  rows : ∀ v d fr a s b t, v ≤ 4 → L.rows v d fr a s = .ok b t → ∀ s0, Ax s0 s a (lf v) d → Ax s0 t b v d
  expr : ∀ d s a t, L.expr d s = .ok a t → Ax s t a 0 d ∧ d ≤ 64
  unary : ∀ d s a t, d ≤ 64 → L.unary d s = .ok a t → Ax s t a 5 d
  prim : ∀ d s a t, d ≤ 64 → L.prim d s = .ok a t → Ax s t a 5 d
  args : ∀ fr nm d l s a t, d ≤ 64 → L.args fr nm d l s = .ok a t → ∃ x, isX x = false ∧ wf x ∧ d + dp x ≤ 64 ∧ Gr s t (fl s.ex.length x ++ [{ k := 6, nm := nm, l := l ++ rts s.ex.length x }]) ∧ a = ((s.ex.length + sz x : Nat) : Int)
theorem Ax.up {s t : PS} {a : Int} {u v : Nat} {d : Int} (h : Ax s t a v d) (huv : u ≤ v) : Ax s t a u d := by
  obtain ⟨x, h1, h2, h3, h4, h5⟩ := h
  exact ⟨x, h1, h2, by have := pd_mono huv x; omega, h4, h5⟩
theorem Ax.of {s s' t : PS} {a : Int} {v : Nat} {d : Int} (h : Ax s t a v d) (e : s'.ex = s.ex) (e1 : s'.st = s.st) (e2 : s'.fn = s.fn) : Ax s' t a v d := by
  obtain ⟨x, h1, h2, h3, h4, h5⟩ := h
  rw [← e] at h4 h5
  exact ⟨x, h1, h2, h3, h4.of e e1 e2, h5⟩
theorem Ax.to {s t t' : PS} {a : Int} {v : Nat} {d : Int} (h : Ax s t a v d) (e : t'.ex = t.ex) (e1 : t'.st = t.st) (e2 : t'.fn = t.fn) : Ax s t' a v d := by
  obtain ⟨x, h1, h2, h3, h4, h5⟩ := h
  exact ⟨x, h1, h2, h3, h4.to e e1 e2, h5⟩
section
variable {E : Env} {L : Lv}
theorem call_ax (hL : AxL L) {fr : Int} {nm : List Int} {d : Int} {s t : PS} {a : Int} (hn : NmW nm) (hd : d ≤ 64) (h : call E L fr nm d s = .ok a t) : ∃ l, isX l = false ∧ wf (.call nm l) ∧ d + dp (.call nm l) ≤ 64 ∧ Gr s t (fl s.ex.length (.call nm l)) ∧ a = rt s.ex.length (.call nm l) := by
  obtain ⟨_, s1, h1, h2⟩ := bind_inv h
  obtain ⟨rfl, _⟩ := want_gr h1
  obtain ⟨l, e1, e2, e3, e4, e5⟩ := hL.args _ _ _ _ _ _ _ hd h2
  refine ⟨l, e1, ⟨hn, e1, e2⟩, e3, Gr.adv (by simpa [fl, Sy.adv] using e4), ?_⟩
  rw [e5]; simp only [rt, sz, adv_ex]; omega
theorem rt_eq {lo : Nat} {x : X} {n : Nat} (h : n + 1 = lo + sz x) : (n : Int) = rt lo x := by unfold rt; omega
theorem ax_step (hT : Tkn E) (hL : AxL L) : AxL (stepL E L) := by
  constructor
  · intro v d s a t hv hd h
    have h : sRow E L v d s = .ok a t := h
    unfold sRow at h
    split at h
    · rename_i e; subst e; exact hL.unary _ _ _ _ hd h
    · obtain ⟨b, s1, h1, h2⟩ := bind_inv h
      exact hL.rows _ _ _ _ _ _ _ (by omega) h2 s ((hL.row _ _ _ _ _ (by omega) hd h1).up (le_lf v).2)
  · intro v d fr a s b t hv h s0 ha
    have h : sRows E L v d fr a s = .ok b t := h
    unfold sRows at h
    split at h
    · rename_i hop
      obtain ⟨c, s1, e1, e2⟩ := bind_inv h
      obtain ⟨p, s2, e3, e4⟩ := bind_inv e2
      obtain ⟨x, x1, x2, x3, x4, x5⟩ := ha
      have hd : d ≤ 64 := by omega
      obtain ⟨y, y1, y2, y3, y4, y5⟩ := hL.row _ _ _ _ _ (by omega) hd e1
      obtain ⟨g, g1, g2⟩ := put_gr e3
      have lx := x4.len
      rw [fl_len] at lx
      have ly := y4.len
      rw [fl_len] at ly
      have ea : (Sy.adv s).ex.length = s0.ex.length + sz x := lx
      rw [ea] at y4 y5 ly
      have ho := lvO_of hv hop
      have key : Ax s0 s2 p v d ∧ (v ≠ 2 → Ax s0 s2 p (lf v) d) := by
        have hw : wf (.pr (Sy.wd E s) x y) := ⟨⟨v, hv, hop⟩, x1, y1, x2, y2⟩
        have hdp : d + dp (.pr (Sy.wd E s) x y) ≤ 64 := by
          unfold dp; rw [ho]
          unfold pd at x3 y3
          omega
        have hg : Gr s0 s2 (fl s0.ex.length (.pr (Sy.wd E s) x y)) := by
          refine ⟨?_, by rw [g.st, y4.st, ← x4.st]; rfl, by rw [g.fn, y4.fn, ← x4.fn]; rfl⟩
          rw [g.ex, y4.ex]
          show List.map bx s.ex ++ _ ++ _ = _
          rw [x4.ex]
          simp [fl, bx, x5, y5]
        have hr : p = rt s0.ex.length (.pr (Sy.wd E s) x y) := by rw [g1, ly]; exact rt_eq (by simp only [sz]; omega)
        have hp : ∀ u, u ≤ v → pd u (.pr (Sy.wd E s) x y) = dp (.pr (Sy.wd E s) x y) := by
          intro u hu
          unfold pd; rw [if_neg (by show ¬ lvO _ < u; rw [ho]; omega)]; rfl
        refine ⟨⟨_, rfl, hw, by rw [hp v (Nat.le_refl _)]; exact hdp, hg, hr⟩, fun h2 => ⟨_, rfl, hw, ?_, hg, hr⟩⟩
        rw [hp (lf v) (by unfold lf; rw [if_neg h2]; exact Nat.le_refl _)]; exact hdp
      split at e4
      · cases e4; exact key.1
      · rename_i h2
        exact hL.rows _ _ _ _ _ _ _ hv e4 s0 (key.2 h2)
    · cases h
      exact ha.up (le_lf v).1
  · intro d s a t h
    obtain ⟨_, s1, h1, h2⟩ := bind_inv (show sExpr E L d s = .ok a t from h)
    obtain ⟨rfl, e⟩ := deep_gr h1
    exact ⟨hL.row _ _ _ _ _ (by omega) e h2, e⟩
  · intro d s a t hd h
    have h : sUnary E L d s = .ok a t := h
    unfold sUnary at h
    split at h
    · rename_i hop
      obtain ⟨_, s1, e1, e2⟩ := bind_inv h
      obtain ⟨rfl, hd1⟩ := deep_gr e1
      obtain ⟨b, s2, e3, e4⟩ := bind_inv e2
      obtain ⟨x, x1, x2, x3, x4, x5⟩ := hL.unary _ _ _ _ hd1 e3
      obtain ⟨g, g1, g2⟩ := put_gr e4
      have lx := x4.len
      rw [fl_len] at lx
      refine ⟨.un (Sy.wd E s) x, rfl, ⟨hop, x1, x2⟩, ?_, Gr.adv (by simpa [fl, bx, x5, Sy.adv] using x4.trans g), ?_⟩
      · have e : pd 5 (.un (Sy.wd E s) x) = pd 5 x + 1 := by
          show dp x + 1 + (if lvX x < 5 then 1 else 0) + (if (5 : Nat) < 5 then 1 else 0) = dp x + (if lvX x < 5 then 1 else 0) + 1
          rw [if_neg (show ¬ (5 : Nat) < 5 by omega)]; omega
        rw [e]; omega
      · rw [g1, lx]; exact rt_eq (by simp only [sz]; rfl)
    · exact hL.prim _ _ _ _ hd h
  · intro d s a t hd h
    have h : sPrim E L d s = .ok a t := h
    unfold sPrim at h
    have leaf : ∀ (y : Ex) (x : X), isX x = true → wf x → lvX x = 5 → dp x = 0 → sz x = 1 → fl s.ex.length x = [bx y] → put E (hr E s) y (Sy.adv s) = .ok a t → Ax s t a 5 d := fun y x h1 h2 h3 h4 h5 h6 hp => by
      obtain ⟨g, g1, _⟩ := put_gr hp
      refine ⟨x, h1, h2, by unfold pd; rw [h3, h4, if_neg (by omega)]; omega, by rw [h6]; exact g.adv, ?_⟩
      rw [g1]; exact rt_eq (by rw [h5]; rfl)
    split at h
    · rename_i hk
      have hn := num_wf (hT.nu _ hk)
      exact leaf _ (.num (Sy.num (Sy.wd E s))) rfl ⟨hn.1, by rw [hn.2]; exact hT.nu _ hk⟩ rfl rfl rfl rfl h
    split at h
    · exact leaf _ .tt rfl trivial rfl rfl rfl rfl h
    split at h
    · exact leaf _ .ff rfl trivial rfl rfl rfl rfl h
    split at h
    · exact leaf _ .rd rfl trivial rfl rfl rfl rfl h
    split at h
    · obtain ⟨b, s1, e1, e2⟩ := bind_inv h
      obtain ⟨_, s2, e3, e4⟩ := bind_inv e2
      obtain ⟨rfl, _⟩ := want_gr e3
      cases e4
      obtain ⟨⟨x, x1, x2, x3, x4, x5⟩, hd1⟩ := hL.expr _ _ _ _ e1
      rw [pd_0] at x3
      exact ⟨x, x1, x2, by have := pd_le 5 x; omega, x4.adv.adv', x5⟩
    obtain ⟨nm, s1, e1, e2⟩ := bind_inv h
    obtain ⟨rfl, rfl, hk⟩ := knd_gr e1
    have hn := hT.nm _ hk
    split at e2
    · obtain ⟨b, s2, e3, e4⟩ := bind_inv e2
      obtain ⟨_, s3, e5, e6⟩ := bind_inv e4
      obtain ⟨rfl, _⟩ := want_gr e5
      obtain ⟨⟨x, x1, x2, x3, x4, x5⟩, hd1⟩ := hL.expr _ _ _ _ e3
      rw [pd_0] at x3
      obtain ⟨g, g1, g2⟩ := put_gr e6
      have lx := x4.len
      rw [fl_len] at lx
      refine ⟨.idx (Sy.wd E s) x, rfl, ⟨hn, x1, x2⟩, ?_, Gr.adv (Gr.adv (by simpa [fl, bx, x5, Sy.adv] using x4.adv'.trans g)), ?_⟩
      · have e : pd 5 (.idx (Sy.wd E s) x) = dp x + 1 := by simp only [pd, dp]; rw [if_neg (by simp [lvX])]
        rw [e]; omega
      · rw [g1]; exact rt_eq (by show s2.ex.length + 1 = s.ex.length + (sz x + 1); rw [lx]; rfl)
    · split at e2
      · obtain ⟨l, l1, l2, l3, l4, l5⟩ := call_ax hL hn hd e2
        exact ⟨.call (Sy.wd E s) l, rfl, l2, by unfold pd; rw [if_neg (by simp [lvX])]; exact l3, l4.adv, l5⟩
      · obtain ⟨g, g1, _⟩ := put_gr e2
        refine ⟨.nm (Sy.wd E s), rfl, hn, by unfold pd; rw [if_neg (by simp [lvX])]; show d + ((0 + 0 : Nat) : Int) ≤ 64; omega, Gr.adv g, ?_⟩
        rw [g1]; exact rt_eq rfl
  · intro fr nm d l s a t hd h
    have h : sArgs E L fr nm d l s = .ok a t := h
    unfold sArgs at h
    split at h
    · obtain ⟨g, g1, _⟩ := put_gr h
      refine ⟨.nil, rfl, trivial, by simpa [dp] using hd, Gr.adv (by simpa [fl, rts, bx] using g), ?_⟩
      rw [g1]; simp [sz, Sy.adv]
    · obtain ⟨_, s1, e1, e2⟩ := bind_inv h
      have es : s1.ex = s.ex ∧ s1.st = s.st ∧ s1.fn = s.fn := by
        split at e1
        · cases e1; exact ⟨rfl, rfl, rfl⟩
        · obtain ⟨rfl, _⟩ := want_gr e1; exact ⟨rfl, rfl, rfl⟩
      obtain ⟨b, s2, e3, e4⟩ := bind_inv e2
      obtain ⟨ha, hd1⟩ := hL.expr _ _ _ _ e3
      obtain ⟨x, x1, x2, x3, x4, x5⟩ := ha.of (s' := s) es.1.symm es.2.1.symm es.2.2.symm
      rw [pd_0] at x3
      have lx := x4.len
      rw [fl_len] at lx
      split at e4
      · obtain ⟨y, y1, y2, y3, y4, y5⟩ := hL.args _ _ _ _ _ _ _ hd e4
        rw [lx] at y4 y5
        refine ⟨.cons x y, rfl, ⟨x1, y1, x2, y2⟩, by simp only [dp]; omega, ?_, by rw [y5]; simp only [sz]; omega⟩
        have := x4.trans y4
        simpa [fl, rts, x5] using this
      · unfold Sy.er at e4; cases e4
theorem ax_lv (hT : Tkn E) : ∀ n, AxL (lv E n)
  | 0 => ⟨fun _ _ _ _ _ _ _ h => (by cases h), fun _ _ _ _ _ _ _ _ h => (by cases h), fun _ _ _ _ h => (by cases h), fun _ _ _ _ _ h => (by cases h), fun _ _ _ _ _ h => (by cases h), fun _ _ _ _ _ _ _ _ h => (by cases h)⟩
  | n + 1 => ax_step hT (ax_lv hT n)
end
end Go.Proofs.YtfnbgbeinmekgaaGreatDoor.Pt
namespace Go.Proofs.YtfnbgbeinmekgaaGreatDoor.Pt
open Go Sy Nu
set_option linter.unusedVariables false
/-- A statement; nil and cons: a row of some. -/
inductive Y where
  | svar (w : List Int) (x : X)
  | sarr (w : List Int) (n : Int)
  | sset (w : List Int) (x : X)
  | sput (w : List Int) (x y : X)
  | sif (x : X) (th el : Y)
  | swh (x : X) (th : Y)
  | brk
  | cnt
  | ret0
  | ret (x : X)
  | prn (x : X)
  | scl (x : X)
  | nil
  | cons (s l : Y)
def isY : Y → Bool
  | .nil => false
  | .cons _ _ => false
  | _ => true
def isIf : Y → Bool
  | .sif _ _ _ => true
  | _ => false
/-- How many expressions, statements. -/
def zx : Y → Nat
  | .svar _ x => sz x
  | .sset _ x => sz x
  | .sput _ x y => sz x + sz y
  | .sif x th el => sz x + (zx th + zx el)
  | .swh x th => sz x + zx th
  | .ret x => sz x
  | .prn x => sz x
  | .scl x => sz x
  | .cons s l => zx s + zx l
  | _ => 0
def zy : Y → Nat
  | .sif _ th el => zy th + zy el + 1
  | .swh _ th => zy th + 1
  | .nil => 0
  | .cons s l => zy s + zy l
  | _ => 1
def ry (ls : Nat) (y : Y) : Int := ((ls + zy y : Nat) : Int) - 1
def rys (ls : Nat) : Y → List Int
  | .cons s l => ry ls s :: rys (ls + zy s) l
  | _ => []
def fx (lo : Nat) : Y → List Ex
  | .svar _ x => fl lo x
  | .sset _ x => fl lo x
  | .sput _ x y => fl lo x ++ fl (lo + sz x) y
  | .sif x th el => fl lo x ++ (fx (lo + sz x) th ++ fx (lo + sz x + zx th) el)
  | .swh x th => fl lo x ++ fx (lo + sz x) th
  | .ret x => fl lo x
  | .prn x => fl lo x
  | .scl x => fl lo x
  | .cons s l => fx lo s ++ fx (lo + zx s) l
  | _ => []
def fy (lo ls : Nat) : Y → List St
  | .svar w x => [{ k := 1, nm := w, a := rt lo x }]
  | .sarr w n => [{ k := 2, nm := w, n := n }]
  | .sset w x => [{ k := 3, nm := w, a := rt lo x }]
  | .sput w x y => [{ k := 4, nm := w, a := rt lo x, b := rt (lo + sz x) y }]
  | .sif x th el => fy (lo + sz x) ls th ++ (fy (lo + sz x + zx th) (ls + zy th) el ++ [{ k := 5, a := rt lo x, th := rys ls th, el := rys (ls + zy th) el }])
  | .swh x th => fy (lo + sz x) ls th ++ [{ k := 6, a := rt lo x, th := rys ls th }]
  | .brk => [{ k := 7 }]
  | .cnt => [{ k := 8 }]
  | .ret0 => [{ k := 9, a := -1 }]
  | .ret x => [{ k := 9, a := rt lo x }]
  | .prn x => [{ k := 10, a := rt lo x }]
  | .scl x => [{ k := 11, a := rt lo x }]
  | .nil => []
  | .cons s l => fy lo ls s ++ fy (lo + zx s) (ls + zy s) l
theorem fx_len : ∀ (y : Y) (lo : Nat), (fx lo y).length = zx y := by
  intro y
  induction y with
  | sif x a b iha ihb => intro lo; simp [fx, zx, iha, ihb, fl_len]
  | swh x a iha => intro lo; simp [fx, zx, iha, fl_len]
  | cons a b iha ihb => intro lo; simp [fx, zx, iha, ihb]
  | _ => intro lo; simp [fx, zx, fl_len]
theorem fy_len : ∀ (y : Y) (lo ls : Nat), (fy lo ls y).length = zy y := by
  intro y
  induction y with
  | sif x a b iha ihb => intro lo ls; simp [fy, zy, iha, ihb]; omega
  | swh x a iha => intro lo ls; simp [fy, zy, iha]
  | cons a b iha ihb => intro lo ls; simp [fy, zy, iha, ihb]
  | _ => intro lo ls; rfl
def isC : X → Bool
  | .call _ _ => true
  | _ => false
def wfY : Y → Prop
  | .svar w x => NmW w ∧ isX x = true ∧ wf x
  | .sarr w n => NmW w ∧ 0 ≤ n ∧ NuW (dc n)
  | .sset w x => NmW w ∧ isX x = true ∧ wf x
  | .sput w x y => NmW w ∧ isX x = true ∧ wf x ∧ isX y = true ∧ wf y
  | .sif x th el => isX x = true ∧ wf x ∧ isY th = false ∧ wfY th ∧ isY el = false ∧ wfY el
  | .swh x th => isX x = true ∧ wf x ∧ isY th = false ∧ wfY th
  | .ret x => isX x = true ∧ wf x
  | .prn x => isX x = true ∧ wf x
  | .scl x => isC x = true ∧ wf x
  | .cons s l => isY s = true ∧ isY l = false ∧ wfY s ∧ wfY l
  | _ => True
/-- It is nested no deeper than it may be, if it stands so deep. -/
def okY (d : Int) : Y → Prop
  | .svar _ x => d + dp x ≤ 64
  | .sset _ x => d + dp x ≤ 64
  | .sput _ x y => d + 1 + dp x ≤ 64 ∧ d + dp y ≤ 64
  | .sif x th el => d + dp x ≤ 64 ∧ d + 1 ≤ 64 ∧ okY (d + 1) th ∧ okY (d + 1) el
  | .swh x th => d + dp x ≤ 64 ∧ d + 1 ≤ 64 ∧ okY (d + 1) th
  | .ret x => d + dp x ≤ 64
  | .prn x => d + dp x ≤ 64
  | .scl x => d + dp x ≤ 64
  | .cons s l => okY d s ∧ okY d l
  | _ => True
def bs (x : St) : St := { x with f := 0, e := 0 }
structure Gy (s t : PS) (xs : List Ex) (ys : List St) : Prop where
  ex : t.ex.map bx = s.ex.map bx ++ xs
  st : t.st.map bs = s.st.map bs ++ ys
  fn : t.fn = s.fn
theorem Gr.gy {s t : PS} {xs : List Ex} (h : Gr s t xs) : Gy s t xs [] := ⟨h.ex, by rw [h.st]; simp, h.fn⟩
theorem Gy.trans {s t u : PS} {xs xs' : List Ex} {ys ys' : List St} (h : Gy s t xs ys) (g : Gy t u xs' ys') : Gy s u (xs ++ xs') (ys ++ ys') :=
  ⟨by rw [g.ex, h.ex, List.append_assoc], by rw [g.st, h.st, List.append_assoc], g.fn.trans h.fn⟩
theorem Gy.refl (s : PS) : Gy s s [] [] := ⟨by simp, by simp, rfl⟩
theorem Gy.adv {s t : PS} {xs : List Ex} {ys : List St} (h : Gy (Sy.adv s) t xs ys) : Gy s t xs ys := ⟨h.ex, h.st, h.fn⟩
theorem Gy.adv' {s t : PS} {xs : List Ex} {ys : List St} (h : Gy s t xs ys) : Gy s (Sy.adv t) xs ys := ⟨h.ex, h.st, h.fn⟩
theorem Gy.len {s t : PS} {xs : List Ex} {ys : List St} (h : Gy s t xs ys) : t.ex.length = s.ex.length + xs.length ∧ t.st.length = s.st.length + ys.length := by
  have h1 := congrArg List.length h.ex
  have h2 := congrArg List.length h.st
  exact ⟨by simpa using h1, by simpa using h2⟩
theorem add_gy {E : Env} {fr : Int} {x : St} {s t : PS} {a : Int} (h : add E fr x s = .ok a t) : Gy s t [] [bs x] ∧ a = (s.st.length : Int) ∧ t.i = s.i ∧ s.st.length < 1000 := by
  unfold add at h
  split at h
  · cases h
  · cases h
    exact ⟨⟨by simp, by simp [bs], rfl⟩, rfl, rfl, by omega⟩
theorem endS_gy {E : Env} {fr : Int} {x : St} {s t : PS} {a : Int} (h : endS E fr x s = .ok a t) : Gy s t [] [bs x] ∧ a = (s.st.length : Int) := by
  obtain ⟨_, s1, e1, e2⟩ := bind_inv h
  obtain ⟨rfl, _⟩ := want_gr e1
  obtain ⟨g, g1, _⟩ := add_gy e2
  exact ⟨g.adv, g1⟩
/-- A statement that was parsed. -/
def Ay (s t : PS) (a : Int) (d : Int) : Prop := ∃ y, isY y = true ∧ wfY y ∧ okY d y ∧ Gy s t (fx s.ex.length y) (fy s.ex.length s.st.length y) ∧ a = ry s.st.length y
structure AyL (L : Lv) : Prop where
  stmts : ∀ d l s o t, d ≤ 64 → L.stmts d l s = .ok o t → ∃ y, isY y = false ∧ wfY y ∧ okY d y ∧ Gy s t (fx s.ex.length y) (fy s.ex.length s.st.length y) ∧ o = l ++ rys s.st.length y
  stmt : ∀ d s a t, d ≤ 64 → L.stmt d s = .ok a t → Ay s t a d
  branch : ∀ fr d s a t, d ≤ 64 → L.branch fr d s = .ok a t → Ay s t a d
section
variable {E : Env} {L : Lv}
theorem block_ay (hL : AyL L) {d : Int} {s t : PS} {o : List Int} (h : block E L d s = .ok o t) : d ≤ 64 ∧ ∃ y, isY y = false ∧ wfY y ∧ okY d y ∧ Gy s t (fx s.ex.length y) (fy s.ex.length s.st.length y) ∧ o = rys s.st.length y := by
  obtain ⟨_, s1, h1, h2⟩ := bind_inv h
  obtain ⟨_, s2, h3, h4⟩ := bind_inv h2
  obtain ⟨rfl, hw⟩ := want_gr h3
  split at h1
  · obtain ⟨rfl, hd⟩ := deep_gr h1
    obtain ⟨y, y1, y2, y3, y4, y5⟩ := hL.stmts _ _ _ _ _ hd h4
    exact ⟨hd, y, y1, y2, y3, y4.adv, by simpa [Sy.adv] using y5⟩
  · rename_i hn
    cases h1
    exact absurd hw hn
/-- A state goes on where an expression, a statement ended. -/
theorem ry_eq {ls : Nat} {y : Y} {n : Nat} (h : n + 1 = ls + zy y) : (n : Int) = ry ls y := by unfold ry; omega
theorem ay_step (hT : Tkn E) (hX : AxL L) (hL : AyL L) : AyL (stepL E L) := by
  constructor
  · intro d l s o t hd h
    have h : sStmts E L d l s = .ok o t := h
    unfold sStmts at h
    split at h
    · cases h
      exact ⟨.nil, rfl, trivial, trivial, (Gy.refl s).adv', by simp [rys]⟩
    · obtain ⟨a, s1, e1, e2⟩ := bind_inv h
      obtain ⟨y, y1, y2, y3, y4, y5⟩ := hL.stmt _ _ _ _ hd e1
      obtain ⟨z, z1, z2, z3, z4, z5⟩ := hL.stmts _ _ _ _ _ hd e2
      obtain ⟨l1, l2⟩ := y4.len
      rw [fx_len] at l1
      rw [fy_len] at l2
      rw [l1, l2] at z4
      rw [l2] at z5
      exact ⟨.cons y z, rfl, ⟨y1, z1, y2, z2⟩, ⟨y3, z3⟩, y4.trans z4, by rw [z5, y5]; simp [rys]⟩
  · intro d s a t hd h
    have h : sStmt E L d s = .ok a t := h
    unfold sStmt at h
    -- a statement of one expression
    have one : ∀ (f : X → Y) (k : Int) (nm : List Int) (s1 : PS) (b : Int), (∀ x, isX x = true → wf x → d + dp x ≤ 64 → isY (f x) = true ∧ wfY (f x) ∧ okY d (f x)) → (∀ x lo, fx lo (f x) = fl lo x) → (∀ x lo ls, fy lo ls (f x) = [bs { k := k, nm := nm, a := rt lo x }]) → (∀ x, zy (f x) = 1) →
        (∃ x, isX x = true ∧ wf x ∧ d + dp x ≤ 64 ∧ Gr s s1 (fl s.ex.length x) ∧ b = rt s.ex.length x) → endS E (hr E s) { k := k, nm := nm, a := b } s1 = .ok a t → Ay s t a d := by
      intro f k nm s1 b h1 h2 h3 h4 ⟨x, x1, x2, x3, x4, x5⟩ hq
      obtain ⟨g, g1⟩ := endS_gy hq
      obtain ⟨a1, a2, a3⟩ := h1 x x1 x2 x3
      refine ⟨f x, a1, a2, a3, ?_, ?_⟩
      · rw [h2, h3]; have := x4.gy.trans g; rw [x5] at this; simpa using this
      · rw [g1, x4.st]; exact ry_eq (by rw [h4])
    split at h
    · obtain ⟨x, s1, e1, e2⟩ := bind_inv h
      obtain ⟨nm, s2, e3, e4⟩ := bind_inv e1
      obtain ⟨rfl, rfl, hk⟩ := knd_gr e3
      have hn := hT.nm _ hk
      split at e4
      · obtain ⟨w, s3, e5, e6⟩ := bind_inv e4
        obtain ⟨_, s4, e7, e8⟩ := bind_inv e6
        obtain ⟨rfl, rfl, hk2⟩ := knd_gr e5
        obtain ⟨rfl, _⟩ := want_gr e7
        cases e8
        obtain ⟨g, g1⟩ := endS_gy e2
        have hu := num_wf (hT.nu _ hk2)
        exact ⟨.sarr (Sy.wd E (Sy.adv s)) (Sy.num (Sy.wd E (Sy.adv (Sy.adv (Sy.adv s))))), rfl, ⟨hn, hu.1, by rw [hu.2]; exact hT.nu _ hk2⟩, trivial, g.adv.adv.adv.adv.adv, by rw [g1]; exact ry_eq rfl⟩
      · obtain ⟨_, s3, e5, e6⟩ := bind_inv e4
        obtain ⟨rfl, _⟩ := want_gr e5
        obtain ⟨b, s4, e7, e8⟩ := bind_inv e6
        cases e8
        obtain ⟨⟨x, x1, x2, x3, x4, x5⟩, _⟩ := hX.expr _ _ _ _ e7
        rw [pd_0] at x3
        exact one (fun x => .svar (Sy.wd E (Sy.adv s)) x) 1 _ _ _ (fun x h1 h2 h3 => ⟨rfl, ⟨hn, h1, h2⟩, h3⟩) (fun _ _ => rfl) (fun _ _ _ => rfl) (fun _ => rfl) ⟨x, x1, x2, x3, x4.adv.adv.adv, x5⟩ e2
    split at h
    · obtain ⟨y, y1, y2, y3, y4, y5⟩ := hL.branch _ _ _ _ _ hd h
      exact ⟨y, y1, y2, y3, y4.adv, y5⟩
    split at h
    · obtain ⟨b, s1, e1, e2⟩ := bind_inv h
      obtain ⟨⟨x, x1, x2, x3, x4, x5⟩, _⟩ := hX.expr _ _ _ _ e1
      rw [pd_0] at x3
      obtain ⟨th, s2, e3, e4⟩ := bind_inv e2
      obtain ⟨hd1, y, y1, y2, y3, y4, y5⟩ := block_ay hL e3
      obtain ⟨g, g1, _⟩ := add_gy e4
      have lx := x4.len
      rw [fl_len] at lx
      have lx : s1.ex.length = s.ex.length + sz x := lx
      have ls : s1.st.length = s.st.length := by rw [x4.st]; rfl
      rw [lx, ls] at y4
      rw [ls] at y5
      have l2 := y4.len.2
      rw [fy_len] at l2
      refine ⟨.swh x y, rfl, ⟨x1, x2, y1, y2⟩, ⟨x3, hd1, y3⟩, ?_, ?_⟩
      · have := (x4.adv.gy.trans y4).trans g
        rw [x5, y5] at this
        simpa [fx, fy, bs, Sy.adv] using this
      · rw [g1, l2, ls]; exact ry_eq (by simp only [zy]; omega)
    split at h
    · obtain ⟨g, g1⟩ := endS_gy h
      exact ⟨.brk, rfl, trivial, trivial, g.adv, by rw [g1]; exact ry_eq rfl⟩
    split at h
    · obtain ⟨g, g1⟩ := endS_gy h
      exact ⟨.cnt, rfl, trivial, trivial, g.adv, by rw [g1]; exact ry_eq rfl⟩
    split at h
    · split at h
      · obtain ⟨g, g1⟩ := endS_gy h
        exact ⟨.ret0, rfl, trivial, trivial, g.adv, by rw [g1]; exact ry_eq rfl⟩
      · obtain ⟨b, s1, e1, e2⟩ := bind_inv h
        obtain ⟨⟨x, x1, x2, x3, x4, x5⟩, _⟩ := hX.expr _ _ _ _ e1
        rw [pd_0] at x3
        exact one (fun x => .ret x) 9 _ _ _ (fun x h1 h2 h3 => ⟨rfl, ⟨h1, h2⟩, h3⟩) (fun _ _ => rfl) (fun _ _ _ => rfl) (fun _ => rfl) ⟨x, x1, x2, x3, x4.adv, x5⟩ e2
    split at h
    · obtain ⟨b, s1, e1, e2⟩ := bind_inv h
      obtain ⟨⟨x, x1, x2, x3, x4, x5⟩, _⟩ := hX.expr _ _ _ _ e1
      rw [pd_0] at x3
      exact one (fun x => .prn x) 10 _ _ _ (fun x h1 h2 h3 => ⟨rfl, ⟨h1, h2⟩, h3⟩) (fun _ _ => rfl) (fun _ _ _ => rfl) (fun _ => rfl) ⟨x, x1, x2, x3, x4.adv, x5⟩ e2
    obtain ⟨x, s1, e1, e2⟩ := bind_inv h
    obtain ⟨nm, s2, e3, e4⟩ := bind_inv e1
    obtain ⟨rfl, rfl, hk⟩ := knd_gr e3
    have hn := hT.nm _ hk
    split at e4
    · obtain ⟨b, s3, e5, e6⟩ := bind_inv e4
      cases e6
      obtain ⟨l, l1, l2, l3, l4, l5⟩ := call_ax hX hn hd e5
      obtain ⟨g, g1⟩ := endS_gy e2
      refine ⟨.scl (.call (Sy.wd E s) l), rfl, ⟨rfl, l2⟩, l3, ?_, ?_⟩
      · have := l4.adv.gy.trans g; rw [l5] at this; simpa [fx, fy, bs, Sy.adv] using this
      · rw [g1, l4.st]; exact ry_eq rfl
    split at e4
    · obtain ⟨b, s3, e5, e6⟩ := bind_inv e4
      obtain ⟨_, s4, e7, e8⟩ := bind_inv e6
      obtain ⟨rfl, _⟩ := want_gr e7
      obtain ⟨_, s5, e9, e10⟩ := bind_inv e8
      obtain ⟨rfl, _⟩ := want_gr e9
      obtain ⟨c, s6, e11, e12⟩ := bind_inv e10
      cases e12
      obtain ⟨⟨x, x1, x2, x3, x4, x5⟩, _⟩ := hX.expr _ _ _ _ e5
      obtain ⟨⟨y, y1, y2, y3, y4, y5⟩, _⟩ := hX.expr _ _ _ _ e11
      rw [pd_0] at x3 y3
      obtain ⟨g, g1⟩ := endS_gy e2
      have lx := x4.len
      rw [fl_len] at lx
      have lx : s3.ex.length = s.ex.length + sz x := lx
      have ly : (Sy.adv (Sy.adv s3)).ex.length = s.ex.length + sz x := lx
      rw [ly] at y4 y5
      refine ⟨.sput (Sy.wd E s) x y, rfl, ⟨hn, x1, x2, y1, y2⟩, ⟨by omega, y3⟩, ?_, ?_⟩
      · have := (x4.adv.adv.adv'.adv'.gy.trans y4.gy).trans g
        rw [x5, y5] at this
        simpa [fx, fy, bs, Sy.adv] using this
      · rw [g1, y4.st]; show ((s3.st.length : Nat) : Int) = _; rw [x4.st]; exact ry_eq rfl
    · obtain ⟨_, s3, e5, e6⟩ := bind_inv e4
      obtain ⟨rfl, _⟩ := want_gr e5
      obtain ⟨b, s4, e7, e8⟩ := bind_inv e6
      cases e8
      obtain ⟨⟨x, x1, x2, x3, x4, x5⟩, _⟩ := hX.expr _ _ _ _ e7
      rw [pd_0] at x3
      exact one (fun x => .sset (Sy.wd E s) x) 3 _ _ _ (fun x h1 h2 h3 => ⟨rfl, ⟨hn, h1, h2⟩, h3⟩) (fun _ _ => rfl) (fun _ _ _ => rfl) (fun _ => rfl) ⟨x, x1, x2, x3, x4.adv.adv, x5⟩ e2
  · intro fr d s a t hd h
    have h : sBranch E L fr d s = .ok a t := h
    obtain ⟨b, s1, e1, e2⟩ := bind_inv h
    obtain ⟨⟨x, x1, x2, x3, x4, x5⟩, _⟩ := hX.expr _ _ _ _ e1
    rw [pd_0] at x3
    obtain ⟨th, s2, e3, e4⟩ := bind_inv e2
    obtain ⟨hd1, y, y1, y2, y3, y4, y5⟩ := block_ay hL e3
    have lx := x4.len
    rw [fl_len] at lx
    have ls : s1.st.length = s.st.length := by rw [x4.st]
    rw [lx, ls] at y4
    rw [ls] at y5
    have l2 := y4.len
    rw [fx_len, fy_len, lx, ls] at l2
    have key : ∀ (s3 : PS) (el : List Int), (∃ z, isY z = false ∧ wfY z ∧ okY (d + 1) z ∧ Gy s2 s3 (fx s2.ex.length z) (fy s2.ex.length s2.st.length z) ∧ el = rys s2.st.length z) → add E fr { k := 5, a := b, th := th, el := el } s3 = .ok a t → Ay s t a d := by
      rintro s3 el ⟨z, z1, z2, z3, z4, z5⟩ hq
      obtain ⟨g, g1, _⟩ := add_gy hq
      rw [l2.1, l2.2] at z4
      rw [l2.2] at z5
      have l3 := z4.len.2
      rw [fy_len, l2.2] at l3
      refine ⟨.sif x y z, rfl, ⟨x1, x2, y1, y2, z1, z2⟩, ⟨x3, hd1, y3, z3⟩, ?_, ?_⟩
      · have := ((x4.gy.trans y4).trans z4).trans g
        rw [x5, y5, z5] at this
        simpa [fx, fy, bs] using this
      · rw [g1, l3]; exact ry_eq (by simp only [zy]; omega)
    split at e4
    · split at e4
      · obtain ⟨_, s3, e5, e6⟩ := bind_inv e4
        obtain ⟨rfl, _⟩ := deep_gr e5
        obtain ⟨c, s4, e7, e8⟩ := bind_inv e6
        obtain ⟨z, z1, z2, z3, z4, z5⟩ := hL.branch _ _ _ _ _ hd1 e7
        exact key s4 _ ⟨.cons z .nil, rfl, ⟨z1, rfl, z2, trivial⟩, ⟨z3, trivial⟩, Gy.adv (Gy.adv (by simpa [fx, fy, Sy.adv] using z4)), by rw [z5]; rfl⟩ e8
      · obtain ⟨el, s3, e5, e6⟩ := bind_inv e4
        obtain ⟨_, z, z1, z2, z3, z4, z5⟩ := block_ay hL e5
        exact key s3 _ ⟨z, z1, z2, z3, z4.adv, z5⟩ e6
    · exact key s2 [] ⟨.nil, rfl, trivial, trivial, Gy.refl _, rfl⟩ e4
theorem ay_lv (hT : Tkn E) : ∀ n, AyL (lv E n)
  | 0 => ⟨fun _ _ _ _ _ _ h => (by cases h), fun _ _ _ _ _ h => (by cases h), fun _ _ _ _ _ _ h => (by cases h)⟩
  | n + 1 => ay_step hT (ax_lv hT n) (ay_lv hT n)
end
end Go.Proofs.YtfnbgbeinmekgaaGreatDoor.Pt
namespace Go.Proofs.YtfnbgbeinmekgaaGreatDoor.Pt
open Go Sy Nu
set_option linter.unusedVariables false
structure F where
  nm : List Int
  ps : List (List Int)
  ty : Int
  bd : Y
def pX (lo : Nat) : List F → List Ex
  | [] => []
  | f :: r => fx lo f.bd ++ pX (lo + zx f.bd) r
def pS (lo ls : Nat) : List F → List St
  | [] => []
  | f :: r => fy lo ls f.bd ++ pS (lo + zx f.bd) (ls + zy f.bd) r
def pF (ls : Nat) : List F → List Sy.Fn
  | [] => []
  | f :: r => { nm := f.nm, ps := f.ps, ty := f.ty, bd := rys ls f.bd } :: pF (ls + zy f.bd) r
def bf (x : Sy.Fn) : Sy.Fn := { x with f := 0, e := 0 }
structure wfF (f : F) : Prop where
  nm : NmW f.nm
  ps : ∀ p ∈ f.ps, NmW p
  pl : f.ps.length ≤ 20001
  ty : f.ty = 1 ∨ f.ty = 4
  is : isY f.bd = false
  wf : wfY f.bd
  ok : okY 1 f.bd
/-- A parsed program is one of trees. -/
structure Is (S : PS) (fs : List F) : Prop where
  ex : S.ex.map bx = pX 0 fs
  st : S.st.map bs = pS 0 0 fs
  fn : S.fn.map bf = pF 0 fs
  wf : ∀ f ∈ fs, wfF f
  len : S.fn.length ≤ 32
section
variable {E : Env}
theorem prms_ax (hT : Tkn E) : ∀ n l s ps t, prms E n l s = .ok ps t → (∀ p ∈ ps, p ∈ l ∨ NmW p) ∧ t.ex = s.ex ∧ t.st = s.st ∧ t.fn = s.fn := by
  intro n
  induction n with
  | zero => intro l s ps t h; cases h
  | succ n ih =>
    intro l s ps t h
    unfold prms at h
    split at h
    · cases h; exact ⟨fun p hp => .inl hp, rfl, rfl, rfl⟩
    · obtain ⟨_, s1, h1, h2⟩ := bind_inv h
      have es : s1.ex = s.ex ∧ s1.st = s.st ∧ s1.fn = s.fn := by
        split at h1
        · cases h1; exact ⟨rfl, rfl, rfl⟩
        · obtain ⟨rfl, _⟩ := want_gr h1; exact ⟨rfl, rfl, rfl⟩
      obtain ⟨w, s2, h3, h4⟩ := bind_inv h2
      obtain ⟨rfl, rfl, hk⟩ := knd_gr h3
      split at h4
      · obtain ⟨a, b, c, d⟩ := ih _ _ _ _ h4
        refine ⟨fun p hp => ?_, b.trans es.1, c.trans es.2.1, d.trans es.2.2⟩
        rcases a p hp with h | h
        · rcases List.mem_append.1 h with h | h
          · exact .inl h
          · rw [List.mem_singleton.1 h]; exact .inr (hT.nm _ hk)
        · exact .inr h
      · unfold Sy.er at h4; cases h4
theorem prms_many : ∀ n l s ps t, prms E n l s = .ok ps t → ps.length ≤ l.length + (E.T.length - s.i) := by
  intro n
  induction n with
  | zero => intro l s ps t h; cases h
  | succ n ih =>
    intro l s ps t h
    unfold prms at h
    split at h
    · cases h; omega
    · obtain ⟨_, s1, h1, h2⟩ := bind_inv h
      have es : s.i ≤ s1.i := by
        split at h1
        · cases h1; exact Nat.le_refl _
        · obtain ⟨rfl, _⟩ := want_gr h1; exact Nat.le_succ _
      obtain ⟨w, s2, h3, h4⟩ := bind_inv h2
      obtain ⟨rfl, rfl, hk⟩ := knd_gr h3
      have hlt := kd_lt rfl (show Sy.kd E s1 ≠ 0 by rw [hk]; decide)
      split at h4
      · have := ih _ _ _ _ h4
        have e : (Sy.adv s1).i = s1.i + 1 := rfl
        rw [List.length_append, e] at this
        simp only [List.length_singleton] at this
        omega
      · unfold Sy.er at h4; cases h4
theorem fct_ax (hT : Tkn E) {n : Nat} {s t : PS} {x : Unit} (h : fct E n s = .ok x t) : ∃ f, wfF f ∧ t.ex.map bx = s.ex.map bx ++ fx s.ex.length f.bd ∧ t.st.map bs = s.st.map bs ++ fy s.ex.length s.st.length f.bd ∧
    t.fn.map bf = s.fn.map bf ++ [{ nm := f.nm, ps := f.ps, ty := f.ty, bd := rys s.st.length f.bd }] ∧ t.fn.length ≤ 32 := by
  obtain ⟨hl, nm, s2, s3, ps, s4, ty, s5, bd, s6, h2, h3, h4, h5, q, h6, rfl⟩ := fct_inv h
  obtain ⟨rfl, rfl, hk⟩ := knd_gr h2
  obtain ⟨rfl, _⟩ := want_gr h3
  obtain ⟨hp, e1, e2, e3⟩ := prms_ax hT _ _ _ _ _ h4
  have e5 : s5.ex = s4.ex ∧ s5.st = s4.st ∧ s5.fn = s4.fn ∧ (ty = 1 ∨ ty = 4) := by
    rcases h5 with ⟨_, rfl, rfl⟩ | ⟨_, rfl, rfl⟩
    · exact ⟨rfl, rfl, rfl, .inl rfl⟩
    · exact ⟨rfl, rfl, rfl, .inr rfl⟩
  obtain ⟨hd, y, y1, y2, y3, y4, y5⟩ := block_ay (ay_lv hT n) h6
  have ex : s5.ex = s.ex := e5.1.trans e1
  have st : s5.st = s.st := e5.2.1.trans e2
  have fn : s5.fn = s.fn := e5.2.2.1.trans e3
  refine ⟨⟨Sy.wd E (Sy.adv s), ps, ty, y⟩, ⟨hT.nm _ hk, fun p h => (hp p h).elim (fun h => by cases h) id, by have := prms_many _ _ _ _ _ h4; have := hT.le; simp only [List.length_nil] at *; omega, e5.2.2.2, y1, y2, y3⟩, ?_, ?_, ?_, ?_⟩
  · have := y4.ex; rw [ex] at this; exact this
  · have := y4.st; rw [st, ex] at this; exact this
  · rw [y5, st]
    simp only [List.map_append, List.map_cons, List.map_nil]
    rw [y4.fn, fn]; rfl
  · simp only [List.length_append, List.length_singleton]
    rw [y4.fn, fn]; omega
theorem fcts_ax (hT : Tkn E) {m : Nat} : ∀ n s x t, s.fn.length ≤ 32 → fcts E m n s = .ok x t → ∃ fs, (∀ f ∈ fs, wfF f) ∧ t.ex.map bx = s.ex.map bx ++ pX s.ex.length fs ∧ t.st.map bs = s.st.map bs ++ pS s.ex.length s.st.length fs ∧ t.fn.map bf = s.fn.map bf ++ pF s.st.length fs ∧ t.fn.length ≤ 32 := by
  intro n
  induction n with
  | zero => intro s x t _ h; cases h
  | succ n ih =>
    intro s x t hs h
    unfold fcts at h
    split at h
    · cases h; exact ⟨[], fun f h => (by cases h), by simp [pX], by simp [pS], by simp [pF], hs⟩
    · obtain ⟨_, s1, h1, h2⟩ := bind_inv h
      obtain ⟨f, f1, f2, f3, f4, f5⟩ := fct_ax hT h1
      obtain ⟨fs, g1, g2, g3, g4, g5⟩ := ih _ _ _ f5 h2
      have l1 := congrArg List.length f2
      have l2 := congrArg List.length f3
      simp only [List.length_map, List.length_append, fx_len, fy_len] at l1 l2
      rw [l1] at g2 g3
      rw [l2] at g3 g4
      refine ⟨f :: fs, fun k hk => ?_, by rw [g2, f2, List.append_assoc]; rfl, by rw [g3, f3, List.append_assoc]; rfl, by rw [g4, f4, List.append_assoc]; rfl, g5⟩
      rcases List.mem_cons.1 hk with rfl | hk
      · exact f1
      · exact g1 k hk
end
/-- A token's own bytes are that token. -/
theorem body_self {M : List Int} (h1 : (Tk.body M).1 = true) (h2 : (Tk.body M).2.1 ≠ 0) : Tk.body (M.take (Tk.body M).2.2) = (true, (Tk.body M).2.1, (M.take (Tk.body M).2.2).length) := by
  have h0 : M ≠ [] := fun e => by subst e; exact h2 rfl
  have hp := (Tk.body_pos h1 h0).1
  have hl := Tk.body_le M
  have hn : M.take (Tk.body M).2.2 ≠ [] := fun e => by
    have := congrArg List.length e
    rw [List.length_take, List.length_nil] at this
    have := List.length_pos_iff.2 h0
    omega
  have a := (Tk.body_alone Tk.stop32 [] M h1 h2).1
  rw [Tk.body_append Tk.stop32 [] _ hn] at a
  rw [a, List.length_take, Nat.min_eq_left hl, ← h1]
theorem wd_self {L : List Int} (ht : Txt L) {s : PS} {k : Int} (hk : kd (envOf L) s = k) (h0 : k ≠ 0) : Tk.body (wd (envOf L) s) = (true, k, (wd (envOf L) s).length) := by
  obtain ⟨t, hT, e⟩ : ∃ t, (Tk.allT L).1[s.i]? = some t ∧ t.1 = k := by
    unfold kd at hk
    cases hT : (envOf L).T[s.i]? with
    | none => rw [hT] at hk; exact absurd hk.symm h0
    | some t => rw [hT] at hk; exact ⟨t, hT, hk⟩
  obtain ⟨b, h1, h2⟩ := Tk.als_each L _ _ 0 (by rw [List.drop_zero]; exact ht.als) t (List.mem_of_getElem? hT)
  have hw : wd (envOf L) s = ((L.drop b).drop (Tk.nx (L.drop b)).n).take (Tk.nx (L.drop b)).m := by
    show (List.map (fun t : Tk.T3 => (L.take t.2.2.toNat).drop t.2.1.toNat) (Tk.allT L).1)[s.i]?.getD [] = _
    rw [List.getElem?_map, hT, h2]
    simp only [Option.map_some, Option.getD_some, Int.toNat_natCast]
    exact wd_take
  have hk2 : (Tk.nx (L.drop b)).k = k := by rw [← e, h2]
  have := body_self (M := (L.drop b).drop (Tk.nx (L.drop b)).n) h1 (by show (Tk.nx (L.drop b)).k ≠ 0; rw [hk2]; exact h0)
  rw [hw]
  exact this.trans (by show (true, (Tk.nx (L.drop b)).k, _) = _; rw [hk2]; rfl)
theorem wd_short {L : List Int} (s : PS) : (wd (envOf L) s).length ≤ L.length := by
  unfold wd
  show ((List.map (fun t : Tk.T3 => (L.take t.2.2.toNat).drop t.2.1.toNat) (Tk.allT L).1)[s.i]?.getD []).length ≤ _
  rw [List.getElem?_map]
  cases (Tk.allT L).1[s.i]? with
  | none => simp
  | some t => simp only [Option.map_some, Option.getD_some, List.length_drop, List.length_take]; omega
theorem tkn_of {L : List Int} (ht : Txt L) : Tkn (envOf L) := ⟨fun s h => ⟨wd_self ht h (by decide), Nat.le_trans (wd_short s) ht.len⟩, fun s h => wd_self ht h (by decide), by have := env_T L; have := ht.len; omega⟩
/-- A text that is parsed is a program of trees. -/
theorem prs_tree {L : List Int} {S : PS} (h : prs L = .ok () S) : ∃ fs, Is S fs := by
  obtain ⟨ht, h0, hf⟩ := txt_of h
  obtain ⟨fs, g1, g2, g3, g4, g5⟩ := fcts_ax (tkn_of ht) _ _ _ _ (by simp) hf
  exact ⟨fs, by simpa using g2, by simpa using g3, by simpa using g4, g1, g5⟩
end Go.Proofs.YtfnbgbeinmekgaaGreatDoor.Pt
namespace Go.Proofs.YtfnbgbeinmekgaaGreatDoor.Pt
open Go Sy Nu
set_option linter.unusedVariables false
def br (b : Bool) (t : List Int) : List Int := if b then 40 :: (t ++ [41]) else t
def brW (b : Bool) (t : List (List Int)) : List (List Int) := if b then wLpar :: (t ++ [wRpar]) else t
def sepC : X → List Int
  | .nil => []
  | _ => [44, 32]
def sepW : X → List (List Int)
  | .nil => []
  | _ => [wComma]
def eT : X → List Int
  | .num n => dc n
  | .tt => wTrue
  | .ff => wFalse
  | .rd => wRead
  | .nm w => w
  | .idx w a => w ++ 91 :: (eT a ++ [93])
  | .call w l => w ++ 40 :: (eT l ++ [41])
  | .un op a => op ++ br (decide (lvX a < 5)) (eT a)
  | .pr op a b => br (decide (lvX a < lf (lvO op))) (eT a) ++ 32 :: (op ++ 32 :: br (decide (lvX b < lvO op + 1)) (eT b))
  | .nil => []
  | .cons x l => eT x ++ (sepC l ++ eT l)
def eW : X → List (List Int)
  | .num n => [dc n]
  | .tt => [wTrue]
  | .ff => [wFalse]
  | .rd => [wRead]
  | .nm w => [w]
  | .idx w a => w :: wLbra :: (eW a ++ [wRbra])
  | .call w l => w :: wLpar :: (eW l ++ [wRpar])
  | .un op a => op :: brW (decide (lvX a < 5)) (eW a)
  | .pr op a b => brW (decide (lvX a < lf (lvO op))) (eW a) ++ op :: brW (decide (lvX b < lvO op + 1)) (eW b)
  | .nil => []
  | .cons x l => eW x ++ (sepW l ++ eW l)
def bl (n : Nat) : List Int := List.replicate (2 * n) 32
def blk (d : Nat) (t : List Int) : List Int := 123 :: 10 :: (t ++ (bl d ++ [125]))
def blkW (t : List (List Int)) : List (List Int) := wLcur :: (t ++ [wRcur])
/-- An if that stands behind else without a block. -/
def isEI : Y → Bool
  | .cons (.sif _ _ _) .nil => true
  | _ => false
def isN : Y → Bool
  | .nil => true
  | _ => false
/-- The text of a statement that stands so deep; of a row of some: each on its line; true: the first one's alone. -/
def tY : Y → Bool → Nat → List Int
  | .svar w x, _, _ => wVar ++ 32 :: (w ++ 32 :: 61 :: 32 :: (eT x ++ [59]))
  | .sarr w n, _, _ => wVar ++ 32 :: (w ++ 91 :: (dc n ++ [93, 59]))
  | .sset w x, _, _ => w ++ 32 :: 61 :: 32 :: (eT x ++ [59])
  | .sput w x y, _, _ => w ++ 91 :: (eT x ++ 93 :: 32 :: 61 :: 32 :: (eT y ++ [59]))
  | .sif x th el, _, d => wIf ++ 32 :: (eT x ++ 32 :: (blk d (tY th false (d + 1)) ++ if isN el then [] else 32 :: (wElse ++ 32 :: if isEI el then tY el true d else blk d (tY el false (d + 1)))))
  | .swh x th, _, d => wWhile ++ 32 :: (eT x ++ 32 :: blk d (tY th false (d + 1)))
  | .brk, _, _ => wBreak ++ [59]
  | .cnt, _, _ => wCont ++ [59]
  | .ret0, _, _ => wReturn ++ [59]
  | .ret x, _, _ => wReturn ++ 32 :: (eT x ++ [59])
  | .prn x, _, _ => wPrint ++ 32 :: (eT x ++ [59])
  | .scl x, _, _ => eT x ++ [59]
  | .nil, _, _ => []
  | .cons s l, b, d => if b then tY s false d else bl d ++ (tY s false d ++ 10 :: tY l false d)
def wY : Y → Bool → List (List Int)
  | .svar w x, _ => wVar :: w :: wEq :: (eW x ++ [wSemi])
  | .sarr w n, _ => [wVar, w, wLbra, dc n, wRbra, wSemi]
  | .sset w x, _ => w :: wEq :: (eW x ++ [wSemi])
  | .sput w x y, _ => w :: wLbra :: (eW x ++ wRbra :: wEq :: (eW y ++ [wSemi]))
  | .sif x th el, _ => wIf :: (eW x ++ (blkW (wY th false) ++ if isN el then [] else wElse :: if isEI el then wY el true else blkW (wY el false)))
  | .swh x th, _ => wWhile :: (eW x ++ blkW (wY th false))
  | .brk, _ => [wBreak, wSemi]
  | .cnt, _ => [wCont, wSemi]
  | .ret0, _ => [wReturn, wSemi]
  | .ret x, _ => wReturn :: (eW x ++ [wSemi])
  | .prn x, _ => wPrint :: (eW x ++ [wSemi])
  | .scl x, _ => eW x ++ [wSemi]
  | .nil, _ => []
  | .cons s l, b => if b then wY s false else wY s false ++ wY l false
def jnP : List (List Int) → List Int
  | [] => []
  | [w] => w
  | w :: v :: r => w ++ 44 :: 32 :: jnP (v :: r)
def jnW : List (List Int) → List (List Int)
  | [] => []
  | [w] => [w]
  | w :: v :: r => w :: wComma :: jnW (v :: r)
def tF (f : F) : List Int := wFunc ++ 32 :: (f.nm ++ 40 :: (jnP f.ps ++ 41 :: 32 :: ((if f.ty = 1 then wInt ++ [32] else []) ++ (blk 0 (tY f.bd false 1) ++ [10]))))
def wF (f : F) : List (List Int) := wFunc :: f.nm :: wLpar :: (jnW f.ps ++ wRpar :: ((if f.ty = 1 then [wInt] else []) ++ blkW (wY f.bd false)))
def tP (fs : List F) : List Int := fs.flatMap tF
def wP (fs : List F) : List (List Int) := fs.flatMap wF
/-- A text's tokens are these words, and the end. -/
def Lx (K : List Int) (ws : List (List Int)) : Prop := ∃ ts, Tk.als (K.length + 1) 0 K = (ts, none) ∧ ts.map (tkw K) = ws ++ [[]]
theorem Lx.nil : Lx [] [] := ⟨[(0, 0, 0)], rfl, rfl⟩
theorem tkw_shift (w K : List Int) {t : Tk.T3} (h1 : 0 ≤ t.2.1) (h2 : t.2.1 ≤ t.2.2) : tkw (w ++ K) (Tk.shift w.length t) = tkw K t := by
  unfold tkw Tk.shift
  simp only
  have e1 : (t.2.2 + (w.length : Int)).toNat = w.length + t.2.2.toNat := by omega
  have e2 : (t.2.1 + (w.length : Int)).toNat = w.length + t.2.1.toNat := by omega
  rw [e1, e2, List.take_length_add_append, List.drop_length_add_append]
theorem map_shift (w K : List Int) {f a : Nat} {ts : List Tk.T3} (h : (Tk.als f a K).1 = ts) : (ts.map (Tk.shift w.length)).map (tkw (w ++ K)) = ts.map (tkw K) := by
  rw [List.map_map]
  refine List.map_congr_left fun t ht => ?_
  rw [← h] at ht
  have := Tk.als_bounds _ _ _ t ht
  exact tkw_shift w K (by omega) this.2.1
theorem Lx.word {w K : List Int} {ws : List (List Int)} {k : Int} (h : Lx K ws) (hb : Tk.body (w ++ K) = (true, k, w.length)) (hk : k ≠ 0) (h0 : Tk.sk false (w ++ K) = 0) : Lx (w ++ K) (w :: ws) := by
  obtain ⟨ts, h1, h2⟩ := h
  have hn : Tk.nx (w ++ K) = ⟨true, k, 0, w.length⟩ := by rw [Tk.nx, h0, List.drop_zero, hb]
  have hs := Tk.als_shift w.length (w ++ K).length 0 K
  have hne : w ≠ [] := fun e => by
    subst e
    rw [List.nil_append] at hb
    cases K with
    | nil => cases hb; exact hk rfl
    | cons c r => have := (Tk.body_pos (L := c :: r) (by rw [hb]) (by simp)).1; rw [hb] at this; simp at this
  have hlen := List.length_pos_iff.2 hne
  have hf := Tk.als_fuel (w ++ K).length (K.length + 1) 0 K (by simp; omega) (by omega)
  refine ⟨(k, ((0 : Nat) : Int), (w.length : Int)) :: ts.map (Tk.shift w.length), ?_, ?_⟩
  · rw [Tk.als_more (by rw [hn]) (by rw [hn]; exact hk), hn]
    simp only [Nat.zero_add]
    rw [List.drop_left, ← Nat.zero_add w.length, hs, hf, h1]
    simp
  · rw [List.map_cons, map_shift w K (f := K.length + 1) (a := 0) (by rw [h1]), h2]
    simp [tkw]
theorem Lx.blank {c : Int} {K : List Int} {ws : List (List Int)} (h : Lx K ws) (hc : Tk.blan c = true) : Lx (c :: K) ws := by
  obtain ⟨ts, h1, h2⟩ := h
  have e := Tk.als_blanks 1 c hc (c :: K).length 0 K
  have hs := Tk.als_shift 1 ((c :: K).length + 1) 0 K
  have hf := Tk.als_fuel ((c :: K).length + 1) (K.length + 1) 0 K (by simp; omega) (by omega)
  have hm := map_shift [c] K (f := K.length + 1) (a := 0) (ts := ts) (by rw [h1])
  refine ⟨ts.map (Tk.shift 1), ?_, ?_⟩
  · have e' : List.replicate 1 c ++ K = c :: K := rfl
    rw [e'] at e
    rw [e, hs, hf, h1]
    rfl
  · exact hm.trans h2
theorem Lx.blanks {K : List Int} {ws : List (List Int)} (h : Lx K ws) : ∀ n, Lx (List.replicate n 32 ++ K) ws
  | 0 => h
  | n + 1 => by rw [List.replicate_succ, List.cons_append]; exact (Lx.blanks h n).blank rfl
/-- What stands behind a word and belongs to none. -/
def Fs (K : List Int) : Prop := K = [] ∨ ∃ c r, K = c :: r ∧ Tk.Stop c
theorem Fs.of {c : Int} {r : List Int} (h : Tk.Stop c) : Fs (c :: r) := .inr ⟨c, r, rfl, h⟩
theorem st (c : Int) (h : c ∈ [32, 10, 40, 41, 91, 93, 44, 59, 123, 125]) : Tk.Stop c := by
  have : ∀ c ∈ ([32, 10, 40, 41, 91, 93, 44, 59, 123, 125] : List Int), Tk.eith c = false ∧ Tk.lett c = false ∧ Tk.digi c = false ∧ ∀ p ∈ Tk.pairsL, p[1]? ≠ some c := by decide
  obtain ⟨h1, h2, h3, h4⟩ := this c h
  exact ⟨h1, h2, h3, fun p hp a b e h => h4 p hp (by rw [e, h]; rfl)⟩
/-- A word alone is a token. -/
structure Wd (w : List Int) : Prop where
  b : ∃ k, k ≠ 0 ∧ Tk.body w = (true, k, w.length)
  s : Tk.sk false w = 0
theorem Wd.ne {w : List Int} (h : Wd w) : w ≠ [] := fun e => by
  obtain ⟨k, h1, h2⟩ := h.b
  subst e; cases h2; exact h1 rfl
theorem sk_cons {w K : List Int} (h : Tk.sk false w = 0) (h0 : w ≠ []) : Tk.sk false (w ++ K) = 0 := by
  cases w with
  | nil => exact absurd rfl h0
  | cons c r =>
    simp only [Tk.sk, List.cons_append] at h ⊢
    split at h
    · omega
    · split at h
      · omega
      · rename_i h1 h2; rw [if_neg h1, if_neg h2]
theorem Lx.wd {w K : List Int} {ws : List (List Int)} (h : Lx K ws) (hw : Wd w) (hf : Fs K) : Lx (w ++ K) (w :: ws) := by
  obtain ⟨k, h1, h2⟩ := hw.b
  refine h.word (k := k) ?_ h1 (sk_cons hw.s hw.ne)
  rcases hf with rfl | ⟨c, r, rfl, hc⟩
  · rw [List.append_nil]; exact h2
  · rw [Tk.body_append hc r w hw.ne]; exact h2
theorem nm_wd {w : List Int} (h : NmW w) : Wd w := by
  replace h := h.1
  refine ⟨⟨1, by decide, h⟩, ?_⟩
  cases w with
  | nil => rfl
  | cons c r =>
    rw [Tk.body] at h
    split at h
    · rename_i hl; have := Tk.lett_ok hl; exact Tk.sk_0 this.1 this.2
    split at h
    · split at h
      · have := congrArg (fun x : Bool × Int × Nat => x.2.1) h; simp at this
      · cases h
    · split at h
      · cases h
      · have := congrArg (fun x : Bool × Int × Nat => x.2.1) h; simp at this
theorem nu_wd {w : List Int} (h : NuW w) : Wd w := by
  refine ⟨⟨2, by decide, h⟩, ?_⟩
  obtain ⟨h1, _, h3, _⟩ := nu_digits h
  cases w with
  | nil => rfl
  | cons c r =>
    have := h3 c (by simp)
    refine Tk.sk_0 ?_ (by omega)
    unfold Tk.blan
    simp; omega
theorem kw (w : List Int) (h : w ∈ [wTrue, wFalse, wRead, wVar, wIf, wElse, wWhile, wBreak, wCont, wReturn, wPrint, wFunc, wInt, [61]] ++ (sgs 0 ++ (sgs 1 ++ (sgs 2 ++ (sgs 3 ++ sgs 4))))) : Wd w := by
  have : ∀ w ∈ [wTrue, wFalse, wRead, wVar, wIf, wElse, wWhile, wBreak, wCont, wReturn, wPrint, wFunc, wInt, [61]] ++ (sgs 0 ++ (sgs 1 ++ (sgs 2 ++ (sgs 3 ++ sgs 4)))), (Tk.body w).1 = true ∧ (Tk.body w).2.1 ≠ 0 ∧ (Tk.body w).2.2 = w.length ∧ Tk.sk false w = 0 := by decide
  obtain ⟨h1, h2, h3, h4⟩ := this w h
  exact ⟨⟨_, h2, Prod.ext h1 (Prod.ext rfl h3)⟩, h4⟩
/-- A sign of one byte that begins no longer one. -/
theorem Lx.sign {c : Int} {K : List Int} {ws : List (List Int)} (h : Lx K ws) (hc : c ∈ [40, 41, 91, 93, 123, 125, 44, 59, 45]) : Lx (c :: K) ([c] :: ws) := by
  have : ∀ c ∈ ([40, 41, 91, 93, 123, 125, 44, 59, 45] : List Int), Tk.lett c = false ∧ Tk.digi c = false ∧ Tk.signsL.contains c = true ∧ Tk.blan c = false ∧ c ≠ 35 ∧ ∀ p ∈ Tk.pairsL, p.head? ≠ some c := by decide
  obtain ⟨h1, h2, h3, h4, h5, h6⟩ := this c hc
  refine Lx.word (w := [c]) (k := 4) h ?_ (by decide) (Tk.sk_0 h4 h5)
  show Tk.body (c :: K) = _
  have hs : Tk.sg (c :: K) = 1 := by
    refine Tk.sg_1 ?_ h3
    rw [Bool.eq_false_iff]
    intro hp
    obtain ⟨a, b, r, e, hm⟩ := Tk.pairs_any.1 hp
    cases e
    exact h6 _ hm rfl
  rw [Tk.body, if_neg (by rw [h1]; decide), if_neg (by rw [h2]; decide), hs]
  rfl
theorem Lx.bang {K : List Int} {ws : List (List Int)} (h : Lx K ws) (hK : ∀ r, K ≠ 61 :: r) : Lx (33 :: K) ([33] :: ws) := by
  refine Lx.word (w := [33]) (k := 4) h ?_ (by decide) rfl
  show Tk.body (33 :: K) = _
  have hs : Tk.sg (33 :: K) = 1 := by
    refine Tk.sg_1 ?_ rfl
    rw [Bool.eq_false_iff]
    intro hp
    obtain ⟨a, b, r, e, hm⟩ := Tk.pairs_any.1 hp
    cases e
    have : ∀ p ∈ Tk.pairsL, p.head? = some 33 → p[1]? = some 61 := by decide
    have := this _ hm rfl
    simp at this
    subst this
    exact hK r rfl
  rw [Tk.body, if_neg (by decide), if_neg (by decide), hs]
  rfl
end Go.Proofs.YtfnbgbeinmekgaaGreatDoor.Pt
namespace Go.Proofs.YtfnbgbeinmekgaaGreatDoor.Pt
open Go Sy Nu
set_option linter.unusedVariables false
theorem nm_hd {w : List Int} (h : NmW w) : ∃ c r, w = c :: r ∧ c ≠ 61 := by
  replace h := h.1
  cases w with
  | nil => cases h
  | cons c r =>
    refine ⟨c, r, rfl, fun e => ?_⟩
    subst e
    rw [Tk.body, if_neg (by decide), if_neg (by decide)] at h
    split at h
    · cases h
    · have := congrArg (fun x : Bool × Int × Nat => x.2.1) h; simp at this
theorem nu_hd {w : List Int} (h : NuW w) : ∃ c r, w = c :: r ∧ c ≠ 61 := by
  obtain ⟨h1, _, h3, _⟩ := nu_digits h
  cases w with
  | nil => exact absurd rfl h1
  | cons c r => exact ⟨c, r, rfl, by have := h3 c (by simp); omega⟩
theorem hd_app {t : List Int} (h : ∃ c r, t = c :: r ∧ c ≠ 61) (K : List Int) : ∃ c r, t ++ K = c :: r ∧ c ≠ 61 := by
  obtain ⟨c, r, rfl, hc⟩ := h
  exact ⟨c, r ++ K, rfl, hc⟩
theorem hd_br {t : List Int} (h : ∃ c r, t = c :: r ∧ c ≠ 61) (b : Bool) : ∃ c r, br b t = c :: r ∧ c ≠ 61 := by
  cases b
  · exact h
  · exact ⟨40, _, rfl, by decide⟩
theorem hd_eT : ∀ x : X, isX x = true → wf x → ∃ c r, eT x = c :: r ∧ c ≠ 61 := by
  intro x
  induction x with
  | num n => intro _ h; exact nu_hd h.2
  | tt => intro _ _; exact ⟨_, _, rfl, by decide⟩
  | ff => intro _ _; exact ⟨_, _, rfl, by decide⟩
  | rd => intro _ _; exact ⟨_, _, rfl, by decide⟩
  | nm w => intro _ h; exact nm_hd h
  | idx w a _ => intro _ h; exact hd_app (nm_hd h.1) _
  | call w a _ => intro _ h; exact hd_app (nm_hd h.1) _
  | un op a _ => intro _ h; rcases h.1 with rfl | rfl <;> exact ⟨_, _, rfl, by decide⟩
  | pr op a b iha _ => intro _ h; exact hd_app (hd_br (iha h.2.1 h.2.2.2.1) _) _
  | nil => intro h; cases h
  | cons a b _ _ => intro h; cases h
theorem sgs_mem {v : Nat} {op : List Int} (hv : v ≤ 4) (h : op ∈ sgs v) : op ∈ sgs 0 ++ (sgs 1 ++ (sgs 2 ++ (sgs 3 ++ sgs 4))) := by
  have : v = 0 ∨ v = 1 ∨ v = 2 ∨ v = 3 ∨ v = 4 := by omega
  simp only [List.mem_append]
  rcases this with rfl | rfl | rfl | rfl | rfl
  · exact .inl h
  · exact .inr (.inl h)
  · exact .inr (.inr (.inl h))
  · exact .inr (.inr (.inr (.inl h)))
  · exact .inr (.inr (.inr (.inr h)))
theorem op_wd {op : List Int} (h : ∃ v, v ≤ 4 ∧ op ∈ sgs v) : Wd op := by
  obtain ⟨v, hv, hm⟩ := h
  exact kw op (List.mem_append_right _ (sgs_mem hv hm))
/-- What is read of a text, whatever stands behind it. -/
def Lt (t : List Int) (ws : List (List Int)) : Prop := ∀ K us, Fs K → Lx K us → Lx (t ++ K) (ws ++ us)
theorem Lt.br {t : List Int} {ws : List (List Int)} (h : Lt t ws) (b : Bool) : Lt (br b t) (brW b ws) := by
  cases b
  · exact h
  · intro K us hf hl
    have := (h (41 :: K) (wRpar :: us) (Fs.of (st 41 (by decide))) (hl.sign (c := 41) (by decide))).sign (c := 40) (by decide)
    simpa [Pt.br, brW, wLpar] using this
theorem Lt.of {w : List Int} (h : Wd w) : Lt w [w] := fun K us hf hl => hl.wd h hf
theorem lexX : ∀ x : X, wf x → Lt (eT x) (eW x) := by
  intro x
  induction x with
  | num n => intro h; exact Lt.of (nu_wd h.2)
  | tt => intro _; exact Lt.of (kw wTrue (by decide))
  | ff => intro _; exact Lt.of (kw wFalse (by decide))
  | rd => intro _; exact Lt.of (kw wRead (by decide))
  | nm w => intro h; exact Lt.of (nm_wd h)
  | idx w a ih =>
    intro h K us hf hl
    have h1 := ih h.2.2 (93 :: K) (wRbra :: us) (Fs.of (st 93 (by decide))) (hl.sign (c := 93) (by decide))
    have h2 := (h1.sign (c := 91) (by decide)).wd (nm_wd h.1) (Fs.of (st 91 (by decide)))
    simpa [eT, eW, wLbra] using h2
  | call w a ih =>
    intro h K us hf hl
    have h1 := ih h.2.2 (41 :: K) (wRpar :: us) (Fs.of (st 41 (by decide))) (hl.sign (c := 41) (by decide))
    have h2 := (h1.sign (c := 40) (by decide)).wd (nm_wd h.1) (Fs.of (st 40 (by decide)))
    simpa [eT, eW, wLpar] using h2
  | un op a ih =>
    intro h K us hf hl
    have h1 := (ih h.2.2).br (decide (lvX a < 5)) K us hf hl
    rcases h.1 with rfl | rfl
    · have h2 := h1.sign (c := 45) (by decide)
      simpa [eT, eW, wMinus] using h2
    · have h2 := h1.bang (fun r e => by
        obtain ⟨c, r', e', hc⟩ := hd_app (hd_br (hd_eT a h.2.1 h.2.2) (decide (lvX a < 5))) K
        rw [e'] at e; cases e; exact hc rfl)
      simpa [eT, eW, wNot] using h2
  | pr op a b iha ihb =>
    intro h K us hf hl
    have h1 := (ihb h.2.2.2.2).br (decide (lvX b < lvO op + 1)) K us hf hl
    have h2 := (h1.blank (c := 32) rfl).wd (op_wd h.1) (Fs.of (st 32 (by decide)))
    have h3 := (iha h.2.2.2.1).br (decide (lvX a < lf (lvO op))) _ _ (Fs.of (st 32 (by decide))) (h2.blank (c := 32) rfl)
    simpa [eT, eW] using h3
  | nil => intro _ K us hf hl; exact hl
  | cons a l iha ihl =>
    intro h K us hf hl
    have h1 := ihl h.2.2.2 K us hf hl
    cases l with
    | nil => simpa [eT, eW, sepC, sepW] using iha h.2.2.1 K us hf hl
    | cons b r =>
      have h2 := iha h.2.2.1 _ _ (Fs.of (st 44 (by decide))) ((h1.blank (c := 32) rfl).sign (c := 44) (by decide))
      simpa [eT, eW, sepC, sepW, wComma] using h2
    | _ => exact absurd h.2.1 (by simp [isX])
theorem Lt.blk {t : List Int} {ws : List (List Int)} (h : Lt t ws) (d : Nat) : Lt (blk d t) (blkW ws) := by
  intro K us hf hl
  have h1 : Lx (bl d ++ 125 :: K) (wRcur :: us) := (hl.sign (c := 125) (by decide)).blanks (2 * d)
  have hf1 : Fs (bl d ++ 125 :: K) := by
    unfold bl
    cases 2 * d with
    | zero => exact Fs.of (st 125 (by decide))
    | succ n => exact Fs.of (st 32 (by decide))
  have h2 := ((h _ _ hf1 h1).blank (c := 10) rfl).sign (c := 123) (by decide)
  simpa [Pt.blk, blkW, wLcur] using h2
theorem lexY : ∀ (y : Y), wfY y → ∀ b d, Lt (tY y b d) (wY y b) := by
  have sm : ∀ {K : List Int} {us : List (List Int)}, Lx K us → Lx (59 :: K) (wSemi :: us) := fun h => h.sign (c := 59) (by decide)
  have fs : ∀ {K : List Int}, Fs (59 :: K) := Fs.of (st 59 (by decide))
  have f32 : ∀ {K : List Int}, Fs (32 :: K) := Fs.of (st 32 (by decide))
  have eq : ∀ {K : List Int} {us : List (List Int)}, Lx K us → Lx (32 :: 61 :: 32 :: K) (wEq :: us) := fun h => Lx.blank (c := 32) ((h.blank (c := 32) rfl).wd (w := [61]) (kw [61] (by decide)) (Fs.of (st 32 (by decide)))) rfl
  intro y
  induction y with
  | svar w x =>
    intro h b d K us hf hl
    have h1 := eq (lexX x h.2.2 _ _ fs (sm hl))
    have h2 := ((h1.wd (nm_wd h.1) f32).blank (c := 32) rfl).wd (kw wVar (by decide)) f32
    simpa [tY, wY] using h2
  | sarr w n =>
    intro h b d K us hf hl
    have h1 := ((sm hl).sign (c := 93) (by decide)).wd (nu_wd h.2.2) (Fs.of (st 93 (by decide)))
    have h2 := (((h1.sign (c := 91) (by decide)).wd (nm_wd h.1) (Fs.of (st 91 (by decide)))).blank (c := 32) rfl).wd (kw wVar (by decide)) f32
    simpa [tY, wY, wLbra, wRbra] using h2
  | sset w x =>
    intro h b d K us hf hl
    have h1 := (eq (lexX x h.2.2 _ _ fs (sm hl))).wd (nm_wd h.1) f32
    simpa [tY, wY] using h1
  | sput w x y =>
    intro h b d K us hf hl
    have h1 := (eq (lexX y h.2.2.2.2 _ _ fs (sm hl))).sign (c := 93) (by decide)
    have h2 := ((lexX x h.2.2.1 _ _ (Fs.of (st 93 (by decide))) h1).sign (c := 91) (by decide)).wd (nm_wd h.1) (Fs.of (st 91 (by decide)))
    simpa [tY, wY, wLbra, wRbra] using h2
  | sif x th el iht ihe =>
    intro h b d K us hf hl
    have h0 : Fs ((if isN el then [] else 32 :: (wElse ++ 32 :: if isEI el then tY el true d else blk d (tY el false (d + 1)))) ++ K) ∧ Lx ((if isN el then [] else 32 :: (wElse ++ 32 :: if isEI el then tY el true d else blk d (tY el false (d + 1)))) ++ K) ((if isN el then [] else wElse :: if isEI el then wY el true else blkW (wY el false)) ++ us) := by
      by_cases hn : isN el = true
      · rw [if_pos hn, if_pos hn]; exact ⟨hf, hl⟩
      · rw [if_neg hn, if_neg hn]
        refine ⟨f32, ?_⟩
        have h1 : Lx ((if isEI el then tY el true d else blk d (tY el false (d + 1))) ++ K) ((if isEI el then wY el true else blkW (wY el false)) ++ us) := by
          by_cases hi : isEI el = true
          · rw [if_pos hi, if_pos hi]; exact ihe h.2.2.2.2.2 _ _ K us hf hl
          · rw [if_neg hi, if_neg hi]; exact (ihe h.2.2.2.2.2 _ _).blk d K us hf hl
        have h2 := ((h1.blank (c := 32) rfl).wd (kw wElse (by decide)) f32).blank (c := 32) rfl
        simpa using h2
    have h1 := (iht h.2.2.2.1 false (d + 1)).blk d _ _ h0.1 h0.2
    have h2 := ((lexX x h.2.1 _ _ f32 (h1.blank (c := 32) rfl)).blank (c := 32) rfl).wd (kw wIf (by decide)) f32
    simpa [tY, wY] using h2
  | swh x th iht =>
    intro h b d K us hf hl
    have h1 := (iht h.2.2.2 false (d + 1)).blk d _ _ hf hl
    have h2 := ((lexX x h.2.1 _ _ f32 (h1.blank (c := 32) rfl)).blank (c := 32) rfl).wd (kw wWhile (by decide)) f32
    simpa [tY, wY] using h2
  | brk => intro h b d K us hf hl; simpa [tY, wY] using (sm hl).wd (kw wBreak (by decide)) fs
  | cnt => intro h b d K us hf hl; simpa [tY, wY] using (sm hl).wd (kw wCont (by decide)) fs
  | ret0 => intro h b d K us hf hl; simpa [tY, wY] using (sm hl).wd (kw wReturn (by decide)) fs
  | ret x =>
    intro h b d K us hf hl
    simpa [tY, wY] using ((lexX x h.2 _ _ fs (sm hl)).blank (c := 32) rfl).wd (kw wReturn (by decide)) f32
  | prn x =>
    intro h b d K us hf hl
    simpa [tY, wY] using ((lexX x h.2 _ _ fs (sm hl)).blank (c := 32) rfl).wd (kw wPrint (by decide)) f32
  | scl x =>
    intro h b d K us hf hl
    simpa [tY, wY] using lexX x h.2 _ _ fs (sm hl)
  | nil => intro h b d K us hf hl; exact hl
  | cons s l ihs ihl =>
    intro h b d K us hf hl
    cases b
    · have h1 := ihs h.2.2.1 false d _ _ (Fs.of (st 10 (by decide))) ((ihl h.2.2.2 false d K us hf hl).blank (c := 10) rfl)
      have h2 := h1.blanks (2 * d)
      simpa [tY, wY, bl] using h2
    · exact ihs h.2.2.1 false d K us hf hl
theorem lexN : ∀ ps : List (List Int), (∀ p ∈ ps, NmW p) → Lt (jnP ps) (jnW ps) := by
  intro ps
  induction ps with
  | nil => intro _ K us hf hl; exact hl
  | cons w r ih =>
    intro h K us hf hl
    cases r with
    | nil => exact hl.wd (nm_wd (h w (by simp))) hf
    | cons v r =>
      have h1 := ih (fun p hp => h p (by simp [hp])) K us hf hl
      have h2 := ((h1.blank (c := 32) rfl).sign (c := 44) (by decide)).wd (nm_wd (h w (by simp))) (Fs.of (st 44 (by decide)))
      simpa [jnP, jnW, wComma] using h2
theorem lexF {f : F} (h : wfF f) {K : List Int} {us : List (List Int)} (hl : Lx K us) : Lx (tF f ++ K) (wF f ++ us) := by
  have h1 := (lexY f.bd h.wf false 1).blk 0 _ _ (Fs.of (st 10 (by decide))) (hl.blank (c := 10) rfl)
  have h2 : Lx ((if f.ty = 1 then wInt ++ [32] else []) ++ (blk 0 (tY f.bd false 1) ++ 10 :: K)) ((if f.ty = 1 then [wInt] else []) ++ (blkW (wY f.bd false) ++ us)) := by
    split
    · have := (h1.blank (c := 32) rfl).wd (kw wInt (by decide)) (Fs.of (st 32 (by decide)))
      simpa using this
    · exact h1
  have h3 := lexN f.ps h.ps _ _ (Fs.of (st 41 (by decide))) ((h2.blank (c := 32) rfl).sign (c := 41) (by decide))
  have h4 := (((h3.sign (c := 40) (by decide)).wd (nm_wd h.nm) (Fs.of (st 40 (by decide)))).blank (c := 32) rfl).wd (kw wFunc (by decide)) (Fs.of (st 32 (by decide)))
  simpa [tF, wF, wLpar, wRpar] using h4
theorem lexP : ∀ fs : List F, (∀ f ∈ fs, wfF f) → Lx (tP fs) (wP fs) := by
  intro fs
  induction fs with
  | nil => intro _; exact Lx.nil
  | cons f r ih =>
    intro h
    have := lexF (h f (by simp)) (ih fun g hg => h g (by simp [hg]))
    simpa [tP, wP] using this
end Go.Proofs.YtfnbgbeinmekgaaGreatDoor.Pt
namespace Go.Proofs.YtfnbgbeinmekgaaGreatDoor.Pt
open Go Sy Nu
set_option linter.unusedVariables false
/-- These words stand there. -/
def At (E : Env) : Nat → List (List Int) → Prop
  | _, [] => True
  | i, w :: r => E.W[i]?.getD [] = w ∧ At E (i + 1) r
theorem At.app {E : Env} : ∀ {a b : List (List Int)} {i : Nat}, At E i (a ++ b) → At E i a ∧ At E (i + a.length) b := by
  intro a
  induction a with
  | nil => intro b i h; exact ⟨trivial, h⟩
  | cons w r ih =>
    intro b i h
    obtain ⟨h1, h2⟩ := h
    obtain ⟨h3, h4⟩ := ih h2
    exact ⟨⟨h1, h3⟩, by have e : i + (w :: r).length = i + 1 + r.length := by simp; omega
                        rw [e]; exact h4⟩
/-- A token's kind is that of its bytes. -/
def KE (E : Env) : Prop := ∀ s, Sy.wd E s ≠ [] → Sy.kd E s = (Tk.body (Sy.wd E s)).2.1
def Fol (v : Nat) (w : List Int) : Prop := (∀ u, v ≤ u → u ≤ 4 → w ∉ sgs u) ∧ w ≠ wLpar ∧ w ≠ wLbra
theorem Fol.up {u v : Nat} {w : List Int} (h : Fol u w) (huv : u ≤ v) : Fol v w := ⟨fun k h1 h2 => h.1 k (by omega) h2, h.2⟩
theorem fol0 {w : List Int} (h : w ∈ [wRbra, wRpar, wComma, wSemi, wLcur]) : Fol 0 w := by
  have : ∀ w ∈ [wRbra, wRpar, wComma, wSemi, wLcur], (∀ u : Nat, u < 5 → w ∉ sgs u) ∧ w ≠ wLpar ∧ w ≠ wLbra := by decide
  obtain ⟨h1, h2⟩ := this w h
  exact ⟨fun u _ hu => h1 u (by omega), h2⟩
theorem fol_op {u : Nat} {w : List Int} (hu : u ≤ 4) (h : w ∈ sgs u) : Fol (u + 1) w := by
  have : ∀ u ∈ [0, 1, 2, 3, 4], ∀ w ∈ sgs u, (∀ k ∈ [0, 1, 2, 3, 4], u + 1 ≤ k → w ∉ sgs k) ∧ w ≠ wLpar ∧ w ≠ wLbra := by decide
  have m : ∀ n : Nat, n ≤ 4 → n ∈ [0, 1, 2, 3, 4] := fun n hn => by simp; omega
  obtain ⟨h1, h2⟩ := this u (m u hu) w h
  exact ⟨fun k h3 h4 => h1 k (m k h4) h3, h2⟩
def pW (v : Nat) (x : X) : List (List Int) := brW (decide (lvX x < v)) (eW x)
theorem pW_0 (x : X) : pW 0 x = eW x := by unfold pW; rw [decide_eq_false (by omega)]; rfl
/-- A parse that goes on behind an expression. -/
structure Rd (s t : PS) (n : Nat) (x : X) : Prop where
  i : t.i = s.i + n
  g : Gr s t (fl s.ex.length x)
section
variable {E : Env}
theorem climb {d : Int} {s t : PS} {a : Int} {n u : Nat} (hu : u ≤ 5) (h : (lv E n).row u d s = .ok a t) : ∀ k v, v + k = u → Fol v (Sy.wd E t) → (lv E (n + k)).row v d s = .ok a t := by
  intro k
  induction k with
  | zero => intro v e hf; have : v = u := by omega
            subst this; exact h
  | succ k ih =>
    intro v e hf
    have h1 := ih (v + 1) (by omega) (hf.up (by omega))
    show sRow E (lv E (n + k)) v d s = _
    unfold sRow
    rw [if_neg (by omega), h1]
    simp only [bind_ok]
    cases hn : n + k with
    | zero => rw [hn] at h1; cases h1
    | succ m =>
      show sRows E (lv E m) v d _ a t = _
      unfold sRows
      rw [if_neg (hf.1 v (Nat.le_refl _) (by omega))]
theorem climb5 {d : Int} {s t : PS} {a : Int} {m v : Nat} (hv : v ≤ 5) (h : (lv E (m - 1 - (5 - v))).unary d s = .ok a t) (hf : Fol v (Sy.wd E t)) (hm : 6 ≤ m) : (lv E m).row v d s = .ok a t := by
  have h1 : (lv E (m - 1 - (5 - v) + 1)).row 5 d s = .ok a t := h
  have := climb (Nat.le_refl 5) h1 (5 - v) v (by omega) hf
  rwa [show m - 1 - (5 - v) + 1 + (5 - v) = m by omega] at this
def PX (E : Env) (x : X) : Prop := ∀ (v : Nat), v ≤ 5 → ∀ (d : Int) (s : PS) (n : Nat), d + pd v x ≤ 64 → d ≤ 64 → 20 * (pW v x).length + 20 ≤ n → At E s.i (pW v x) → Fol v (E.W[s.i + (pW v x).length]?.getD []) → ∃ t, (lv E n).row v d s = .ok (rt s.ex.length x) t ∧ Rd s t (pW v x).length x
/-- A chain of pairs of one level. -/
def CX (E : Env) (x : X) : Prop := ∀ (u : Nat), u ≤ 4 → u ≠ 2 → ∀ (d : Int) (s : PS) (n : Nat), d + pd u x ≤ 64 → d ≤ 64 → 20 * (pW u x).length + 30 ≤ n → At E s.i (pW u x) → Fol (u + 1) (E.W[s.i + (pW u x).length]?.getD []) → ∃ t c, c ≤ (pW u x).length ∧ (lv E n).row u d s = (lv E (n - c)).rows u d (hr E s) (rt s.ex.length x) t ∧ Rd s t (pW u x).length x
/-- What is no pair. -/
def QX (E : Env) (x : X) : Prop := ∀ (d : Int) (s : PS) (n : Nat), d + dp x ≤ 64 → d ≤ 64 → 20 * (eW x).length + 10 ≤ n → At E s.i (eW x) → (E.W[s.i + (eW x).length]?.getD [] ≠ wLpar ∧ E.W[s.i + (eW x).length]?.getD [] ≠ wLbra) → ∃ t, (lv E n).unary d s = .ok (rt s.ex.length x) t ∧ Rd s t (eW x).length x
/-- The words of a row's rest. -/
def aW (l : List Int) (x : X) : List (List Int) := (if l = [] then [] else sepW x) ++ (eW x ++ [wRpar])
def AX (E : Env) (x : X) : Prop := ∀ (fr : Int) (nm : List Int) (d : Int) (l : List Int) (s : PS) (n : Nat), d + dp x ≤ 64 → d ≤ 64 → 20 * (eW x).length + 30 ≤ n → At E s.i (aW l x) → ∃ t, (lv E n).args fr nm d l s = .ok ((s.ex.length + sz x : Nat) : Int) t ∧ t.i = s.i + (aW l x).length ∧ Gr s t (fl s.ex.length x ++ [{ k := 6, nm := nm, l := l ++ rts s.ex.length x }])
theorem expr_of {x : X} (h : PX E x) {d : Int} {s : PS} {n : Nat} (hd : d + dp x ≤ 64) (hd1 : d ≤ 64) (hn : 20 * (eW x).length + 21 ≤ n) (ha : At E s.i (eW x)) (hf : Fol 0 (E.W[s.i + (eW x).length]?.getD [])) : ∃ t, (lv E n).expr d s = .ok (rt s.ex.length x) t ∧ Rd s t (eW x).length x := by
  obtain ⟨t, h1, h2⟩ := h 0 (by omega) d s (n - 1) (by rw [pd_0]; exact hd) hd1 (by rw [pW_0]; omega) (by rw [pW_0]; exact ha) (by rw [pW_0]; exact hf)
  rw [pW_0] at h2
  refine ⟨t, ?_, h2⟩
  obtain ⟨m, rfl⟩ : ∃ m, n = m + 1 := ⟨n - 1, by omega⟩
  show sExpr E (lv E m) d s = _
  unfold sExpr Sy.deep
  rw [if_neg (by omega)]
  simp only [bind_ok]
  exact h1
theorem px_of {x : X} (hl : lvX x = 5) (h : QX E x) : PX E x := by
  intro v hv d s n hd hd1 hn ha hf
  have e : pW v x = eW x := by unfold pW; rw [decide_eq_false (by omega)]; rfl
  have e2 : pd v x = dp x := by unfold pd; rw [if_neg (by omega)]; rfl
  rw [e] at hn ha hf ⊢
  rw [e2] at hd
  obtain ⟨t, h1, h2⟩ := h d s (n - 1 - (5 - v)) hd hd1 (by omega) ha hf.2
  exact ⟨t, climb5 hv h1 (by show Fol v (E.W[t.i]?.getD []); rw [h2.i]; exact hf) (by omega), h2⟩
theorem cx_of {x : X} {u : Nat} (hu : u ≤ 4) (hne : lvX x ≠ u) (h : PX E x) {d : Int} {s : PS} {n : Nat} (hd : d + pd u x ≤ 64) (hd1 : d ≤ 64) (hn : 20 * (pW u x).length + 30 ≤ n) (ha : At E s.i (pW u x)) (hf : Fol (u + 1) (E.W[s.i + (pW u x).length]?.getD [])) : ∃ t, (lv E n).row u d s = (lv E (n - 1)).rows u d (hr E s) (rt s.ex.length x) t ∧ Rd s t (pW u x).length x := by
  have eb : decide (lvX x < u + 1) = decide (lvX x < u) := by
    by_cases hlt : lvX x < u
    · rw [decide_eq_true hlt, decide_eq_true (by omega)]
    · rw [decide_eq_false hlt, decide_eq_false (by omega)]
  have e : pW (u + 1) x = pW u x := by unfold pW; rw [eb]
  have e2 : pd (u + 1) x = pd u x := by
    unfold pd
    by_cases hlt : lvX x < u
    · rw [if_pos hlt, if_pos (by omega)]
    · rw [if_neg hlt, if_neg (by omega)]
  obtain ⟨t, h3, h4⟩ := h (u + 1) (by omega) d s (n - 1) (by rw [e2]; exact hd) hd1 (by rw [e]; omega) (by rw [e]; exact ha) (by rw [e]; exact hf)
  rw [e] at h4
  refine ⟨t, ?_, h4⟩
  obtain ⟨m, rfl⟩ : ∃ m, n = m + 1 := ⟨n - 1, by omega⟩
  show sRow E (lv E m) u d s = _
  unfold sRow
  rw [if_neg (by omega)]
  have h3 : (lv E m).row (u + 1) d s = _ := h3
  rw [h3]
  rfl
end
end Go.Proofs.YtfnbgbeinmekgaaGreatDoor.Pt
namespace Go.Proofs.YtfnbgbeinmekgaaGreatDoor.Pt
open Go Sy Nu
set_option linter.unusedVariables false
section
variable {E : Env}
theorem nm_ne {w v : List Int} (h : NmW w) (hv : v ∈ [wMinus, wNot, wTrue, wFalse, wRead, wLpar, wVar, wIf, wWhile, wBreak, wCont, wReturn, wPrint, wRcur, wRpar]) : w ≠ v := fun e => by
  have : ∀ v ∈ [wMinus, wNot, wTrue, wFalse, wRead, wLpar, wVar, wIf, wWhile, wBreak, wCont, wReturn, wPrint, wRcur, wRpar], (Tk.body v).2.1 ≠ 1 := by decide
  subst e
  exact this _ hv (by rw [h.1])
theorem nu_ne {w v : List Int} (h : NuW w) (hv : v ∈ [wMinus, wNot, wLpar, wRpar]) : w ≠ v := fun e => by
  have : ∀ v ∈ [wMinus, wNot, wLpar, wRpar], (Tk.body v).2.1 ≠ 2 := by decide
  subst e
  exact this _ hv (by rw [show Tk.body w = _ from h])
theorem kd_of (hK : KE E) {s : PS} {w : List Int} {k : Int} (hw : Sy.wd E s = w) (hb : (Tk.body w).2.1 = k) (h0 : w ≠ []) : Sy.kd E s = k := by
  rw [hK s (by rw [hw]; exact h0), hw, hb]
theorem kd_nm (hK : KE E) {s : PS} {w : List Int} (hw : Sy.wd E s = w) (h : NmW w) : Sy.kd E s = 1 := kd_of hK hw (by rw [h.1]) (nm_wd h).ne
theorem unary_prim {d : Int} {s : PS} {n : Nat} (h1 : Sy.wd E s ≠ wMinus) (h2 : Sy.wd E s ≠ wNot) : (lv E (n + 1)).unary d s = (lv E n).prim d s := by
  show sUnary E (lv E n) d s = _
  unfold sUnary
  rw [if_neg (fun h => h.elim h1 h2)]
theorem rd_put {x : X} {y : Ex} {s : PS} {fr : Int} (h1 : fl s.ex.length x = [bx y]) (h2 : sz x = 1) : ∃ t, put E fr y (Sy.adv s) = .ok (rt s.ex.length x) t ∧ Rd s t 1 x := by
  refine ⟨{ (Sy.adv s) with ex := (Sy.adv s).ex ++ [{ y with f := fr, e := pe E (Sy.adv s) }] }, ?_, ?_, ?_⟩
  · show Rs.ok ((Sy.adv s).ex.length : Int) _ = _
    rw [show ((Sy.adv s).ex.length : Int) = rt s.ex.length x from rt_eq (by rw [h2]; rfl)]
  · rfl
  · refine ⟨?_, rfl, rfl⟩
    rw [h1]; simp [bx, Sy.adv]
theorem q_word {x : X} {y : Ex} {w : List Int} (hw : eW x = [w]) (h1 : w ≠ wMinus) (h2 : w ≠ wNot) (h3 : ∀ lo, fl lo x = [bx y]) (h4 : sz x = 1)
    (h : ∀ d s n, Sy.wd E s = w → (E.W[s.i + 1]?.getD [] ≠ wLpar ∧ E.W[s.i + 1]?.getD [] ≠ wLbra) → (lv E (n + 1)).prim d s = put E (hr E s) y (Sy.adv s)) : QX E x := by
  intro d s n hd hd1 hn ha hf
  rw [hw] at hn ha hf
  obtain ⟨m, rfl⟩ : ∃ m, n = m + 1 + 1 := ⟨n - 2, by simp at hn; omega⟩
  have hws : Sy.wd E s = w := ha.1
  obtain ⟨t, e, r⟩ := rd_put (E := E) (fr := hr E s) (h3 s.ex.length) h4
  refine ⟨t, ?_, by rw [hw]; exact r⟩
  rw [unary_prim (by rw [hws]; exact h1) (by rw [hws]; exact h2), h d s m hws hf, e]
theorem q_num (hK : KE E) {n : Int} (h : wf (.num n)) : QX E (.num n) := by
  refine q_word (y := { k := 1, n := n }) rfl (nu_ne h.2 (by decide)) (nu_ne h.2 (by decide)) (fun _ => rfl) rfl fun d s m hw _ => ?_
  show sPrim E (lv E m) d s = _
  unfold sPrim
  rw [if_pos (kd_of hK hw (by rw [show Tk.body (dc n) = _ from h.2]) (nu_wd h.2).ne)]
  have e : Sy.num (Sy.wd E s) = n := by
    rw [hw]
    exact dc_inj (num_wf h.2).2
  rw [e]
theorem q_tt (hK : KE E) : QX E .tt := by
  refine q_word (y := { k := 2 }) rfl (by decide) (by decide) (fun _ => rfl) rfl fun d s m hw _ => ?_
  show sPrim E (lv E m) d s = _
  unfold sPrim
  rw [if_neg (by rw [kd_of hK hw (k := 3) rfl (by decide)]; decide), if_pos hw]
theorem q_ff (hK : KE E) : QX E .ff := by
  refine q_word (y := { k := 3 }) rfl (by decide) (by decide) (fun _ => rfl) rfl fun d s m hw _ => ?_
  show sPrim E (lv E m) d s = _
  unfold sPrim
  rw [if_neg (by rw [kd_of hK hw (k := 3) rfl (by decide)]; decide), if_neg (by rw [hw]; decide), if_pos hw]
theorem q_rd (hK : KE E) : QX E .rd := by
  refine q_word (y := { k := 7 }) rfl (by decide) (by decide) (fun _ => rfl) rfl fun d s m hw _ => ?_
  show sPrim E (lv E m) d s = _
  unfold sPrim
  rw [if_neg (by rw [kd_of hK hw (k := 3) rfl (by decide)]; decide), if_neg (by rw [hw]; decide), if_neg (by rw [hw]; decide), if_pos hw]
/-- What begins with a name. -/
theorem prim_nm (hK : KE E) {w : List Int} (h : NmW w) {d : Int} {s : PS} {n : Nat} (hw : Sy.wd E s = w) : (lv E (n + 1)).prim d s =
    (if Sy.wd E (Sy.adv s) = wLbra then ((lv E n).expr (d + 1) (Sy.adv (Sy.adv s))).bind fun a s2 => (want E wRbra s2).bind fun _ s3 => put E (hr E s) { k := 5, nm := w, a := a } s3
      else if Sy.wd E (Sy.adv s) = wLpar then call E (lv E n) (hr E s) w d (Sy.adv s)
      else put E (hr E s) { k := 4, nm := w } (Sy.adv s)) := by
  show sPrim E (lv E n) d s = _
  unfold sPrim
  have hk := kd_nm hK hw h
  rw [if_neg (by rw [hk]; decide), if_neg (by rw [hw]; exact nm_ne h (by decide)), if_neg (by rw [hw]; exact nm_ne h (by decide)), if_neg (by rw [hw]; exact nm_ne h (by decide)), if_neg (by rw [hw]; exact nm_ne h (by decide))]
  have e : knd E 1 s = .ok w (Sy.adv s) := by unfold knd; rw [if_pos hk, hw]
  rw [e]
  rfl
theorem q_nm (hK : KE E) {w : List Int} (h : NmW w) : QX E (.nm w) := by
  refine q_word (y := { k := 4, nm := w }) rfl (nm_ne h (by decide)) (nm_ne h (by decide)) (fun _ => rfl) rfl fun d s m hw hf => ?_
  rw [prim_nm hK h hw, if_neg (show ¬ Sy.wd E (Sy.adv s) = wLbra from hf.2), if_neg (show ¬ Sy.wd E (Sy.adv s) = wLpar from hf.1)]
theorem want_of {w : List Int} {s : PS} (h : E.W[s.i]?.getD [] = w) : want E w s = .ok () (Sy.adv s) := by
  unfold want; rw [if_pos (show Sy.wd E s = w from h)]
theorem q_idx (hK : KE E) {w : List Int} {a : X} (h : NmW w) (ha : PX E a) : QX E (.idx w a) := by
  intro d s n hd hd1 hn hat hf
  have hl : (eW (.idx w a)).length = (eW a).length + 3 := by simp [eW]
  obtain ⟨hw, hb, hat⟩ := hat
  obtain ⟨h1, h2, _⟩ := At.app hat
  have hdp : dp (.idx w a) = dp a + 1 := rfl
  obtain ⟨m, rfl⟩ : ∃ m, n = m + 1 + 1 := ⟨n - 2, by omega⟩
  obtain ⟨t, e1, r⟩ := expr_of ha (d := d + 1) (s := Sy.adv (Sy.adv s)) (n := m) (by omega) (by omega) (by omega) h1 (by
    show Fol 0 (E.W[s.i + 1 + 1 + (eW a).length]?.getD [])
    rw [h2]; exact fol0 (by decide))
  have ht : t.i = s.i + 1 + 1 + (eW a).length := r.i
  have hg : Gr s t (fl s.ex.length a) := r.g.adv.adv
  have hlen := hg.len
  rw [fl_len] at hlen
  refine ⟨{ (Sy.adv t) with ex := (Sy.adv t).ex ++ [{ ({ k := 5, nm := w, a := rt s.ex.length a } : Ex) with f := hr E s, e := pe E (Sy.adv t) }] }, ?_, ?_, ?_⟩
  · rw [unary_prim (by rw [show Sy.wd E s = w from hw]; exact nm_ne h (by decide)) (by rw [show Sy.wd E s = w from hw]; exact nm_ne h (by decide)), prim_nm hK h hw, if_pos (show Sy.wd E (Sy.adv s) = wLbra from hb), e1]
    simp only [bind_ok]
    rw [want_of (by rw [ht]; exact h2)]
    simp only [bind_ok]
    show Rs.ok (t.ex.length : Int) _ = _
    rw [show (t.ex.length : Int) = rt s.ex.length (.idx w a) from rt_eq (by rw [hlen]; rfl)]
    rfl
  · show t.i + 1 = _; rw [ht, hl]; omega
  · refine ⟨?_, hg.st, hg.fn⟩
    show List.map bx (t.ex ++ _) = _
    rw [List.map_append, hg.ex]
    simp [fl, bx]
theorem q_un (hK : KE E) {op : List Int} {a : X} (h : op = wMinus ∨ op = wNot) (ha : PX E a) : QX E (.un op a) := by
  intro d s n hd hd1 hn hat hf
  have hw : eW (.un op a) = op :: pW 5 a := rfl
  have hdp : dp (.un op a) = pd 5 a + 1 := by unfold pd; simp only [dp]; omega
  rw [hw] at hn hat hf ⊢
  obtain ⟨hw1, hat⟩ := hat
  simp only [List.length_cons] at hn hf ⊢
  obtain ⟨m, rfl⟩ : ∃ m, n = m + 1 := ⟨n - 1, by omega⟩
  obtain ⟨t, e1, r⟩ := ha 5 (Nat.le_refl _) (d + 1) (Sy.adv s) (m + 1) (by omega) (by omega) (by omega) hat (by
    show Fol 5 (E.W[s.i + 1 + (pW 5 a).length]?.getD [])
    rw [show s.i + 1 + (pW 5 a).length = s.i + ((pW 5 a).length + 1) by omega]
    exact ⟨fun u h1 h2 => absurd h1 (by omega), hf.1, hf.2⟩)
  have e1 : (lv E m).unary (d + 1) (Sy.adv s) = .ok (rt s.ex.length a) t := e1
  have hg : Gr s t (fl s.ex.length a) := r.g.adv
  have hlen := hg.len
  rw [fl_len] at hlen
  refine ⟨{ t with ex := t.ex ++ [{ ({ k := 8, op := op, a := rt s.ex.length a } : Ex) with f := hr E s, e := pe E t }] }, ?_, ?_, ?_⟩
  · show sUnary E (lv E m) d s = _
    unfold sUnary Sy.deep
    have hws : Sy.wd E s = op := hw1
    rw [if_pos (by rw [hws]; exact h), if_neg (by omega)]
    simp only [bind_ok]
    rw [e1]
    simp only [bind_ok]
    rw [hws]
    show Rs.ok (t.ex.length : Int) _ = _
    rw [show (t.ex.length : Int) = rt s.ex.length (.un op a) from rt_eq (by rw [hlen]; rfl)]
  · show t.i = _; rw [r.i]; show s.i + 1 + _ = _; omega
  · refine ⟨?_, hg.st, hg.fn⟩
    show List.map bx (t.ex ++ _) = _
    rw [List.map_append, hg.ex]
    simp [fl, bx]
theorem q_call (hK : KE E) {w : List Int} {l : X} (h : NmW w) (hl : AX E l) : QX E (.call w l) := by
  intro d s n hd hd1 hn hat hf
  have hlen : (eW (.call w l)).length = (eW l).length + 3 := by simp [eW]
  obtain ⟨hw, hb, hat⟩ := hat
  have hdp : dp (.call w l) = dp l := rfl
  obtain ⟨m, rfl⟩ : ∃ m, n = m + 1 + 1 := ⟨n - 2, by omega⟩
  obtain ⟨t, e1, e2, e3⟩ := hl (hr E s) w d [] (Sy.adv (Sy.adv s)) m (by omega) hd1 (by omega) (by show At E (s.i + 1 + 1) _; simpa [aW] using hat)
  refine ⟨t, ?_, ?_, ?_⟩
  · rw [unary_prim (by rw [show Sy.wd E s = w from hw]; exact nm_ne h (by decide)) (by rw [show Sy.wd E s = w from hw]; exact nm_ne h (by decide)), prim_nm hK h hw, if_neg (by rw [show Sy.wd E (Sy.adv s) = wLpar from hb]; decide), if_pos (show Sy.wd E (Sy.adv s) = wLpar from hb)]
    unfold call
    rw [want_of (by exact hb)]
    simp only [bind_ok]
    rw [e1]
    show Rs.ok (((s.ex.length + sz l : Nat)) : Int) t = _
    rw [show ((s.ex.length + sz l : Nat) : Int) = rt s.ex.length (.call w l) from rt_eq (by simp only [sz]; omega)]
  · rw [e2, hlen]; simp [aW, Sy.adv]; omega
  · exact Gr.adv (Gr.adv (by simpa [fl, Sy.adv] using e3))
theorem a_nil : AX E .nil := by
  intro fr nm d l s n hd hd1 hn hat
  have hat : At E s.i [wRpar] := by
    unfold aW at hat
    simp only [eW, sepW] at hat
    split at hat <;> exact hat
  obtain ⟨hw, _⟩ := hat
  obtain ⟨m, rfl⟩ : ∃ m, n = m + 1 := ⟨n - 1, by omega⟩
  have hlen : (aW l .nil).length = 1 := by unfold aW; simp only [eW, sepW]; split <;> rfl
  refine ⟨{ (Sy.adv s) with ex := s.ex ++ [{ ({ k := 6, nm := nm, l := l } : Ex) with f := fr, e := pe E (Sy.adv s) }] }, ?_, ?_, ?_⟩
  · show sArgs E (lv E m) fr nm d l s = _
    unfold sArgs
    rw [if_pos (show Sy.wd E s = wRpar from hw)]
    rfl
  · rw [hlen]; rfl
  · refine ⟨?_, rfl, rfl⟩
    show List.map bx (s.ex ++ _) = _
    rw [List.map_append]
    simp [fl, bx, rts]
end
end Go.Proofs.YtfnbgbeinmekgaaGreatDoor.Pt
namespace Go.Proofs.YtfnbgbeinmekgaaGreatDoor.Pt
open Go Sy Nu
set_option linter.unusedVariables false
section
variable {E : Env}
theorem hdW_br {t : List (List Int)} (h : ∃ w r, t = w :: r ∧ w ≠ wRpar) (b : Bool) : ∃ w r, brW b t = w :: r ∧ w ≠ wRpar := by
  cases b
  · exact h
  · exact ⟨wLpar, _, rfl, by decide⟩
theorem hdW : ∀ x : X, isX x = true → wf x → ∃ w r, eW x = w :: r ∧ w ≠ wRpar := by
  intro x
  induction x with
  | num n => intro _ h; exact ⟨_, _, rfl, nu_ne h.2 (by decide)⟩
  | tt => intro _ _; exact ⟨_, _, rfl, by decide⟩
  | ff => intro _ _; exact ⟨_, _, rfl, by decide⟩
  | rd => intro _ _; exact ⟨_, _, rfl, by decide⟩
  | nm w => intro _ h; exact ⟨_, _, rfl, nm_ne h (by decide)⟩
  | idx w a _ => intro _ h; exact ⟨_, _, rfl, nm_ne h.1 (by decide)⟩
  | call w a _ => intro _ h; exact ⟨_, _, rfl, nm_ne h.1 (by decide)⟩
  | un op a _ => intro _ h; rcases h.1 with rfl | rfl <;> exact ⟨_, _, rfl, by decide⟩
  | pr op a b iha _ =>
    intro _ h
    obtain ⟨w, r, e, hw⟩ := hdW_br (iha h.2.1 h.2.2.2.1) (decide (lvX a < lf (lvO op)))
    exact ⟨w, r ++ op :: brW (decide (lvX b < lvO op + 1)) (eW b), by show brW _ _ ++ _ = _; rw [e]; rfl, hw⟩
  | nil => intro h; cases h
  | cons a b _ _ => intro h; cases h
theorem a_cons {x l : X} (h1 : isX x = true) (hw : wf x) (hl : isX l = false) (hx : PX E x) (hA : AX E l) : AX E (.cons x l) := by
  intro fr nm d acc s n hd hd1 hn hat
  have hdp : dp (.cons x l) = max (dp x + 1) (dp l) := rfl
  have hlen : (eW (.cons x l)).length = (eW x).length + ((sepW l).length + (eW l).length) := by simp [eW]
  obtain ⟨w0, r0, e0, hw0⟩ := hdW x h1 hw
  have hl1 : 1 ≤ (eW x).length := by rw [e0]; simp
  obtain ⟨m, rfl⟩ : ∃ m, n = m + 1 := ⟨n - 1, by omega⟩
  have hsp : aW acc (.cons x l) = (if acc = [] then [] else [wComma]) ++ (eW x ++ (sepW l ++ (eW l ++ [wRpar]))) := by
    unfold aW; simp [eW, sepW]
  have hlA : (aW acc (.cons x l)).length = (if acc = [] then 0 else 1) + ((eW x).length + ((sepW l).length + ((eW l).length + 1))) := by
    rw [hsp]; split <;> simp <;> omega
  rw [hsp] at hat
  obtain ⟨g1, g2⟩ := At.app hat
  have hs1 : ∃ s1 : PS, (if acc = [] then Rs.ok () s else want E wComma s) = .ok () s1 ∧ s1.i = s.i + (if acc = [] then 0 else 1) ∧ s1.ex = s.ex ∧ s1.st = s.st ∧ s1.fn = s.fn ∧ Sy.wd E s ≠ wRpar := by
    by_cases ha : acc = []
    · rw [if_pos ha, if_pos ha]
      rw [if_pos ha] at g2
      refine ⟨s, rfl, rfl, rfl, rfl, rfl, ?_⟩
      rw [e0] at g2
      rw [show Sy.wd E s = w0 from g2.1]; exact hw0
    · rw [if_neg ha, if_neg ha]
      rw [if_neg ha] at g1
      exact ⟨Sy.adv s, want_of g1.1, rfl, rfl, rfl, rfl, by rw [show Sy.wd E s = wComma from g1.1]; decide⟩
  obtain ⟨s1, q1, q2, q3, q4, q5, q6⟩ := hs1
  have g2 : At E s1.i (eW x ++ (sepW l ++ (eW l ++ [wRpar]))) := by
    rw [q2]
    by_cases ha : acc = []
    · rw [if_pos ha] at g2 ⊢; exact g2
    · rw [if_neg ha] at g2 ⊢; exact g2
  obtain ⟨g3, g4⟩ := At.app g2
  have hnx : E.W[s1.i + (eW x).length]?.getD [] = wComma ∨ E.W[s1.i + (eW x).length]?.getD [] = wRpar := by
    cases l with
    | nil => exact .inr g4.1
    | cons y r => exact .inl g4.1
    | _ => exact absurd hl (by simp [isX])
  obtain ⟨t, e1, r⟩ := expr_of hx (d := d + 1) (s := s1) (n := m) (by omega) (by omega) (by omega) g3 (by
    rcases hnx with h | h <;> rw [h] <;> exact fol0 (by decide))
  have ht : t.i = s1.i + (eW x).length := r.i
  have hg : Gr s t (fl s.ex.length x) := by have := r.g; rw [q3] at this; exact this.of q3.symm q4.symm q5.symm
  have hgl := hg.len
  rw [fl_len] at hgl
  have hne : acc ++ [rt s.ex.length x] ≠ [] := by simp
  obtain ⟨u, f1, f2, f3⟩ := hA fr nm d (acc ++ [rt s.ex.length x]) t m (by omega) hd1 (by omega) (by unfold aW; rw [if_neg hne, ht]; exact g4)
  rw [hgl] at f1 f3
  refine ⟨u, ?_, ?_, ?_⟩
  · show sArgs E (lv E m) fr nm d acc s = _
    unfold sArgs
    rw [if_neg q6, q1]
    simp only [bind_ok]
    rw [e1]
    simp only [bind_ok]
    rw [if_pos (show Sy.wd E t = wComma ∨ Sy.wd E t = wRpar by show E.W[t.i]?.getD [] = _ ∨ E.W[t.i]?.getD [] = _; rw [ht]; exact hnx), q3, f1]
    simp only [sz, Nat.add_assoc]
  · rw [f2, ht, q2, hlA]
    have : (aW (acc ++ [rt s.ex.length x]) l).length = (sepW l).length + ((eW l).length + 1) := by unfold aW; rw [if_neg hne]; simp
    rw [this]; omega
  · have := hg.trans f3
    simpa [fl, rts] using this
theorem pW_len {x : X} (h : isX x = true) (hw : wf x) (v : Nat) : 1 ≤ (pW v x).length := by
  obtain ⟨w, r, e, _⟩ := hdW_br (hdW x h hw) (decide (lvX x < v))
  unfold pW; rw [e]; simp
/-- One more pair of a chain. -/
theorem rows_op {u : Nat} (hu : u ≤ 4) {op : List Int} (hop : op ∈ sgs u) {a b : X} (hb : PX E b) {d fr : Int} {s0 t : PS} {k : Nat} (hg : Gr s0 t (fl s0.ex.length a)) (hd : d + pd (u + 1) b ≤ 64) (hd1 : d ≤ 64) (hk : 20 * (pW (u + 1) b).length + 20 ≤ k) (hat : At E t.i (op :: pW (u + 1) b)) (hf : Fol (u + 1) (E.W[t.i + 1 + (pW (u + 1) b).length]?.getD [])) :
    ∃ t', (lv E (k + 1)).rows u d fr (rt s0.ex.length a) t = (if u = 2 then .ok (rt s0.ex.length (.pr op a b)) t' else (lv E k).rows u d fr (rt s0.ex.length (.pr op a b)) t') ∧ t'.i = t.i + 1 + (pW (u + 1) b).length ∧ Gr s0 t' (fl s0.ex.length (.pr op a b)) := by
  obtain ⟨hw, hat⟩ := hat
  obtain ⟨v, e1, r⟩ := hb (u + 1) (by omega) d (Sy.adv t) k hd hd1 hk hat hf
  have hl := hg.len
  rw [fl_len] at hl
  have hl2 := r.g.len
  rw [fl_len] at hl2
  have hl1 : (Sy.adv t).ex.length = s0.ex.length + sz a := hl
  rw [hl1] at e1 hl2
  have rg := r.g
  rw [hl1] at rg
  have hws : Sy.wd E t = op := hw
  have er : (v.ex.length : Int) = rt s0.ex.length (.pr op a b) := rt_eq (by simp only [sz]; omega)
  refine ⟨{ v with ex := v.ex ++ [{ ({ k := 9, op := op, a := rt s0.ex.length a, b := rt (s0.ex.length + sz a) b } : Ex) with f := fr, e := pe E v }] }, ?_, ?_, ?_⟩
  · show sRows E (lv E k) u d fr _ t = _
    unfold sRows
    rw [hws, if_pos hop, e1]
    simp only [bind_ok]
    unfold Sy.put
    simp only [bind_ok]
    rw [er]
  · show v.i = _; rw [r.i]; rfl
  · refine ⟨?_, ?_, ?_⟩
    · show List.map bx (v.ex ++ _) = _
      rw [List.map_append, rg.ex]
      show List.map bx t.ex ++ _ ++ _ = _
      rw [hg.ex]
      simp [fl, bx]
    · show v.st = _; rw [rg.st]; exact hg.st
    · show v.fn = _; rw [rg.fn]; exact hg.fn
theorem at_cons {i : Nat} {w : List Int} {r : List (List Int)} : At E i (w :: r) → E.W[i]?.getD [] = w := fun h => h.1
/-- A chain ends with a pair. -/
theorem chain {u : Nat} (hu : u ≤ 4) (h2 : u ≠ 2) {op : List Int} (hop : op ∈ sgs u) {a b : X} (ha : CX E a) (hb : PX E b) (h1 : 1 ≤ (pW (u + 1) b).length) {d : Int} {s : PS} {n : Nat} (hda : d + pd u a ≤ 64) (hdb : d + pd (u + 1) b ≤ 64) (hd1 : d ≤ 64)
    (hn : 20 * ((pW u a).length + (1 + (pW (u + 1) b).length)) + 16 ≤ n) (hat : At E s.i (pW u a ++ op :: pW (u + 1) b)) (hf : Fol (u + 1) (E.W[s.i + ((pW u a).length + (1 + (pW (u + 1) b).length))]?.getD [])) :
    ∃ t c, c ≤ (pW u a).length + 1 ∧ (lv E n).row u d s = (lv E (n - c)).rows u d (hr E s) (rt s.ex.length (.pr op a b)) t ∧ t.i = s.i + ((pW u a).length + (1 + (pW (u + 1) b).length)) ∧ Gr s t (fl s.ex.length (.pr op a b)) := by
  obtain ⟨g1, g2⟩ := At.app hat
  obtain ⟨t, c, hc, e1, r⟩ := ha u hu h2 d s n hda hd1 (by omega) g1 (by rw [at_cons g2]; exact fol_op hu hop)
  obtain ⟨k, hk⟩ : ∃ k, n - c = k + 1 := ⟨n - c - 1, by omega⟩
  obtain ⟨t', e2, e3, e4⟩ := rows_op hu hop hb (fr := hr E s) (s0 := s) (k := k) r.g hdb hd1 (by omega) (by rw [r.i]; exact g2) (by rw [r.i]; rw [show s.i + (pW u a).length + 1 + (pW (u + 1) b).length = s.i + ((pW u a).length + (1 + (pW (u + 1) b).length)) by omega]; exact hf)
  refine ⟨t', c + 1, by omega, ?_, by rw [e3, r.i]; omega, e4⟩
  rw [e1, hk, e2, if_neg h2, show n - (c + 1) = k by omega]
theorem rows_end {u : Nat} {k : Nat} {d fr a : Int} {t : PS} (h : Sy.wd E t ∉ sgs u) : (lv E (k + 1)).rows u d fr a t = .ok a t := by
  show sRows E (lv E k) u d fr a t = _
  unfold sRows
  rw [if_neg h]
end
end Go.Proofs.YtfnbgbeinmekgaaGreatDoor.Pt
namespace Go.Proofs.YtfnbgbeinmekgaaGreatDoor.Pt
open Go Sy Nu
set_option linter.unusedVariables false
section
variable {E : Env}
theorem cx_px {x : X} (h1 : isX x = true) (hw : wf x) (hl : lvX x = 5) (h : PX E x) : CX E x := by
  intro u hu h2 d s n hd hd1 hn ha hf
  obtain ⟨t, e, r⟩ := cx_of hu (by omega) h hd hd1 hn ha hf
  exact ⟨t, 1, pW_len h1 hw u, e, r⟩
/-- A pair that stands bare. -/
theorem pair_bare {u : Nat} (hu : u ≤ 4) {op : List Int} (hop : op ∈ sgs u) {a b : X} (h1a : isX a = true) (h1b : isX b = true) (hwa : wf a) (hwb : wf b) (hPa : PX E a) (hCa : CX E a) (hPb : PX E b)
    {v : Nat} (hv : v ≤ u) {d : Int} {s : PS} {n : Nat} (hd : d + dp (.pr op a b) ≤ 64) (hd1 : d ≤ 64) (hn : 20 * (eW (.pr op a b)).length + 20 ≤ n) (hat : At E s.i (eW (.pr op a b))) (hf : Fol v (E.W[s.i + (eW (.pr op a b)).length]?.getD [])) :
    ∃ t, (lv E n).row v d s = .ok (rt s.ex.length (.pr op a b)) t ∧ Rd s t (eW (.pr op a b)).length (.pr op a b) := by
  have hlo : lvO op = u := lvO_of hu hop
  have hw : eW (.pr op a b) = pW (lf u) a ++ op :: pW (u + 1) b := by simp only [eW, pW, hlo]
  have hdp : dp (.pr op a b) = max (pd (lf u) a) (pd (u + 1) b) := by simp only [dp, pd, hlo]
  have hlen : (eW (.pr op a b)).length = (pW (lf u) a).length + (1 + (pW (u + 1) b).length) := by rw [hw]; simp; omega
  rw [hw] at hat
  rw [hlen] at hn hf ⊢
  have key : ∃ t, (lv E (n - (u - v))).row u d s = .ok (rt s.ex.length (.pr op a b)) t ∧ Rd s t ((pW (lf u) a).length + (1 + (pW (u + 1) b).length)) (.pr op a b) := by
    by_cases h2 : u = 2
    · subst h2
      have hlf : lf 2 = 3 := rfl
      rw [hlf] at hat hn hf hdp ⊢
      obtain ⟨g1, g2⟩ := At.app hat
      obtain ⟨k, hk⟩ : ∃ k, n - (2 - v) = k + 1 + 1 := ⟨n - (2 - v) - 2, by omega⟩
      obtain ⟨t, e1, r⟩ := hPa 3 (by omega) d s (k + 1) (by omega) hd1 (by omega) g1 (by rw [at_cons g2]; exact fol_op (u := 2) (by omega) hop)
      obtain ⟨t', e2, e3, e4⟩ := rows_op hu hop hPb (fr := hr E s) (s0 := s) (k := k) r.g (by omega) hd1 (by omega) (by rw [r.i]; exact g2) (by
        rw [r.i, show s.i + (pW 3 a).length + 1 + (pW (2 + 1) b).length = s.i + ((pW 3 a).length + (1 + (pW (2 + 1) b).length)) by omega]; exact hf.up (by omega))
      refine ⟨t', ?_, by rw [e3, r.i]; omega, e4⟩
      rw [hk]
      show sRow E (lv E (k + 1)) 2 d s = _
      unfold sRow
      rw [if_neg (by omega), e1]
      simp only [bind_ok]
      rw [e2, if_pos rfl]
    · have hlf : lf u = u := by unfold lf; rw [if_neg h2]
      rw [hlf] at hat hn hf hdp ⊢
      obtain ⟨t, c, hc, e1, e2, e3⟩ := chain hu h2 hop hCa hPb (pW_len h1b hwb (u + 1)) (d := d) (s := s) (n := n - (u - v)) (by omega) (by omega) hd1 (by have := pW_len h1b hwb (u + 1); omega) hat (hf.up (by omega))
      obtain ⟨k, hk⟩ : ∃ k, n - (u - v) - c = k + 1 := ⟨n - (u - v) - c - 1, by omega⟩
      refine ⟨t, ?_, e2, e3⟩
      rw [e1, hk]
      refine rows_end ?_
      show E.W[t.i]?.getD [] ∉ sgs u
      rw [e2]
      exact hf.1 u hv hu
  obtain ⟨t, e1, r⟩ := key
  refine ⟨t, ?_, r⟩
  have := climb (by omega) e1 (u - v) v (by omega) (by show Fol v (E.W[t.i]?.getD []); rw [r.i]; exact hf)
  rwa [show n - (u - v) + (u - v) = n by omega] at this
theorem px_pair (hK : KE E) {u : Nat} (hu : u ≤ 4) {op : List Int} (hop : op ∈ sgs u) {a b : X} (h1a : isX a = true) (h1b : isX b = true) (hwa : wf a) (hwb : wf b) (hPa : PX E a) (hCa : CX E a) (hPb : PX E b) : PX E (.pr op a b) := by
  intro v hv d s n hd hd1 hn hat hf
  have hlo : lvX (.pr op a b) = u := lvO_of hu hop
  by_cases hb : u < v
  · have hw : pW v (.pr op a b) = wLpar :: (eW (.pr op a b) ++ [wRpar]) := by unfold pW; rw [hlo, decide_eq_true hb]; rfl
    have hpd : pd v (.pr op a b) = dp (.pr op a b) + 1 := by unfold pd; rw [hlo, if_pos hb]
    rw [hw] at hat
    have hlen : (pW v (.pr op a b)).length = (eW (.pr op a b)).length + 2 := by rw [hw]; simp
    rw [hlen] at hn hf ⊢
    obtain ⟨g0, g1⟩ := hat
    obtain ⟨g2, g3, _⟩ := At.app g1
    have g0 : Sy.wd E s = wLpar := g0
    obtain ⟨m, hm⟩ : ∃ m, n - 1 - (5 - v) = m + 1 + 1 + 1 := ⟨n - 1 - (5 - v) - 3, by omega⟩
    obtain ⟨t, e1, r⟩ := pair_bare hu hop h1a h1b hwa hwb hPa hCa hPb (v := 0) (by omega) (d := d + 1) (s := Sy.adv s) (n := m) (by omega) (by omega) (by omega) g2 (by
      show Fol 0 (E.W[s.i + 1 + (eW (.pr op a b)).length]?.getD []); rw [g3]; exact fol0 (by decide))
    have ht : t.i = s.i + 1 + (eW (.pr op a b)).length := r.i
    refine ⟨Sy.adv t, climb5 hv ?_ (by show Fol v (E.W[t.i + 1]?.getD []); rw [ht, show s.i + 1 + (eW (.pr op a b)).length + 1 = s.i + ((eW (.pr op a b)).length + 2) by omega]; exact hf) (by omega), by show t.i + 1 = _; omega, r.g.adv.adv'⟩
    rw [hm, unary_prim (by rw [g0]; decide) (by rw [g0]; decide)]
    show sPrim E (lv E (m + 1)) d s = _
    unfold sPrim
    have hk : Sy.kd E s = 4 := kd_of hK g0 rfl (by decide)
    rw [if_neg (by rw [hk]; decide), if_neg (by rw [g0]; decide), if_neg (by rw [g0]; decide), if_neg (by rw [g0]; decide), if_pos g0]
    have e2 : (lv E (m + 1)).expr (d + 1) (Sy.adv s) = .ok (rt s.ex.length (.pr op a b)) t := by
      show sExpr E (lv E m) (d + 1) _ = _
      unfold sExpr Sy.deep
      rw [if_neg (by omega)]
      exact e1
    rw [e2]
    simp only [bind_ok]
    rw [want_of (by rw [ht]; exact g3)]
    rfl
  · have hw : pW v (.pr op a b) = eW (.pr op a b) := by unfold pW; rw [hlo, decide_eq_false hb]; rfl
    have hpd : pd v (.pr op a b) = dp (.pr op a b) := by unfold pd; rw [hlo, if_neg hb]; rfl
    rw [hw] at hat hn hf ⊢
    exact pair_bare hu hop h1a h1b hwa hwb hPa hCa hPb (by omega) (by omega) hd1 hn hat hf
theorem cx_pair {u : Nat} (hu : u ≤ 4) {op : List Int} (hop : op ∈ sgs u) {a b : X} (h1a : isX a = true) (h1b : isX b = true) (hwa : wf a) (hwb : wf b) (hw0 : wf (.pr op a b)) (hCa : CX E a) (hPb : PX E b) (hP : PX E (.pr op a b)) : CX E (.pr op a b) := by
  have hlo : lvX (.pr op a b) = u := lvO_of hu hop
  have hlo' : lvO op = u := hlo
  intro v hv h2 d s n hd hd1 hn hat hf
  by_cases hne : u = v
  · subst hne
    have hlf : lf u = u := by unfold lf; rw [if_neg h2]
    have hw : pW u (.pr op a b) = pW u a ++ op :: pW (u + 1) b := by
      have e : pW u (.pr op a b) = eW (.pr op a b) := by unfold pW; rw [hlo, decide_eq_false (by omega)]; rfl
      rw [e]; simp only [eW, pW, hlo', hlf]
    have hdp : pd u (.pr op a b) = max (pd u a) (pd (u + 1) b) := by
      have e : pd u (.pr op a b) = dp (.pr op a b) := by unfold pd; rw [hlo, if_neg (by omega)]; rfl
      rw [e]; simp only [dp, pd, hlo', hlf]
    have hlen : (pW u (.pr op a b)).length = (pW u a).length + (1 + (pW (u + 1) b).length) := by rw [hw]; simp; omega
    rw [hw] at hat
    rw [hlen] at hn hf ⊢
    obtain ⟨t, c, hc, e1, e2, e3⟩ := chain hu h2 hop hCa hPb (pW_len h1b hwb (u + 1)) (d := d) (s := s) (n := n) (by omega) (by omega) hd1 (by omega) hat hf
    exact ⟨t, c, by omega, e1, e2, e3⟩
  · obtain ⟨t, e, r⟩ := cx_of hv (by omega) hP hd hd1 hn hat hf
    exact ⟨t, 1, pW_len rfl hw0 v, e, r⟩
theorem mainX (hK : KE E) : ∀ x : X, wf x → (isX x = true → PX E x ∧ CX E x) ∧ (isX x = false → AX E x) := by
  intro x
  have lift : ∀ {x : X}, wf x → isX x = true → lvX x = 5 → QX E x → (isX x = true → PX E x ∧ CX E x) ∧ (isX x = false → AX E x) := fun hw h1 hl q =>
    ⟨fun _ => ⟨px_of hl q, cx_px h1 hw hl (px_of hl q)⟩, fun h => by rw [h1] at h; cases h⟩
  induction x with
  | num n => intro h; exact lift h rfl rfl (q_num hK h)
  | tt => intro h; exact lift h rfl rfl (q_tt hK)
  | ff => intro h; exact lift h rfl rfl (q_ff hK)
  | rd => intro h; exact lift h rfl rfl (q_rd hK)
  | nm w => intro h; exact lift h rfl rfl (q_nm hK h)
  | idx w a ih => intro h; exact lift h rfl rfl (q_idx hK h.1 ((ih h.2.2).1 h.2.1).1)
  | call w l ih => intro h; exact lift h rfl rfl (q_call hK h.1 ((ih h.2.2).2 h.2.1))
  | un op a ih => intro h; exact lift h rfl rfl (q_un hK h.1 ((ih h.2.2).1 h.2.1).1)
  | pr op a b iha ihb =>
    intro h
    obtain ⟨v, hv, hop⟩ := h.1
    obtain ⟨pa, ca⟩ := (iha h.2.2.2.1).1 h.2.1
    obtain ⟨pb, cb⟩ := (ihb h.2.2.2.2).1 h.2.2.1
    have hP := px_pair hK hv hop h.2.1 h.2.2.1 h.2.2.2.1 h.2.2.2.2 pa ca pb
    exact ⟨fun _ => ⟨hP, cx_pair hv hop h.2.1 h.2.2.1 h.2.2.2.1 h.2.2.2.2 h ca pb hP⟩, fun h => by cases h⟩
  | nil => intro _; exact ⟨fun h => (by cases h), fun _ => a_nil⟩
  | cons x l ihx ihl => intro h; exact ⟨fun h => (by cases h), fun _ => a_cons h.1 h.2.2.1 h.2.1 ((ihx h.2.2.1).1 h.1).1 ((ihl h.2.2.2).2 h.2.1)⟩
/-- The words of an expression, parsed. -/
theorem exprB (hK : KE E) {x : X} (h1 : isX x = true) (hw : wf x) {d : Int} {s : PS} {n : Nat} (hd : d + dp x ≤ 64) (hd1 : d ≤ 64) (hn : 20 * (eW x).length + 21 ≤ n) (ha : At E s.i (eW x)) (hf : Fol 0 (E.W[s.i + (eW x).length]?.getD [])) : ∃ t, (lv E n).expr d s = .ok (rt s.ex.length x) t ∧ Rd s t (eW x).length x :=
  expr_of ((mainX hK x hw).1 h1).1 hd hd1 hn ha hf
end
end Go.Proofs.YtfnbgbeinmekgaaGreatDoor.Pt
namespace Go.Proofs.YtfnbgbeinmekgaaGreatDoor.Pt
open Go Sy Nu
set_option linter.unusedVariables false
section
variable {E : Env}
theorem add_of {fr : Int} {x : St} {s : PS} (h : s.st.length < 1000) : ∃ t, add E fr x s = .ok (s.st.length : Int) t ∧ t.i = s.i ∧ Gy s t [] [bs x] := by
  refine ⟨{ s with st := s.st ++ [{ x with f := fr, e := pe E s }] }, ?_, rfl, ⟨by simp, by simp [bs], rfl⟩⟩
  unfold add; rw [if_neg (by omega)]
theorem endS_of {fr : Int} {x : St} {s : PS} (h : s.st.length < 1000) (hw : E.W[s.i]?.getD [] = wSemi) : ∃ t, endS E fr x s = .ok (s.st.length : Int) t ∧ t.i = s.i + 1 ∧ Gy s t [] [bs x] := by
  obtain ⟨t, h1, h2, h3⟩ := add_of (E := E) (fr := fr) (x := x) (s := Sy.adv s) h
  refine ⟨t, ?_, h2, h3.adv⟩
  unfold endS
  rw [want_of hw]
  exact h1
/-- A parse that goes on behind a statement. -/
structure Ry (s t : PS) (n : Nat) (y : Y) : Prop where
  i : t.i = s.i + n
  g : Gy s t (fx s.ex.length y) (fy s.ex.length s.st.length y)
def PY (E : Env) (y : Y) : Prop := ∀ (d : Int) (s : PS) (n : Nat), okY d y → d ≤ 64 → s.st.length + zy y ≤ 1000 → 20 * (wY y false).length + 25 ≤ n → At E s.i (wY y false) → E.W[s.i + (wY y false).length]?.getD [] ≠ wElse → ∃ t, (lv E n).stmt d s = .ok (ry s.st.length y) t ∧ Ry s t (wY y false).length y
/-- The words behind "if". -/
def wB (x : X) (th el : Y) : List (List Int) := eW x ++ (blkW (wY th false) ++ if isN el then [] else wElse :: if isEI el then wY el true else blkW (wY el false))
def BY (E : Env) : Y → Prop
  | .sif x th el => ∀ (fr d : Int) (s : PS) (n : Nat), okY d (.sif x th el) → d ≤ 64 → s.st.length + zy (.sif x th el) ≤ 1000 → 20 * (wB x th el).length + 25 ≤ n → At E s.i (wB x th el) → E.W[s.i + (wB x th el).length]?.getD [] ≠ wElse → ∃ t, (lv E n).branch fr d s = .ok (ry s.st.length (.sif x th el)) t ∧ Ry s t (wB x th el).length (.sif x th el)
  | _ => True
def LY (E : Env) (y : Y) : Prop := ∀ (d : Int) (acc : List Int) (s : PS) (n : Nat), okY d y → d ≤ 64 → s.st.length + zy y ≤ 1000 → 20 * (wY y false).length + 30 ≤ n → At E s.i (wY y false ++ [wRcur]) → ∃ t, (lv E n).stmts d acc s = .ok (acc ++ rys s.st.length y) t ∧ Ry s t ((wY y false).length + 1) y
def HB (E : Env) : Y → Prop
  | .cons s _ => BY E s
  | _ => True
theorem hdY : ∀ y : Y, isY y = true → wfY y → ∃ w r, wY y false = w :: r ∧ w ≠ wRcur ∧ w ≠ wElse := by
  have ne : ∀ {w : List Int}, NmW w → w ≠ wRcur ∧ w ≠ wElse := fun h => ⟨nm_ne h (by decide), fun e => by subst e; cases h.1⟩
  intro y h1 hw
  cases y with
  | svar w x => exact ⟨_, _, rfl, by decide, by decide⟩
  | sarr w n => exact ⟨_, _, rfl, by decide, by decide⟩
  | sset w x => exact ⟨_, _, rfl, ne hw.1⟩
  | sput w x y => exact ⟨_, _, rfl, ne hw.1⟩
  | sif x th el => exact ⟨_, _, rfl, by decide, by decide⟩
  | swh x th => exact ⟨_, _, rfl, by decide, by decide⟩
  | brk => exact ⟨_, _, rfl, by decide, by decide⟩
  | cnt => exact ⟨_, _, rfl, by decide, by decide⟩
  | ret0 => exact ⟨_, _, rfl, by decide, by decide⟩
  | ret x => exact ⟨_, _, rfl, by decide, by decide⟩
  | prn x => exact ⟨_, _, rfl, by decide, by decide⟩
  | scl x =>
    cases x with
    | call w l => exact ⟨_, _, rfl, ne hw.2.1⟩
    | _ => exact absurd hw.1 (by simp [isC])
  | nil => cases h1
  | cons s l => cases h1
theorem blockB {y : Y} (h : LY E y) {d : Int} {s : PS} {n : Nat} (hk : okY d y) (hd : d ≤ 64) (hz : s.st.length + zy y ≤ 1000) (hn : 20 * (wY y false).length + 30 ≤ n) (hat : At E s.i (blkW (wY y false))) : ∃ t, block E (lv E n) d s = .ok (rys s.st.length y) t ∧ Ry s t (blkW (wY y false)).length y := by
  obtain ⟨g1, g2⟩ := hat
  obtain ⟨t, e1, r⟩ := h d [] (Sy.adv s) n hk hd hz hn g2
  refine ⟨t, ?_, ⟨by rw [r.i]; simp [blkW, Sy.adv]; omega, r.g.adv⟩⟩
  unfold block Sy.deep
  rw [if_pos (show Sy.wd E s = wLcur from g1), if_neg (by omega)]
  simp only [bind_ok]
  rw [want_of g1]
  simp only [bind_ok]
  rw [e1]; rfl
theorem l_nil : LY E .nil := by
  intro d acc s n hk hd hz hn hat
  obtain ⟨m, rfl⟩ : ∃ m, n = m + 1 := ⟨n - 1, by omega⟩
  refine ⟨Sy.adv s, ?_, ⟨rfl, (Gy.refl s).adv'⟩⟩
  show sStmts E (lv E m) d acc s = _
  unfold sStmts
  rw [if_pos (show Sy.wd E s = wRcur from hat.1)]
  simp [rys]
theorem l_cons {y l : Y} (h1 : isY y = true) (hw : wfY y) (hl : isY l = false) (hwl : wfY l) (hP : PY E y) (hL : LY E l) : LY E (.cons y l) := by
  intro d acc s n hk hd hz hn hat
  obtain ⟨w0, r0, e0, hw0, _⟩ := hdY y h1 hw
  have hW : wY (.cons y l) false = wY y false ++ wY l false := rfl
  have hzz : zy (.cons y l) = zy y + zy l := rfl
  rw [hW] at hn hat ⊢
  rw [List.length_append] at hn ⊢
  have hl1 : 1 ≤ (wY y false).length := by rw [e0]; simp
  rw [List.append_assoc] at hat
  obtain ⟨g1, g2⟩ := At.app hat
  obtain ⟨m, rfl⟩ : ∃ m, n = m + 1 := ⟨n - 1, by omega⟩
  have hnx : E.W[s.i + (wY y false).length]?.getD [] ≠ wElse := by
    cases l with
    | nil => rw [at_cons g2]; decide
    | cons z k =>
      obtain ⟨w1, r1, e1, _, hw1⟩ := hdY z hwl.1 hwl.2.2.1
      have : wY (.cons z k) false = wY z false ++ wY k false := rfl
      rw [this, e1] at g2
      rw [at_cons g2]; exact hw1
    | _ => exact absurd hl (by simp [isY])
  obtain ⟨t, e1, r⟩ := hP d s m hk.1 hd (by omega) (by omega) g1 hnx
  obtain ⟨a1, a2⟩ := r.g.len
  rw [fx_len] at a1
  rw [fy_len] at a2
  obtain ⟨u, e2, r2⟩ := hL d (acc ++ [ry s.st.length y]) t m hk.2 hd (by omega) (by omega) (by rw [r.i]; exact g2)
  have rg := r2.g
  rw [a1, a2] at rg
  refine ⟨u, ?_, ⟨by rw [r2.i, r.i]; omega, r.g.trans rg⟩⟩
  show sStmts E (lv E m) d acc s = _
  unfold sStmts
  rw [if_neg (show ¬ Sy.wd E s = wRcur by rw [e0] at g1; rw [show Sy.wd E s = w0 from g1.1]; exact hw0), e1]
  simp only [bind_ok]
  rw [e2, a2]
  simp [rys]
end
end Go.Proofs.YtfnbgbeinmekgaaGreatDoor.Pt
namespace Go.Proofs.YtfnbgbeinmekgaaGreatDoor.Pt
open Go Sy Nu
set_option linter.unusedVariables false
section
variable {E : Env}
/-- An expression, and the sign that ends a statement. -/
theorem semi (hK : KE E) {x : X} (h1 : isX x = true) (hw : wf x) {d : Int} {s : PS} {m : Nat} (hd : d + dp x ≤ 64) (hd1 : d ≤ 64) (hn : 20 * (eW x).length + 21 ≤ m) (hz : s.st.length < 1000) (hat : At E s.i (eW x ++ [wSemi])) :
    ∃ t1, (lv E m).expr d s = .ok (rt s.ex.length x) t1 ∧ ∀ (fr : Int) (k : Int) (nm : List Int), ∃ t, endS E fr { k := k, nm := nm, a := rt s.ex.length x } t1 = .ok (s.st.length : Int) t ∧ t.i = s.i + (eW x).length + 1 ∧ Gy s t (fl s.ex.length x) [{ k := k, nm := nm, a := rt s.ex.length x }] := by
  obtain ⟨g1, g2⟩ := At.app hat
  obtain ⟨t1, e1, r⟩ := exprB hK h1 hw hd hd1 hn g1 (by rw [at_cons g2]; exact fol0 (by decide))
  refine ⟨t1, e1, fun fr k nm => ?_⟩
  have hst : t1.st = s.st := r.g.st
  obtain ⟨t, e2, e3, e4⟩ := endS_of (E := E) (fr := fr) (x := { k := k, nm := nm, a := rt s.ex.length x }) (s := t1) (by rw [hst]; exact hz) (by rw [r.i]; exact g2.1)
  rw [hst] at e2
  refine ⟨t, e2, by rw [e3, r.i], ?_⟩
  have := r.g.gy.trans e4
  simpa [bs] using this
theorem ry1 {ls : Nat} {y : Y} (h : zy y = 1) : (ls : Int) = ry ls y := ry_eq (by rw [h])
theorem stmt_eq {d : Int} {s : PS} {n : Nat} : (lv E (n + 1)).stmt d s = sStmt E (lv E n) d s := rfl
theorem p_svar (hK : KE E) {w : List Int} {x : X} (h : wfY (.svar w x)) : PY E (.svar w x) := by
  intro d s n hk hd hz hn hat _
  have hl : (wY (.svar w x) false).length = (eW x).length + 4 := by simp [wY]
  obtain ⟨g1, g2, g3, g4⟩ := hat
  have hz : s.st.length < 1000 := by have : zy (.svar w x) = 1 := rfl
                                     omega
  obtain ⟨m, rfl⟩ : ∃ m, n = m + 1 := ⟨n - 1, by omega⟩
  obtain ⟨t1, e1, e2⟩ := semi hK h.2.1 h.2.2 (d := d) (s := Sy.adv (Sy.adv (Sy.adv s))) (m := m) hk hd (by omega) hz g4
  obtain ⟨t, e3, e4, e5⟩ := e2 (hr E s) 1 w
  refine ⟨t, ?_, ⟨by rw [e4, hl]; show s.i + 1 + 1 + 1 + _ + 1 = _; omega, e5.adv.adv.adv⟩⟩
  rw [stmt_eq]
  unfold sStmt
  rw [if_pos (show Sy.wd E s = wVar from g1)]
  unfold sDecl
  have hk1 : knd E 1 (Sy.adv s) = .ok w (Sy.adv (Sy.adv s)) := by
    unfold knd; rw [if_pos (kd_nm hK (s := Sy.adv s) g2 h.1), show Sy.wd E (Sy.adv s) = w from g2]
  rw [hk1]
  simp only [bind_ok]
  rw [if_neg (by rw [show Sy.wd E (Sy.adv (Sy.adv s)) = wEq from g3]; decide), want_of g3]
  simp only [bind_ok]
  rw [e1]
  exact e3.trans (congrArg (fun z => Rs.ok z t) (ry1 rfl))
theorem p_sarr (hK : KE E) {w : List Int} {k : Int} (h : wfY (.sarr w k)) : PY E (.sarr w k) := by
  intro d s n hk hd hz hn hat _
  obtain ⟨g1, g2, g3, g4, g5, g6, _⟩ := hat
  have hz : s.st.length < 1000 := by have : zy (.sarr w k) = 1 := rfl
                                     omega
  obtain ⟨m, rfl⟩ : ∃ m, n = m + 1 := ⟨n - 1, by omega⟩
  obtain ⟨t, e3, e4, e5⟩ := endS_of (E := E) (fr := hr E s) (x := { k := 2, nm := w, n := k }) (s := Sy.adv (Sy.adv (Sy.adv (Sy.adv (Sy.adv s))))) hz g6
  refine ⟨t, ?_, ⟨by rw [e4]; rfl, e5.adv.adv.adv.adv.adv⟩⟩
  rw [stmt_eq]
  unfold sStmt
  rw [if_pos (show Sy.wd E s = wVar from g1)]
  unfold sDecl
  have hk1 : knd E 1 (Sy.adv s) = .ok w (Sy.adv (Sy.adv s)) := by
    unfold knd; rw [if_pos (kd_nm hK (s := Sy.adv s) g2 h.1), show Sy.wd E (Sy.adv s) = w from g2]
  have hk2 : knd E 2 (Sy.adv (Sy.adv (Sy.adv s))) = .ok (dc k) (Sy.adv (Sy.adv (Sy.adv (Sy.adv s)))) := by
    have hw : Sy.wd E (Sy.adv (Sy.adv (Sy.adv s))) = dc k := g4
    unfold knd; rw [if_pos (kd_of hK hw (by rw [show Tk.body (dc k) = _ from h.2.2]) (nu_wd h.2.2).ne), hw]
  rw [hk1]
  simp only [bind_ok]
  rw [if_pos (show Sy.wd E (Sy.adv (Sy.adv s)) = wLbra from g3), hk2]
  simp only [bind_ok]
  rw [want_of g5]
  simp only [bind_ok]
  rw [show Sy.num (dc k) = k from dc_inj (num_wf h.2.2).2]
  exact e3.trans (congrArg (fun z => Rs.ok z t) (ry1 rfl))
theorem not_kw {s : PS} {w : List Int} (hw : Sy.wd E s = w) (h : NmW w) {L : Lv} {d : Int} : sStmt E L d s = (sNamed E L d s).bind fun x s1 => endS E (hr E s) x s1 := by
  unfold sStmt
  rw [hw, if_neg (nm_ne h (by decide)), if_neg (nm_ne h (by decide)), if_neg (nm_ne h (by decide)), if_neg (nm_ne h (by decide)), if_neg (nm_ne h (by decide)), if_neg (nm_ne h (by decide)), if_neg (nm_ne h (by decide))]
theorem knd_nm (hK : KE E) {s : PS} {w : List Int} (hw : Sy.wd E s = w) (h : NmW w) : knd E 1 s = .ok w (Sy.adv s) := by
  unfold knd; rw [if_pos (kd_nm hK hw h), hw]
theorem p_sset (hK : KE E) {w : List Int} {x : X} (h : wfY (.sset w x)) : PY E (.sset w x) := by
  intro d s n hk hd hz hn hat _
  have hl : (wY (.sset w x) false).length = (eW x).length + 3 := by simp [wY]
  obtain ⟨g1, g3, g4⟩ := hat
  have hz : s.st.length < 1000 := by have : zy (.sset w x) = 1 := rfl
                                     omega
  obtain ⟨m, rfl⟩ : ∃ m, n = m + 1 := ⟨n - 1, by omega⟩
  obtain ⟨t1, e1, e2⟩ := semi hK h.2.1 h.2.2 (d := d) (s := Sy.adv (Sy.adv s)) (m := m) hk hd (by omega) hz g4
  obtain ⟨t, e3, e4, e5⟩ := e2 (hr E s) 3 w
  refine ⟨t, ?_, ⟨by rw [e4, hl]; show s.i + 1 + 1 + _ + 1 = _; omega, e5.adv.adv⟩⟩
  rw [stmt_eq, not_kw g1 h.1]
  unfold sNamed
  rw [knd_nm hK g1 h.1]
  simp only [bind_ok]
  have hq : Sy.wd E (Sy.adv s) = wEq := g3
  rw [if_neg (by rw [hq]; decide), if_neg (by rw [hq]; decide), want_of g3]
  simp only [bind_ok]
  rw [e1]
  exact e3.trans (congrArg (fun z => Rs.ok z t) (ry1 rfl))
theorem p_sput (hK : KE E) {w : List Int} {x y : X} (h : wfY (.sput w x y)) : PY E (.sput w x y) := by
  intro d s n hk hd hz hn hat _
  have hl : (wY (.sput w x y) false).length = (eW x).length + (eW y).length + 5 := by simp [wY]; omega
  obtain ⟨g1, g2, g3⟩ := hat
  obtain ⟨g4, g5, g6, g7⟩ := At.app g3
  have hz : s.st.length < 1000 := by have : zy (.sput w x y) = 1 := rfl
                                     omega
  obtain ⟨m, rfl⟩ : ∃ m, n = m + 1 := ⟨n - 1, by omega⟩
  obtain ⟨hk1, hk2⟩ := hk
  obtain ⟨t1, e1, r⟩ := exprB hK h.2.1 h.2.2.1 (d := d + 1) (s := Sy.adv (Sy.adv s)) (n := m) hk1 (by omega) (by omega) g4 (by
    show Fol 0 (E.W[s.i + 1 + 1 + (eW x).length]?.getD []); rw [g5]; exact fol0 (by decide))
  have ht1 : t1.i = s.i + 1 + 1 + (eW x).length := r.i
  have hg : Gr s t1 (fl s.ex.length x) := r.g.adv.adv
  have hlx := hg.len
  rw [fl_len] at hlx
  have hlx2 : (Sy.adv (Sy.adv t1)).ex.length = s.ex.length + sz x := hlx
  have hst : (Sy.adv (Sy.adv t1)).st = s.st := hg.st
  obtain ⟨g8, g9⟩ := At.app g7
  obtain ⟨t2, e2, r2⟩ := exprB hK h.2.2.2.1 h.2.2.2.2 (d := d) (s := Sy.adv (Sy.adv t1)) (n := m) hk2 hd (by omega) (by show At E (t1.i + 1 + 1) _; rw [ht1]; exact g8) (by
    show Fol 0 (E.W[t1.i + 1 + 1 + (eW y).length]?.getD []); rw [ht1, at_cons g9]; exact fol0 (by decide))
  have r2i : t2.i = t1.i + 1 + 1 + (eW y).length := r2.i
  have rg := r2.g
  rw [hlx2] at rg e2
  have hst2 : t2.st = s.st := rg.st.trans hst
  obtain ⟨t, e3, e4, e5⟩ := endS_of (E := E) (fr := hr E s) (x := { k := 4, nm := w, a := rt s.ex.length x, b := rt (s.ex.length + sz x) y }) (s := t2) (by rw [hst2]; exact hz) (by rw [r2i, ht1]; exact g9.1)
  rw [hst2] at e3
  refine ⟨t, ?_, ⟨by rw [e4, r2i, ht1, hl]; omega, ?_⟩⟩
  · rw [stmt_eq, not_kw g1 h.1]
    unfold sNamed
    rw [knd_nm hK g1 h.1]
    simp only [bind_ok]
    have hq : Sy.wd E (Sy.adv s) = wLbra := g2
    rw [if_neg (by rw [hq]; decide), if_pos hq, e1]
    simp only [bind_ok]
    rw [want_of (by rw [ht1]; exact g5)]
    simp only [bind_ok]
    rw [want_of (by show E.W[t1.i + 1]?.getD [] = _; rw [ht1]; exact g6)]
    simp only [bind_ok]
    rw [e2]
    exact e3.trans (by rw [show ry s.st.length (.sput w x y) = (s.st.length : Int) from (ry_eq rfl).symm])
  · have := (hg.adv'.adv'.gy.trans rg.gy).trans e5
    simpa [fx, fy, bs] using this
end
end Go.Proofs.YtfnbgbeinmekgaaGreatDoor.Pt
namespace Go.Proofs.YtfnbgbeinmekgaaGreatDoor.Pt
open Go Sy Nu
set_option linter.unusedVariables false
section
variable {E : Env}
theorem p_word {y : Y} {k : Int} {w : List Int} (hw : wY y false = [w, wSemi]) (hz1 : zy y = 1) (hx : ∀ lo, fx lo y = []) (hy : ∀ lo ls, fy lo ls y = [bs { k := k }])
    (h : ∀ (L : Lv) (d : Int) (s : PS), Sy.wd E s = w → sStmt E L d s = endS E (hr E s) { k := k } (Sy.adv s)) : PY E y := by
  intro d s n hk hd hz hn hat _
  rw [hw] at hat hn ⊢
  obtain ⟨g1, g2, _⟩ := hat
  obtain ⟨m, rfl⟩ : ∃ m, n = m + 1 := ⟨n - 1, by simp at hn; omega⟩
  obtain ⟨t, e3, e4, e5⟩ := endS_of (E := E) (fr := hr E s) (x := { k := k }) (s := Sy.adv s) (by show s.st.length < 1000; omega) g2
  refine ⟨t, ?_, ⟨by rw [e4]; rfl, by rw [hx, hy]; exact e5.adv⟩⟩
  rw [stmt_eq, h _ _ _ g1]
  exact e3.trans (congrArg (fun z => Rs.ok z t) (ry1 hz1))
theorem p_brk : PY E .brk := by
  refine p_word (k := 7) rfl rfl (fun _ => rfl) (fun _ _ => rfl) fun L d s hw => ?_
  unfold sStmt
  rw [hw, if_neg (by decide), if_neg (by decide), if_neg (by decide), if_pos rfl]
theorem p_cnt : PY E .cnt := by
  refine p_word (k := 8) rfl rfl (fun _ => rfl) (fun _ _ => rfl) fun L d s hw => ?_
  unfold sStmt
  rw [hw, if_neg (by decide), if_neg (by decide), if_neg (by decide), if_neg (by decide), if_pos rfl]
theorem p_ret0 : PY E .ret0 := by
  intro d s n hk hd hz hn hat _
  obtain ⟨g1, g2, _⟩ := hat
  have hz : s.st.length < 1000 := by have : zy .ret0 = 1 := rfl
                                     omega
  obtain ⟨m, rfl⟩ : ∃ m, n = m + 1 := ⟨n - 1, by simp [wY] at hn; omega⟩
  obtain ⟨t, e3, e4, e5⟩ := endS_of (E := E) (fr := hr E s) (x := { k := 9, a := -1 }) (s := Sy.adv s) hz g2
  refine ⟨t, ?_, ⟨by rw [e4]; rfl, e5.adv⟩⟩
  rw [stmt_eq]
  unfold sStmt
  have hw : Sy.wd E s = wReturn := g1
  rw [hw, if_neg (by decide), if_neg (by decide), if_neg (by decide), if_neg (by decide), if_neg (by decide), if_pos rfl, if_pos (show Sy.wd E (Sy.adv s) = wSemi from g2)]
  exact e3.trans (congrArg (fun z => Rs.ok z t) (ry1 rfl))
theorem hd_semi : ∀ x : X, isX x = true → wf x → ∃ w r, eW x = w :: r ∧ w ≠ wSemi := by
  have br : ∀ {t : List (List Int)} (b : Bool), (∃ w r, t = w :: r ∧ w ≠ wSemi) → ∃ w r, brW b t = w :: r ∧ w ≠ wSemi := fun b h => by
    cases b
    · exact h
    · exact ⟨wLpar, _, rfl, by decide⟩
  have ne : ∀ {w : List Int}, NmW w → w ≠ wSemi := fun h e => by subst e; cases h.1
  intro x
  induction x with
  | num n => intro _ h; exact ⟨_, _, rfl, fun e => by have := h.2; rw [e] at this; cases this⟩
  | tt => intro _ _; exact ⟨_, _, rfl, by decide⟩
  | ff => intro _ _; exact ⟨_, _, rfl, by decide⟩
  | rd => intro _ _; exact ⟨_, _, rfl, by decide⟩
  | nm w => intro _ h; exact ⟨_, _, rfl, ne h⟩
  | idx w a _ => intro _ h; exact ⟨_, _, rfl, ne h.1⟩
  | call w a _ => intro _ h; exact ⟨_, _, rfl, ne h.1⟩
  | un op a _ => intro _ h; rcases h.1 with rfl | rfl <;> exact ⟨_, _, rfl, by decide⟩
  | pr op a b iha _ =>
    intro _ h
    obtain ⟨w, r, e, hw⟩ := br (decide (lvX a < lf (lvO op))) (iha h.2.1 h.2.2.2.1)
    exact ⟨w, r ++ op :: brW (decide (lvX b < lvO op + 1)) (eW b), by show brW _ _ ++ _ = _; rw [e]; rfl, hw⟩
  | nil => intro h; cases h
  | cons a b _ _ => intro h; cases h
theorem p_ret (hK : KE E) {x : X} (h : wfY (.ret x)) : PY E (.ret x) := by
  intro d s n hk hd hz hn hat _
  have hl : (wY (.ret x) false).length = (eW x).length + 2 := by simp [wY]
  obtain ⟨g1, g4⟩ := hat
  have hz : s.st.length < 1000 := by have : zy (.ret x) = 1 := rfl
                                     omega
  obtain ⟨m, rfl⟩ : ∃ m, n = m + 1 := ⟨n - 1, by omega⟩
  obtain ⟨t1, e1, e2⟩ := semi hK h.1 h.2 (d := d) (s := Sy.adv s) (m := m) hk hd (by omega) hz g4
  obtain ⟨t, e3, e4, e5⟩ := e2 (hr E s) 9 []
  refine ⟨t, ?_, ⟨by rw [e4, hl]; show s.i + 1 + _ + 1 = _; omega, e5.adv⟩⟩
  rw [stmt_eq]
  unfold sStmt
  have hw : Sy.wd E s = wReturn := g1
  obtain ⟨w0, r0, e0, hw0⟩ := hd_semi x h.1 h.2
  rw [e0] at g4
  rw [hw, if_neg (by decide), if_neg (by decide), if_neg (by decide), if_neg (by decide), if_neg (by decide), if_pos rfl, if_neg (by rw [show Sy.wd E (Sy.adv s) = w0 from g4.1]; exact hw0), e1]
  exact e3.trans (congrArg (fun z => Rs.ok z t) (ry1 rfl))
theorem p_prn (hK : KE E) {x : X} (h : wfY (.prn x)) : PY E (.prn x) := by
  intro d s n hk hd hz hn hat _
  have hl : (wY (.prn x) false).length = (eW x).length + 2 := by simp [wY]
  obtain ⟨g1, g4⟩ := hat
  have hz : s.st.length < 1000 := by have : zy (.prn x) = 1 := rfl
                                     omega
  obtain ⟨m, rfl⟩ : ∃ m, n = m + 1 := ⟨n - 1, by omega⟩
  obtain ⟨t1, e1, e2⟩ := semi hK h.1 h.2 (d := d) (s := Sy.adv s) (m := m) hk hd (by omega) hz g4
  obtain ⟨t, e3, e4, e5⟩ := e2 (hr E s) 10 []
  refine ⟨t, ?_, ⟨by rw [e4, hl]; show s.i + 1 + _ + 1 = _; omega, e5.adv⟩⟩
  rw [stmt_eq]
  unfold sStmt
  have hw : Sy.wd E s = wPrint := g1
  rw [hw, if_neg (by decide), if_neg (by decide), if_neg (by decide), if_neg (by decide), if_neg (by decide), if_neg (by decide), if_pos rfl, e1]
  exact e3.trans (congrArg (fun z => Rs.ok z t) (ry1 rfl))
theorem p_scl (hK : KE E) {x : X} (h : wfY (.scl x)) : PY E (.scl x) := by
  intro d s n hk hd hz hn hat _
  cases x with
  | call w l =>
    have hw : wf (.call w l) := h.2
    have hl : (wY (.scl (.call w l)) false).length = (eW l).length + 4 := by simp [wY, eW]
    have hat : At E s.i (w :: wLpar :: (eW l ++ ([wRpar] ++ [wSemi]))) := by simpa [wY, eW] using hat
    obtain ⟨g1, g2, g3⟩ := hat
    rw [← List.append_assoc] at g3
    obtain ⟨g4, g5⟩ := At.app g3
    have hz : s.st.length < 1000 := by have : zy (.scl (.call w l)) = 1 := rfl
                                       omega
    obtain ⟨m, rfl⟩ : ∃ m, n = m + 1 := ⟨n - 1, by omega⟩
    obtain ⟨t1, e1, e2, e3⟩ := (mainX hK l hw.2.2).2 hw.2.1 (hr E s) w d [] (Sy.adv (Sy.adv s)) m hk hd (by omega) (by show At E (s.i + 1 + 1) _; simpa [aW] using g4)
    have hi : t1.i = s.i + 1 + 1 + (eW l ++ [wRpar]).length := by rw [e2]; simp [aW, Sy.adv]
    have hg : Gr s t1 (fl s.ex.length (.call w l)) := Gr.adv (Gr.adv (by simpa [fl, Sy.adv] using e3))
    obtain ⟨t, f1, f2, f3⟩ := endS_of (E := E) (fr := hr E s) (x := { k := 11, a := rt s.ex.length (.call w l) }) (s := t1) (by rw [hg.st]; exact hz) (by rw [hi]; exact g5.1)
    rw [hg.st] at f1
    refine ⟨t, ?_, ⟨by rw [f2, hi, hl]; simp; omega, ?_⟩⟩
    · rw [stmt_eq, not_kw g1 hw.1]
      unfold sNamed
      rw [knd_nm hK g1 hw.1]
      simp only [bind_ok]
      have hq : Sy.wd E (Sy.adv s) = wLpar := g2
      rw [if_pos hq]
      unfold call
      rw [want_of g2]
      simp only [bind_ok]
      rw [e1]
      simp only [bind_ok]
      rw [show (((Sy.adv (Sy.adv s)).ex.length + sz l : Nat) : Int) = rt s.ex.length (.call w l) from rt_eq (by simp only [sz]; rfl)]
      exact f1.trans (congrArg (fun z => Rs.ok z t) (ry1 rfl))
    · have := hg.gy.trans f3
      simpa [fx, fy, bs] using this
  | _ => exact absurd h.1 (by simp [isC])
theorem p_swh (hK : KE E) {x : X} {th : Y} (h : wfY (.swh x th)) (hL : LY E th) : PY E (.swh x th) := by
  intro d s n hk hd hz hn hat _
  have hbl : (blkW (wY th false)).length = (wY th false).length + 2 := by simp [blkW]
  have hl : (wY (.swh x th) false).length = 1 + (eW x).length + (blkW (wY th false)).length := by simp [wY]; omega
  obtain ⟨g1, g2⟩ := hat
  obtain ⟨g3, g4⟩ := At.app g2
  have hzz : zy (.swh x th) = zy th + 1 := rfl
  obtain ⟨k1, k2, k3⟩ := hk
  obtain ⟨m, rfl⟩ : ∃ m, n = m + 1 := ⟨n - 1, by omega⟩
  obtain ⟨t1, e1, r⟩ := exprB hK h.1 h.2.1 (d := d) (s := Sy.adv s) (n := m) k1 hd (by omega) g3 (by
    show Fol 0 (E.W[s.i + 1 + (eW x).length]?.getD []); rw [at_cons g4]; exact fol0 (by decide))
  have hi : t1.i = s.i + 1 + (eW x).length := r.i
  have hg : Gr s t1 (fl s.ex.length x) := r.g.adv
  have hlx := hg.len
  rw [fl_len] at hlx
  obtain ⟨t2, e2, r2⟩ := blockB hL (d := d + 1) (s := t1) (n := m) k3 k2 (by rw [hg.st]; omega) (by omega) (by rw [hi]; exact g4)
  have rg := r2.g
  rw [hlx, hg.st] at rg
  rw [hg.st] at e2
  have hst := rg.len.2
  rw [fy_len, hg.st] at hst
  obtain ⟨t, f1, f2, f3⟩ := add_of (E := E) (fr := hr E s) (x := { k := 6, a := rt s.ex.length x, th := rys s.st.length th }) (s := t2) (by omega)
  refine ⟨t, ?_, ⟨by rw [f2, r2.i, hi, hl]; omega, ?_⟩⟩
  · rw [stmt_eq]
    unfold sStmt
    have hw : Sy.wd E s = wWhile := g1
    rw [hw, if_neg (by decide), if_neg (by decide), if_pos rfl, e1]
    simp only [bind_ok]
    rw [e2]
    simp only [bind_ok]
    exact f1.trans (congrArg (fun z => Rs.ok z t) (ry_eq (by rw [hst, hzz]; omega)))
  · have := (hg.gy.trans rg).trans f3
    simpa [fx, fy, bs] using this
end
end Go.Proofs.YtfnbgbeinmekgaaGreatDoor.Pt
namespace Go.Proofs.YtfnbgbeinmekgaaGreatDoor.Pt
open Go Sy Nu
set_option linter.unusedVariables false
section
variable {E : Env}
theorem isN_eq {y : Y} (h : isN y = true) : y = .nil := by cases y <;> first | rfl | cases h
theorem isEI_eq {y : Y} (h : isEI y = true) : ∃ a b c, y = .cons (.sif a b c) .nil := by
  cases y with
  | cons s l =>
    cases s with
    | sif a b c =>
      cases l with
      | nil => exact ⟨a, b, c, rfl⟩
      | _ => simp [isEI] at h
    | _ => simp [isEI] at h
  | _ => simp [isEI] at h
theorem b_sif (hK : KE E) {x : X} {th el : Y} (h : wfY (.sif x th el)) (hT : LY E th) (hE : LY E el) (hH : HB E el) : BY E (.sif x th el) := by
  intro fr d s n hk hd hz hn hat hf
  have hbl : (blkW (wY th false)).length = (wY th false).length + 2 := by simp [blkW]
  have hzz : zy (.sif x th el) = zy th + zy el + 1 := rfl
  obtain ⟨k1, k2, k3, k4⟩ := hk
  have hl : (wB x th el).length = (eW x).length + ((blkW (wY th false)).length + (if isN el then [] else wElse :: if isEI el then wY el true else blkW (wY el false)).length) := by unfold wB; simp
  obtain ⟨g3, g4⟩ := At.app hat
  obtain ⟨g5, g6⟩ := At.app g4
  obtain ⟨m, rfl⟩ : ∃ m, n = m + 1 := ⟨n - 1, by omega⟩
  obtain ⟨t1, e1, r⟩ := exprB hK h.1 h.2.1 (d := d) (s := s) (n := m) k1 hd (by omega) g3 (by rw [at_cons g5]; exact fol0 (by decide))
  have hg := r.g
  have hlx := hg.len
  rw [fl_len] at hlx
  obtain ⟨t2, e2, r2⟩ := blockB hT (d := d + 1) (s := t1) (n := m) k3 k2 (by rw [hg.st]; omega) (by omega) (by rw [r.i]; exact g5)
  have rg := r2.g
  rw [hlx, hg.st] at rg
  rw [hg.st] at e2
  have hl2 := rg.len
  rw [fx_len, fy_len, hlx, hg.st] at hl2
  have hi2 : t2.i = s.i + (eW x).length + (blkW (wY th false)).length := by rw [r2.i, r.i]
  rw [← hi2] at g6
  -- the part behind "else" was parsed
  have fin : ∀ (t3 : PS) (k : Nat), t3.i = t2.i + k → Gy t2 t3 (fx t2.ex.length el) (fy t2.ex.length t2.st.length el) → (wB x th el).length = (eW x).length + ((blkW (wY th false)).length + k) →
      ∃ t, add E fr { k := 5, a := rt s.ex.length x, th := rys s.st.length th, el := rys t2.st.length el } t3 = .ok (ry s.st.length (.sif x th el)) t ∧ Ry s t (wB x th el).length (.sif x th el) := by
    intro t3 k hi3 hg3 hlen
    have hl3 := hg3.len.2
    rw [fy_len, hl2.2] at hl3
    rw [hl2.1, hl2.2] at hg3
    obtain ⟨t, f1, f2, f3⟩ := add_of (E := E) (fr := fr) (x := { k := 5, a := rt s.ex.length x, th := rys s.st.length th, el := rys t2.st.length el }) (s := t3) (by omega)
    refine ⟨t, f1.trans (congrArg (fun z => Rs.ok z t) (ry_eq (by omega))), ⟨by rw [f2, hi3, hi2, hlen]; omega, ?_⟩⟩
    have := ((hg.gy.trans rg).trans hg3).trans f3
    rw [hl2.2] at this
    simpa [fx, fy, bs] using this
  have head : (lv E (m + 1)).branch fr d s = (if Sy.wd E t2 = wElse then
      if Sy.wd E (Sy.adv t2) = wIf then (deep E (d + 1) (Sy.adv t2)).bind fun _ s3 => ((lv E m).branch (hr E (Sy.adv t2)) (d + 1) (Sy.adv s3)).bind fun z s4 => add E fr { k := 5, a := rt s.ex.length x, th := rys s.st.length th, el := [z] } s4
      else (block E (lv E m) (d + 1) (Sy.adv t2)).bind fun el s3 => add E fr { k := 5, a := rt s.ex.length x, th := rys s.st.length th, el := el } s3
    else add E fr { k := 5, a := rt s.ex.length x, th := rys s.st.length th } t2) := by
    show sBranch E (lv E m) fr d s = _
    unfold sBranch
    rw [e1]
    simp only [bind_ok]
    rw [e2]
    simp only [bind_ok]
  by_cases hn0 : isN el = true
  · have he := isN_eq hn0
    subst he
    have hl : (wB x th .nil).length = (eW x).length + ((blkW (wY th false)).length + 0) := hl
    obtain ⟨t, f1, f2⟩ := fin t2 0 rfl (Gy.refl t2) hl
    refine ⟨t, ?_, f2⟩
    rw [head, if_neg (show ¬ Sy.wd E t2 = wElse by
      show ¬ E.W[t2.i]?.getD [] = _
      rw [hi2, show s.i + (eW x).length + (blkW (wY th false)).length = s.i + (wB x th .nil).length by rw [hl]; omega]; exact hf)]
    exact f1
  · rw [if_neg hn0] at hl g6
    obtain ⟨g7, g8⟩ := g6
    have hw2 : Sy.wd E t2 = wElse := g7
    by_cases hi : isEI el = true
    · rw [if_pos hi] at hl g8
      obtain ⟨a, b, c, rfl⟩ := isEI_eq hi
      have hwt : wY (.cons (.sif a b c) .nil) true = wIf :: wB a b c := rfl
      rw [hwt] at hl g8
      obtain ⟨g9, g10⟩ := g8
      have hw3 : Sy.wd E (Sy.adv t2) = wIf := g9
      have hzc : zy (.cons (.sif a b c) .nil) = zy (.sif a b c) := rfl
      have hH : BY E (.sif a b c) := hH
      simp only [List.length_cons] at hl
      obtain ⟨t3, f1, f2⟩ := hH (hr E (Sy.adv t2)) (d + 1) (Sy.adv (Sy.adv t2)) m k4.1 k2 (by show t2.st.length + _ ≤ _; omega) (by omega) g10 (by
        show E.W[t2.i + 1 + 1 + (wB a b c).length]?.getD [] ≠ _
        rw [hi2, show s.i + (eW x).length + (blkW (wY th false)).length + 1 + 1 + (wB a b c).length = s.i + (wB x th (.cons (.sif a b c) .nil)).length by rw [hl]; omega]; exact hf)
      obtain ⟨t, q1, q2⟩ := fin t3 ((wB a b c).length + 1 + 1) (by rw [f2.i]; show t2.i + 1 + 1 + _ = _; omega) (by have := f2.g.adv.adv; simpa [fx, fy, Sy.adv] using this) (by rw [hl])
      refine ⟨t, ?_, q2⟩
      rw [head, if_pos hw2, if_pos hw3]
      unfold Sy.deep
      rw [if_neg (by omega)]
      simp only [bind_ok]
      rw [f1]
      simp only [bind_ok]
      exact q1
    · rw [if_neg hi] at hl g8
      have hw3 : ¬ Sy.wd E (Sy.adv t2) = wIf := by rw [show Sy.wd E (Sy.adv t2) = wLcur from g8.1]; decide
      have hbl2 : (blkW (wY el false)).length = (wY el false).length + 2 := by simp [blkW]
      simp only [List.length_cons] at hl
      obtain ⟨t3, f1, f2⟩ := blockB hE (d := d + 1) (s := Sy.adv t2) (n := m) k4 k2 (by show t2.st.length + _ ≤ _; omega) (by omega) g8
      obtain ⟨t, q1, q2⟩ := fin t3 ((blkW (wY el false)).length + 1) (by rw [f2.i]; show t2.i + 1 + _ = _; omega) f2.g.adv (by rw [hl])
      refine ⟨t, ?_, q2⟩
      rw [head, if_pos hw2, if_neg hw3, f1]
      simp only [bind_ok]
      exact q1
theorem p_sif {x : X} {th el : Y} (hB : BY E (.sif x th el)) : PY E (.sif x th el) := by
  intro d s n hk hd hz hn hat hf
  have hw : wY (.sif x th el) false = wIf :: wB x th el := rfl
  rw [hw] at hn hat hf ⊢
  simp only [List.length_cons] at hn hf ⊢
  obtain ⟨g1, g2⟩ := hat
  obtain ⟨m, rfl⟩ : ∃ m, n = m + 1 := ⟨n - 1, by omega⟩
  obtain ⟨t, e, r⟩ := hB (hr E s) d (Sy.adv s) m hk hd hz (by omega) g2 (by
    show E.W[s.i + 1 + (wB x th el).length]?.getD [] ≠ _
    rw [show s.i + 1 + (wB x th el).length = s.i + ((wB x th el).length + 1) by omega]; exact hf)
  refine ⟨t, ?_, ⟨by rw [r.i]; show s.i + 1 + _ = _; omega, r.g.adv⟩⟩
  rw [stmt_eq]
  unfold sStmt
  rw [show Sy.wd E s = wIf from g1, if_neg (by decide), if_pos rfl]
  exact e
theorem mainY (hK : KE E) : ∀ y : Y, wfY y → (isY y = true → PY E y) ∧ BY E y ∧ (isY y = false → LY E y) ∧ HB E y := by
  intro y
  have lift : ∀ {y : Y}, isY y = true → BY E y → HB E y → PY E y → (isY y = true → PY E y) ∧ BY E y ∧ (isY y = false → LY E y) ∧ HB E y := fun h b c p => ⟨fun _ => p, b, (fun e => by rw [h] at e; cases e), c⟩
  induction y with
  | svar w x => intro h; exact lift rfl trivial trivial (p_svar hK h)
  | sarr w n => intro h; exact lift rfl trivial trivial (p_sarr hK h)
  | sset w x => intro h; exact lift rfl trivial trivial (p_sset hK h)
  | sput w x y => intro h; exact lift rfl trivial trivial (p_sput hK h)
  | sif x th el iht ihe =>
    intro h
    obtain ⟨_, _, t3, _⟩ := iht h.2.2.2.1
    obtain ⟨_, _, u3, u4⟩ := ihe h.2.2.2.2.2
    have hB := b_sif hK h (t3 h.2.2.1) (u3 h.2.2.2.2.1) u4
    exact lift rfl hB trivial (p_sif hB)
  | swh x th iht => intro h; exact lift rfl trivial trivial (p_swh hK h ((iht h.2.2.2).2.2.1 h.2.2.1))
  | brk => intro h; exact lift rfl trivial trivial p_brk
  | cnt => intro h; exact lift rfl trivial trivial p_cnt
  | ret0 => intro h; exact lift rfl trivial trivial p_ret0
  | ret x => intro h; exact lift rfl trivial trivial (p_ret hK h)
  | prn x => intro h; exact lift rfl trivial trivial (p_prn hK h)
  | scl x => intro h; exact lift rfl trivial trivial (p_scl hK h)
  | nil => intro _; exact ⟨fun h => (by cases h), trivial, fun _ => l_nil, trivial⟩
  | cons s l ihs ihl =>
    intro h
    obtain ⟨s1, s2, _, _⟩ := ihs h.2.2.1
    obtain ⟨_, _, l3, _⟩ := ihl h.2.2.2
    exact ⟨fun h => (by cases h), trivial, fun _ => l_cons h.1 h.2.2.1 h.2.1 h.2.2.2 (s1 h.1) (l3 h.2.1), s2⟩
end
end Go.Proofs.YtfnbgbeinmekgaaGreatDoor.Pt
namespace Go.Proofs.YtfnbgbeinmekgaaGreatDoor.Pt
open Go Sy Nu
set_option linter.unusedVariables false
section
variable {E : Env}
theorem prmsB (hK : KE E) : ∀ (ps acc : List (List Int)) (s : PS) (n : Nat), (∀ p ∈ ps, NmW p) → ps.length < n → At E s.i ((if acc = [] ∨ ps = [] then [] else [wComma]) ++ (jnW ps ++ [wRpar])) →
    prms E n acc s = .ok (acc ++ ps) { s with i := s.i + ((if acc = [] ∨ ps = [] then [] else [wComma]) ++ (jnW ps ++ [wRpar])).length } := by
  intro ps
  induction ps with
  | nil =>
    intro acc s n hp hn hat
    obtain ⟨m, rfl⟩ : ∃ m, n = m + 1 := ⟨n - 1, by simp at hn; omega⟩
    rw [if_pos (.inr rfl)] at hat ⊢
    unfold prms
    rw [if_pos (show Sy.wd E s = wRpar from hat.1)]
    simp [jnW, Sy.adv]
  | cons w r ih =>
    intro acc s n hp hn hat
    obtain ⟨m, rfl⟩ : ∃ m, n = m + 1 := ⟨n - 1, by simp at hn; omega⟩
    have hw : NmW w := hp w (by simp)
    have hj : jnW (w :: r) ++ [wRpar] = w :: ((if r = [] then [] else [wComma]) ++ (jnW r ++ [wRpar])) := by
      cases r <;> simp [jnW]
    rw [hj] at hat ⊢
    obtain ⟨s1, q1, q2, q3⟩ : ∃ s1 : PS, (if acc = [] then Rs.ok () s else want E wComma s) = .ok () s1 ∧ s1 = { s with i := s.i + (if acc = [] then 0 else 1) } ∧ At E s1.i (w :: ((if r = [] then [] else [wComma]) ++ (jnW r ++ [wRpar]))) ∧ Sy.wd E s ≠ wRpar := by
      by_cases ha : acc = []
      · rw [if_pos ha, if_pos ha]
        rw [if_pos (.inl ha)] at hat
        exact ⟨s, rfl, rfl, hat, by rw [show Sy.wd E s = w from hat.1]; exact nm_ne hw (by decide)⟩
      · rw [if_neg ha, if_neg ha]
        rw [if_neg (by simp [ha])] at hat
        exact ⟨Sy.adv s, want_of hat.1, rfl, hat.2, by rw [show Sy.wd E s = wComma from hat.1]; decide⟩
    obtain ⟨⟨g1, g2⟩, g3⟩ := q3
    have hne : acc ++ [w] ≠ [] := by simp
    have hnx : Sy.wd E (Sy.adv s1) = wComma ∨ Sy.wd E (Sy.adv s1) = wRpar := by
      by_cases hr : r = []
      · rw [if_pos hr] at g2; subst hr; exact .inr g2.1
      · rw [if_neg hr] at g2; exact .inl g2.1
    have g2' : At E (Sy.adv s1).i ((if acc ++ [w] = [] ∨ r = [] then [] else [wComma]) ++ (jnW r ++ [wRpar])) := by
      by_cases hr : r = []
      · rw [if_pos (.inr hr)]; rw [if_pos hr] at g2; exact g2
      · rw [if_neg (by simp [hr])]; rw [if_neg hr] at g2; exact g2
    have hI := ih (acc ++ [w]) (Sy.adv s1) m (fun p h => hp p (by simp [h])) (by simp at hn; omega) g2'
    unfold prms
    rw [if_neg g3, q1]
    simp only [bind_ok]
    rw [knd_nm hK (show Sy.wd E s1 = w from g1) hw]
    simp only [bind_ok]
    rw [if_pos hnx, hI]
    subst q2
    have e1 : acc ++ [w] ++ r = acc ++ w :: r := by simp
    have e2 : s.i + (if acc = [] then 0 else 1) + 1 + ((if acc ++ [w] = [] ∨ r = [] then [] else [wComma]) ++ (jnW r ++ [wRpar])).length = s.i + ((if acc = [] ∨ w :: r = [] then [] else [wComma]) ++ w :: ((if r = [] then [] else [wComma]) ++ (jnW r ++ [wRpar]))).length := by
      by_cases hr : r = [] <;> by_cases ha : acc = [] <;> simp [hr, ha] <;> omega
    rw [e1, ← e2]
    rfl
theorem fctB (hK : KE E) {f : F} (h : wfF f) {s : PS} {n : Nat} (hf : s.fn.length < 32) (hz : s.st.length + zy f.bd ≤ 1000) (hn : 20 * (wF f).length + 30 ≤ n) (hat : At E s.i (wF f)) :
    ∃ t, fct E n s = .ok () t ∧ t.i = s.i + (wF f).length ∧ t.ex.map bx = s.ex.map bx ++ fx s.ex.length f.bd ∧ t.st.map bs = s.st.map bs ++ fy s.ex.length s.st.length f.bd ∧ t.fn.map bf = s.fn.map bf ++ [{ nm := f.nm, ps := f.ps, ty := f.ty, bd := rys s.st.length f.bd }] := by
  have hjl : ∀ ps : List (List Int), ps.length ≤ (jnW ps).length := by
    intro ps
    induction ps with
    | nil => simp
    | cons w r ih => cases r with
      | nil => simp [jnW]
      | cons v r => simp [jnW] at ih ⊢; omega
  have hlen : (wF f).length = 3 + ((jnW f.ps).length + 1 + ((if f.ty = 1 then [wInt] else []).length + (blkW (wY f.bd false)).length)) := by simp [wF]; omega
  have hbl : (blkW (wY f.bd false)).length = (wY f.bd false).length + 2 := by simp [blkW]
  have hps := hjl f.ps
  obtain ⟨g1, g2, g3, g4⟩ := hat
  have e4 : jnW f.ps ++ wRpar :: ((if f.ty = 1 then [wInt] else []) ++ blkW (wY f.bd false)) = (jnW f.ps ++ [wRpar]) ++ ((if f.ty = 1 then [wInt] else []) ++ blkW (wY f.bd false)) := by simp
  rw [e4] at g4
  obtain ⟨g5, g6⟩ := At.app g4
  obtain ⟨g7, g8⟩ := At.app g6
  let s3 : PS := Sy.adv (Sy.adv (Sy.adv s))
  have hp := prmsB hK f.ps [] s3 n h.ps (by omega) (by rw [if_pos (.inl rfl)]; exact g5)
  rw [if_pos (.inl rfl)] at hp
  let s4 : PS := { s3 with i := s3.i + ([] ++ (jnW f.ps ++ [wRpar])).length }
  let s5 : PS := { s3 with i := s.i + 3 + ((jnW f.ps).length + 1) + (if f.ty = 1 then [wInt] else []).length }
  have h45 : (if Sy.wd E s4 = wInt then Rs.ok (1 : Int) (Sy.adv s4) else .ok 4 s4) = .ok f.ty s5 := by
    have hi4 : s4.i = s.i + 1 + 1 + 1 + (jnW f.ps ++ [wRpar]).length := rfl
    have hw4 : Sy.wd E s4 = E.W[s.i + 1 + 1 + 1 + (jnW f.ps ++ [wRpar]).length]?.getD [] := rfl
    rcases h.ty with ht | ht
    · rw [if_pos ht] at g7
      rw [if_pos (show Sy.wd E s4 = wInt from g7.1), ht]
      have : Sy.adv s4 = s5 := by
        simp only [s4, s5, s3, Sy.adv, ht, if_true]
        congr 1
        rw [List.nil_append, List.length_append]; simp only [List.length_cons, List.length_nil]; try omega
      rw [this]
    · have hne : ¬ f.ty = 1 := by omega
      rw [if_neg hne] at g8
      rw [if_neg (show ¬ Sy.wd E s4 = wInt by rw [hw4, show s.i + 1 + 1 + 1 + (jnW f.ps ++ [wRpar]).length = s.i + 1 + 1 + 1 + (jnW f.ps ++ [wRpar]).length + ([] : List (List Int)).length from rfl, at_cons g8]; decide), ht]
      have : s4 = s5 := by
        simp only [s4, s5, s3, Sy.adv, if_neg hne]
        congr 1
        rw [List.nil_append, List.length_append]; simp only [List.length_cons, List.length_nil]; try omega
      rw [this]
  have hL := (mainY hK f.bd h.wf).2.2.1 h.is
  have hi5 : s5.i = s.i + 1 + 1 + 1 + (jnW f.ps ++ [wRpar]).length + (if f.ty = 1 then [wInt] else []).length := by
    show s.i + 3 + ((jnW f.ps).length + 1) + _ = _
    rw [List.length_append]; simp only [List.length_cons, List.length_nil]; try omega
  obtain ⟨t, e5, r⟩ := blockB hL (d := 1) (s := s5) (n := n) h.ok (by decide) hz (by omega) (by rw [hi5]; exact g8)
  refine ⟨{ t with fn := t.fn ++ [{ nm := f.nm, f := hr E s, e := pe E t, ps := f.ps, ty := f.ty, bd := rys s.st.length f.bd }] }, ?_, ?_, r.g.ex, r.g.st, ?_⟩
  · unfold fct
    rw [if_neg (by omega)]
    simp only [bind_ok]
    rw [want_of g1]
    simp only [bind_ok]
    rw [knd_nm hK (show Sy.wd E (Sy.adv s) = f.nm from g2) h.nm]
    simp only [bind_ok]
    rw [want_of (s := Sy.adv (Sy.adv s)) g3]
    simp only [bind_ok]
    have hp : prms E n [] (Sy.adv (Sy.adv (Sy.adv s))) = .ok f.ps s4 := hp
    rw [hp]
    simp only [bind_ok]
    rw [h45]
    simp only [bind_ok]
    rw [e5]
    rfl
  · show t.i = _
    rw [r.i, hi5, hlen]; simp; omega
  · show List.map bf (t.fn ++ _) = _
    rw [List.map_append, show t.fn = s.fn from r.g.fn]
    rfl
end
end Go.Proofs.YtfnbgbeinmekgaaGreatDoor.Pt
namespace Go.Proofs.YtfnbgbeinmekgaaGreatDoor.Pt
open Go Sy Nu
set_option linter.unusedVariables false
def pz (fs : List F) : Nat := (fs.map fun f => zy f.bd).sum
section
variable {E : Env}
theorem fctsB (hK : KE E) {m : Nat} : ∀ (fs : List F) (n : Nat) (s : PS), (∀ f ∈ fs, wfF f) → s.fn.length + fs.length ≤ 32 → s.st.length + pz fs ≤ 1000 → fs.length < n → 20 * (wP fs).length + 30 ≤ m → At E s.i (wP fs) → (∀ u : PS, u.i = s.i + (wP fs).length → Sy.kd E u = 0) → (s.fn ≠ [] ∨ fs ≠ []) →
    ∃ t, fcts E m n s = .ok () t ∧ t.ex.map bx = s.ex.map bx ++ pX s.ex.length fs ∧ t.st.map bs = s.st.map bs ++ pS s.ex.length s.st.length fs ∧ t.fn.map bf = s.fn.map bf ++ pF s.st.length fs := by
  intro fs
  induction fs with
  | nil =>
    intro n s hw hf hz hn hm hat hk hne
    obtain ⟨k, rfl⟩ : ∃ k, n = k + 1 := ⟨n - 1, by simp at hn; omega⟩
    refine ⟨s, ?_, by simp [pX], by simp [pS], by simp [pF]⟩
    unfold fcts
    rw [if_pos ⟨hne.elim id (fun h => absurd rfl h), hk s rfl⟩]
  | cons f r ih =>
    intro n s hw hf hz hn hm hat hk hne
    obtain ⟨k, rfl⟩ : ∃ k, n = k + 1 := ⟨n - 1, by simp at hn; omega⟩
    have hP : wP (f :: r) = wF f ++ wP r := rfl
    have hpz : pz (f :: r) = zy f.bd + pz r := by simp [pz]
    rw [hP] at hat hm hk
    rw [List.length_append] at hm hk
    simp only [List.length_cons] at hf hn
    obtain ⟨g1, g2⟩ := At.app hat
    have hwd : Sy.wd E s = wFunc := g1.1
    have hkd : Sy.kd E s = 3 := kd_of hK hwd rfl (by decide)
    obtain ⟨t, e1, e2, e3, e4, e5⟩ := fctB hK (hw f (by simp)) (s := s) (n := m) (by omega) (by omega) (by omega) g1
    have l1 := congrArg List.length e3
    have l2 := congrArg List.length e4
    have l3 := congrArg List.length e5
    simp only [List.length_map, List.length_append, fx_len, fy_len, List.length_singleton] at l1 l2 l3
    obtain ⟨u, f1, f2, f3, f4⟩ := ih k t (fun g hg => hw g (by simp [hg])) (by omega) (by omega) (by omega) (by omega) (by rw [e2]; exact g2) (fun v hv => hk v (by rw [hv, e2]; omega)) (.inl (fun e => by rw [e] at l3; simp at l3))
    rw [l1] at f2 f3
    rw [l2] at f3 f4
    refine ⟨u, ?_, by rw [f2, e3, List.append_assoc]; rfl, by rw [f3, e4, List.append_assoc]; rfl, by rw [f4, e5, List.append_assoc]; rfl⟩
    unfold fcts
    rw [if_neg (fun h => by rw [hkd] at h; exact absurd h.2 (by decide)), e1]
    exact f1
end
theorem at_of {E : Env} : ∀ (ws : List (List Int)) (i : Nat), (∀ j w, ws[j]? = some w → E.W[i + j]? = some w) → At E i ws := by
  intro ws
  induction ws with
  | nil => intro i h; trivial
  | cons w r ih =>
    intro i h
    refine ⟨by have := h 0 w rfl; rw [Nat.add_zero] at this; rw [this]; rfl, ih (i + 1) fun j v hv => ?_⟩
    have := h (j + 1) v hv
    rwa [show i + (j + 1) = i + 1 + j by omega] at this
theorem ke_of {L : List Int} (ht : Txt L) : KE (envOf L) := by
  intro s hs
  by_cases h0 : Sy.kd (envOf L) s = 0
  · exact absurd (ht.last (ht.k0 h0)).2 hs
  · rw [wd_self ht rfl h0]
/-- A text whose tokens are a program's words is parsed as it. -/
theorem prsB {L : List Int} {fs : List F} (hL : Lx L (wP fs)) (hlen : L.length ≤ 20000) (hw : ∀ f ∈ fs, wfF f) (h32 : fs.length ≤ 32) (hne : fs ≠ []) (hz : pz fs ≤ 1000) :
    ∃ S, prs L = .ok () S ∧ S.ex.map bx = pX 0 fs ∧ S.st.map bs = pS 0 0 fs ∧ S.fn.map bf = pF 0 fs := by
  obtain ⟨ts, h1, h2⟩ := hL
  have hA := Tk.all_of hlen (Nat.lt_succ_self _) h1
  have ht : Txt L := ⟨hlen, by rw [hA]; exact h1⟩
  have hW : (envOf L).W = wP fs ++ [[]] := by
    show (Tk.allT L).1.map _ = _
    rw [hA]; exact h2
  have hlW : (envOf L).W.length ≤ L.length + 1 := by
    have := env_T L
    have e : (envOf L).W.length = (envOf L).T.length := by simp [envOf]
    omega
  rw [hW, List.length_append] at hlW
  simp only [List.length_singleton] at hlW
  have hfl : ∀ fs : List F, fs.length ≤ (wP fs).length := by
    intro fs
    induction fs with
    | nil => simp
    | cons f r ih =>
      have : wP (f :: r) = wF f ++ wP r := rfl
      rw [this, List.length_append]
      have : 1 ≤ (wF f).length := by simp [wF]
      simp only [List.length_cons]; omega
  have hF := hfl fs
  obtain ⟨S, e1, e2, e3, e4⟩ := fctsB (ke_of ht) (m := fuel L) fs (fuel L) ⟨0, [], [], []⟩ hw (by simpa using h32) (by simpa using hz) (by unfold fuel; omega) (by unfold fuel; omega)
    (at_of _ _ fun j w hj => by
      rw [hW]; show (wP fs ++ [[]])[0 + j]? = _
      rw [Nat.zero_add, List.getElem?_append_left (List.getElem?_eq_some_iff.1 hj).1]; exact hj)
    (fun u hu => by
      have hu : u.i = 0 + (wP fs).length := hu
      refine (ht.last ?_).1
      have e : (envOf L).T.length = (envOf L).W.length := by simp [envOf]
      rw [e, hW, List.length_append, hu]; simp)
    (.inr hne)
  refine ⟨S, ?_, by simpa using e2, by simpa using e3, by simpa using e4⟩
  unfold prs
  rw [if_neg (by rw [hA]; exact fun h => h rfl)]
  exact e1
/-- A program's text, parsed, is the program, but for spans. -/
theorem back {fs : List F} (hw : ∀ f ∈ fs, wfF f) (hlen : (tP fs).length ≤ 20000) (h32 : fs.length ≤ 32) (hne : fs ≠ []) (hz : pz fs ≤ 1000) :
    ∃ S, prs (tP fs) = .ok () S ∧ S.ex.map bx = pX 0 fs ∧ S.st.map bs = pS 0 0 fs ∧ S.fn.map bf = pF 0 fs :=
  prsB (lexP fs hw) hlen hw h32 hne hz
end Go.Proofs.YtfnbgbeinmekgaaGreatDoor.Pt
namespace Go.Proofs.YtfnbgbeinmekgaaGreatDoor.Pt
open Go Sy Nu
set_option linter.unusedVariables false
/-- A tree lies there. -/
def Sg (ex : List Ex) (lo : Nat) (xs : List Ex) : Prop := ∃ r, (ex.map bx).drop lo = xs ++ r
theorem Sg.left {ex : List Ex} {lo : Nat} {a b : List Ex} (h : Sg ex lo (a ++ b)) : Sg ex lo a := by
  obtain ⟨r, h⟩ := h
  exact ⟨b ++ r, by rw [h, List.append_assoc]⟩
theorem Sg.right {ex : List Ex} {lo : Nat} {a b : List Ex} (h : Sg ex lo (a ++ b)) {n : Nat} (hn : a.length = n) : Sg ex (lo + n) b := by
  obtain ⟨r, h⟩ := h
  refine ⟨r, ?_⟩
  rw [← List.drop_drop, h, List.append_assoc, ← hn, List.drop_left]
theorem Sg.at {ex : List Ex} {lo : Nat} {y : Ex} {r : List Ex} (h : Sg ex lo (y :: r)) : ∃ z, ex[lo]? = some z ∧ bx z = y := by
  obtain ⟨r', h⟩ := h
  have : ((ex.map bx).drop lo)[0]? = some y := by rw [h]; rfl
  rw [List.getElem?_drop, Nat.add_zero, List.getElem?_map] at this
  obtain ⟨z, hz, e⟩ := Option.map_eq_some_iff.1 this
  exact ⟨z, hz, e⟩
/-- A place that is the root of a tree. -/
def Rt (ex : List Ex) (i : Nat) : Prop := ∃ lo x, isX x = true ∧ wf x ∧ Sg ex lo (fl lo x) ∧ (i : Int) = rt lo x
theorem rt_sub {ex : List Ex} : ∀ (x : X) (lo i : Nat), wf x → Sg ex lo (fl lo x) → lo ≤ i → i < lo + sz x → Rt ex i := by
  intro x
  induction x with
  | idx w a ih =>
    intro lo i h hs h1 h2
    by_cases e : i + 1 = lo + sz (.idx w a)
    · exact ⟨lo, _, rfl, h, hs, rt_eq e⟩
    · exact ih lo i h.2.2 hs.left h1 (by simp only [sz] at h2 e; omega)
  | call w a ih =>
    intro lo i h hs h1 h2
    by_cases e : i + 1 = lo + sz (.call w a)
    · exact ⟨lo, _, rfl, h, hs, rt_eq e⟩
    · exact ih lo i h.2.2 hs.left h1 (by simp only [sz] at h2 e; omega)
  | un w a ih =>
    intro lo i h hs h1 h2
    by_cases e : i + 1 = lo + sz (.un w a)
    · exact ⟨lo, _, rfl, h, hs, rt_eq e⟩
    · exact ih lo i h.2.2 hs.left h1 (by simp only [sz] at h2 e; omega)
  | pr w a b iha ihb =>
    intro lo i h hs h1 h2
    by_cases e : i + 1 = lo + sz (.pr w a b)
    · exact ⟨lo, _, rfl, h, hs, rt_eq e⟩
    · by_cases hi : i < lo + sz a
      · exact iha lo i h.2.2.2.1 hs.left h1 hi
      · exact ihb (lo + sz a) i h.2.2.2.2 (hs.right (fl_len a lo)).left (by omega) (by simp only [sz] at h2 e; omega)
  | cons a b iha ihb =>
    intro lo i h hs h1 h2
    by_cases hi : i < lo + sz a
    · exact iha lo i h.2.2.1 hs.left h1 hi
    · exact ihb (lo + sz a) i h.2.2.2 (hs.right (fl_len a lo)) (by omega) (by simp only [sz] at h2; omega)
  | nil => intro lo i h hs h1 h2; simp only [sz] at h2; omega
  | _ => intro lo i h hs h1 h2; exact ⟨lo, _, rfl, h, hs, rt_eq (by simp only [sz] at h2 ⊢; omega)⟩
theorem ry_sub {ex : List Ex} : ∀ (y : Y) (lo i : Nat), wfY y → Sg ex lo (fx lo y) → lo ≤ i → i < lo + zx y → Rt ex i := by
  intro y
  induction y with
  | svar w x => intro lo i h hs h1 h2; exact rt_sub x lo i h.2.2 hs h1 h2
  | sset w x => intro lo i h hs h1 h2; exact rt_sub x lo i h.2.2 hs h1 h2
  | sput w x y =>
    intro lo i h hs h1 h2
    by_cases hi : i < lo + sz x
    · exact rt_sub x lo i h.2.2.1 hs.left h1 hi
    · exact rt_sub y (lo + sz x) i h.2.2.2.2 (hs.right (fl_len x lo)) (by omega) (by simp only [zx] at h2; omega)
  | sif x a b iha ihb =>
    intro lo i h hs h1 h2
    have hr := hs.right (fl_len x lo)
    by_cases hi : i < lo + sz x
    · exact rt_sub x lo i h.2.1 hs.left h1 hi
    · by_cases hj : i < lo + sz x + zx a
      · exact iha (lo + sz x) i h.2.2.2.1 hr.left (by omega) hj
      · exact ihb (lo + sz x + zx a) i h.2.2.2.2.2 (hr.right (fx_len a (lo + sz x))) (by omega) (by simp only [zx] at h2; omega)
  | swh x a iha =>
    intro lo i h hs h1 h2
    by_cases hi : i < lo + sz x
    · exact rt_sub x lo i h.2.1 hs.left h1 hi
    · exact iha (lo + sz x) i h.2.2.2 (hs.right (fl_len x lo)) (by omega) (by simp only [zx] at h2; omega)
  | ret x => intro lo i h hs h1 h2; exact rt_sub x lo i h.2 hs h1 h2
  | prn x => intro lo i h hs h1 h2; exact rt_sub x lo i h.2 hs h1 h2
  | scl x => intro lo i h hs h1 h2; exact rt_sub x lo i h.2 hs h1 h2
  | cons a b iha ihb =>
    intro lo i h hs h1 h2
    by_cases hi : i < lo + zx a
    · exact iha lo i h.2.2.1 hs.left h1 hi
    · exact ihb (lo + zx a) i h.2.2.2 (hs.right (fx_len a lo)) (by omega) (by simp only [zx] at h2; omega)
  | _ => intro lo i h hs h1 h2; simp only [zx] at h2; omega
def px (fs : List F) : Nat := (fs.map fun f => zx f.bd).sum
theorem pX_len : ∀ (fs : List F) (lo : Nat), (pX lo fs).length = px fs := by
  intro fs
  induction fs with
  | nil => intro lo; rfl
  | cons f r ih => intro lo; simp [pX, px, fx_len, ih]
theorem pS_len : ∀ (fs : List F) (lo ls : Nat), (pS lo ls fs).length = pz fs := by
  intro fs
  induction fs with
  | nil => intro lo ls; rfl
  | cons f r ih => intro lo ls; simp [pS, pz, fy_len, ih]
theorem rp_sub {ex : List Ex} : ∀ (fs : List F) (lo i : Nat), (∀ f ∈ fs, wfF f) → Sg ex lo (pX lo fs) → lo ≤ i → i < lo + px fs → Rt ex i := by
  intro fs
  induction fs with
  | nil => intro lo i h hs h1 h2; simp [px] at h2; omega
  | cons f r ih =>
    intro lo i h hs h1 h2
    have e : px (f :: r) = zx f.bd + px r := by simp [px]
    by_cases hi : i < lo + zx f.bd
    · exact ry_sub f.bd lo i (h f (by simp)).wf hs.left h1 hi
    · exact ih (lo + zx f.bd) i (fun g hg => h g (by simp [hg])) (hs.right (fx_len f.bd lo)) (by omega) (by omega)
/-- Each place of a program's expressions is the root of a tree. -/
theorem Is.rt {S : PS} {fs : List F} (h : Is S fs) {i : Nat} (hi : i < S.ex.length) : Rt S.ex i := by
  have hl : S.ex.length = px fs := by have := congrArg List.length h.ex; rw [List.length_map, pX_len] at this; exact this
  exact rp_sub fs 0 i h.wf ⟨[], by rw [List.drop_zero, List.append_nil]; exact h.ex⟩ (Nat.zero_le _) (by omega)
theorem Is.pz {S : PS} {fs : List F} (h : Is S fs) : pz fs = S.st.length := by
  have := congrArg List.length h.st
  rw [List.length_map, pS_len] at this
  exact this.symm
end Go.Proofs.YtfnbgbeinmekgaaGreatDoor.Pt
