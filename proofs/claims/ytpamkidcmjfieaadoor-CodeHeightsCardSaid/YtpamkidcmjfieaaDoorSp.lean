/- Ints as they are told in texts: plain laws. Texts parted at a byte, and joined: plain laws. -/
import Derived.Test.YtpamkidcmjfieaaDoorFz
import Derived.Lib.ItoaNum
import Derived.Lib.AtoiAll
namespace Go.Proofs.YtpamkidcmjfieaaDoor.Nu
open Go Fw
set_option linter.unusedVariables false
/-- The digits of a number. -/
def dcu (u : Nat) : List Int := (Lib.decDigits u).map fun b => (b.toNat : Int)
theorem dcu_eq (u : Nat) : dcu u = if u < 10 then [48 + (u : Int)] else dcu (u / 10) ++ [48 + ((u % 10 : Nat) : Int)] := by
  unfold dcu
  rw [Lib.decDigits]
  by_cases h : u < 10
  · rw [dif_pos h, if_pos h]
    have : (UInt8.ofNat (48 + u)).toNat = 48 + u := by simp [UInt8.toNat_ofNat']; omega
    simp only [List.map_cons, List.map_nil, this]
    congr 1
  · rw [dif_neg h, if_neg h, List.map_append]
    have : (UInt8.ofNat (48 + u % 10)).toNat = 48 + u % 10 := by simp [UInt8.toNat_ofNat']; omega
    simp only [List.map_cons, List.map_nil, this]
    congr 1
/-- An int as it is told. -/
def dc (n : Int) : List Int := if n < 0 then 45 :: dcu n.natAbs else dcu n.toNat
theorem dc_itoa (n : Int) : (Lib.itoa n).map (fun b => (b.toNat : Int)) = dc n := by
  unfold Lib.itoa dc
  split <;> rfl
theorem B_itoa (n : Int) : B ⟨(Lib.itoa n).toArray⟩ = dc n := by rw [← dc_itoa]; simp [B]
theorem itoa_of {s : ByteArray} {n : Int} (h : B s = dc n) : s.data.toList = Lib.itoa n := by
  rw [← dc_itoa, B] at h
  refine List.map_inj_right (f := fun b : UInt8 => (b.toNat : Int)) ?_ |>.1 h
  intro x y e
  exact UInt8.toNat_inj.1 (by omega)
theorem dcu_digit (u : Nat) : ∀ c ∈ dcu u, 48 ≤ c ∧ c ≤ 57 := by
  induction u using Nat.strongRecOn with
  | _ u ih =>
    intro c hc
    rw [dcu_eq] at hc
    split at hc
    · simp only [List.mem_singleton] at hc; omega
    · rw [List.mem_append] at hc
      rcases hc with hc | hc
      · exact ih _ (by omega) c hc
      · simp only [List.mem_singleton] at hc; omega
theorem dcu_ne (u : Nat) : dcu u ≠ [] := by
  rw [dcu_eq]; split <;> simp
/-- Digits read. -/
def vu : Int → List Int → Int
  | a, [] => a
  | a, c :: r => vu (a * 10 + (c - 48)) r
theorem vu_append (X Y : List Int) : ∀ a, vu a (X ++ Y) = vu (vu a X) Y := by
  induction X with
  | nil => intro a; rfl
  | cons c r ih => intro a; exact ih _
theorem vu_dcu (u : Nat) : vu 0 (dcu u) = u := by
  induction u using Nat.strongRecOn with
  | _ u ih =>
    rw [dcu_eq]
    split
    · simp [vu]; omega
    · rw [vu_append, ih _ (by omega)]
      simp only [vu]; omega
theorem dcu_inj {u v : Nat} (h : dcu u = dcu v) : u = v := by
  have := vu_dcu u
  rw [h, vu_dcu] at this
  omega
theorem dc_neg {n : Int} (h : n < 0) : dc n = 45 :: dcu n.natAbs := by rw [dc, if_pos h]
theorem dc_pos {n : Int} (h : 0 ≤ n) : dc n = dcu n.toNat := by rw [dc, if_neg (by omega)]
theorem dc_inj {m n : Int} (h : dc m = dc n) : m = n := by
  have key : ∀ u v : Nat, dcu u ≠ 45 :: dcu v := by
    intro u v e
    have := dcu_digit u 45 (by rw [e]; exact List.mem_cons_self ..)
    omega
  by_cases hm : m < 0 <;> by_cases hn : n < 0
  · rw [dc_neg hm, dc_neg hn] at h
    have := dcu_inj (List.cons.inj h).2
    omega
  · rw [dc_neg hm, dc_pos (by omega)] at h
    exact (key _ _ h.symm).elim
  · rw [dc_pos (by omega), dc_neg hn] at h
    exact (key _ _ h).elim
  · rw [dc_pos (by omega), dc_pos (by omega)] at h
    have := dcu_inj h
    omega
theorem dc_chars (n : Int) : ∀ c ∈ dc n, c = 45 ∨ (48 ≤ c ∧ c ≤ 57) := by
  intro c hc
  rw [dc] at hc
  split at hc
  · rcases List.mem_cons.1 hc with rfl | hc
    · exact .inl rfl
    · exact .inr (dcu_digit _ c hc)
  · exact .inr (dcu_digit _ c hc)
theorem dc_ne (n : Int) : dc n ≠ [] := by
  rw [dc]; split
  · simp
  · exact dcu_ne _
theorem dcu_len : ∀ (k u : Nat), u < 10 ^ (k + 1) → (dcu u).length ≤ k + 1 := by
  intro k
  induction k with
  | zero => intro u h; rw [dcu_eq, if_pos (by simpa using h)]; simp
  | succ k ih =>
    intro u h
    rw [dcu_eq]
    split
    · simp
    · have := ih (u / 10) (by rw [Nat.pow_succ] at h; omega)
      simp; omega
/-- Is it one of 64 bits? -/
def I64 (n : Int) : Prop := -9223372036854775808 ≤ n ∧ n ≤ 9223372036854775807
theorem dc_len {n : Int} (h : I64 n) : (dc n).length ≤ 20 := by
  obtain ⟨h1, h2⟩ := h
  by_cases h0 : n < 0
  · rw [dc_neg h0, List.length_cons]
    have := dcu_len 18 n.natAbs (by have : (10 : Nat) ^ (18 + 1) = 10000000000000000000 := by decide
                                    omega)
    omega
  · rw [dc_pos (by omega)]
    have := dcu_len 18 n.toNat (by have : (10 : Nat) ^ (18 + 1) = 10000000000000000000 := by decide
                                   omega)
    omega
theorem dc_len1 (n : Int) : 1 ≤ (dc n).length := by
  have := dc_ne n
  cases h : dc n with
  | nil => exact (this h).elim
  | cons => simp

/-! ### what Go's library reads -/
theorem vu_ge : ∀ (l : List Int) (a : Int), 0 ≤ a → (∀ c ∈ l, 48 ≤ c ∧ c ≤ 57) → a ≤ vu a l := by
  intro l
  induction l with
  | nil => intro a _ _; exact Int.le_refl _
  | cons c r ih =>
    intro a ha h
    have hc := h c (List.mem_cons_self ..)
    have := ih (a * 10 + (c - 48)) (by omega) (fun x hx => h x (List.mem_cons_of_mem _ hx))
    show a ≤ vu (a * 10 + (c - 48)) r
    omega
theorem pu_ok : ∀ (l : List UInt8) (acc : Nat), (∀ c ∈ l, 48 ≤ c.toNat ∧ c.toNat ≤ 57) → vu acc (l.map fun b => (b.toNat : Int)) < 18446744073709551616 →
    Lib.parseUint10 acc l = .ok (vu acc (l.map fun b => (b.toNat : Int))).toNat := by
  intro l
  induction l with
  | nil => intro acc _ _; simp [Lib.parseUint10, vu]
  | cons c r ih =>
    intro acc h hv
    have hc := h c (List.mem_cons_self ..)
    have hr := fun x hx => h x (List.mem_cons_of_mem c hx)
    have hd : ∀ x ∈ r.map (fun b : UInt8 => (b.toNat : Int)), 48 ≤ x ∧ x ≤ 57 := by
      intro x hx
      obtain ⟨b, hb, rfl⟩ := List.mem_map.1 hx
      have := hr b hb
      omega
    have e : vu acc ((c :: r).map fun b => (b.toNat : Int)) = vu ((acc * 10 + (c.toNat - 48) : Nat) : Int) (r.map fun b => (b.toNat : Int)) := by
      show vu ((acc : Int) * 10 + ((c.toNat : Int) - 48)) _ = _
      congr 1
      omega
    rw [e] at hv ⊢
    have hge := vu_ge _ ((acc * 10 + (c.toNat - 48) : Nat) : Int) (by omega) hd
    rw [Lib.parseUint10, if_pos hc, if_neg (by omega), if_neg (by omega)]
    exact ih _ hr hv
theorem decDigits_digit (u : Nat) : ∀ c ∈ Lib.decDigits u, 48 ≤ c.toNat ∧ c.toNat ≤ 57 := by
  intro c hc
  have := dcu_digit u (c.toNat : Int) (List.mem_map.2 ⟨c, hc, rfl⟩)
  omega
theorem pm_ok {u : Nat} (h : u < 18446744073709551616) : Lib.parseMag (Lib.decDigits u) = .ok u := by
  have hne : Lib.decDigits u ≠ [] := fun e => dcu_ne u (by rw [dcu, e]; rfl)
  have hv : vu ((0 : Nat) : Int) ((Lib.decDigits u).map fun b => (b.toNat : Int)) = u := vu_dcu u
  rw [Lib.parseMag, if_neg hne, pu_ok _ _ (decDigits_digit u) (by rw [hv]; omega), hv, Int.toNat_natCast]
theorem atoi_itoa {n : Int} (h : I64 n) : Lib.atoiAll (Lib.itoa n) = .ok n := by
  obtain ⟨h1, h2⟩ := h
  by_cases h0 : n < 0
  · rw [Lib.itoa, if_pos h0]
    have e : (45 : UInt8).toNat = 45 := rfl
    simp only [Lib.atoiAll, e]
    rw [if_pos (by simp), pm_ok (by omega)]
    simp
    rw [if_neg (by omega)]
    congr 1; omega
  · rw [Lib.itoa, if_neg h0]
    cases hl : Lib.decDigits n.toNat with
    | nil => exact (dcu_ne n.toNat (by rw [dcu, hl]; rfl)).elim
    | cons c r =>
      have hc := decDigits_digit n.toNat c (by rw [hl]; exact List.mem_cons_self ..)
      simp only [Lib.atoiAll]
      rw [if_neg (by omega), ← hl, pm_ok (by omega)]
      have : ¬ c.toNat = 45 := by omega
      simp only [this, not_false_eq_true, true_and, false_and, if_false]
      rw [if_neg (by omega)]
      congr 1; omega
/-- The number that a text tells, as ints are told. -/
def num (L : List Int) : Option Int :=
  match Lib.atoiAll (L.map fun c => c.toNat.toUInt8) with
  | .ok n => if dc n = L then some n else none
  | _ => none
theorem num_dc {n : Int} (h : I64 n) : num (dc n) = some n := by
  have e : (dc n).map (fun c => c.toNat.toUInt8) = Lib.itoa n := by
    rw [← dc_itoa, List.map_map]
    have : ((fun c : Int => c.toNat.toUInt8) ∘ fun b : UInt8 => (b.toNat : Int)) = id := by funext b; simp
    rw [this, List.map_id]
  rw [num, e, atoi_itoa h]
  simp
theorem num_eq {L : List Int} {n : Int} (h : num L = some n) : L = dc n := by
  unfold num at h
  split at h
  · split at h
    · rename_i e; simp only [Option.some.injEq] at h; subst h; exact e.symm
    · cases h
  · cases h
end Go.Proofs.YtpamkidcmjfieaaDoor.Nu
namespace Go.Proofs.YtpamkidcmjfieaaDoor.Sp
open Go Fw
set_option linter.unusedVariables false
/-- The parts between the bytes c. -/
def spl (c : Int) : List Int → List (List Int)
  | [] => [[]]
  | x :: r => if x = c then [] :: spl c r else (match spl c r with | h :: t => (x :: h) :: t | [] => [[x]])
/-- Parts, with c between them. -/
def jnc (c : Int) : List (List Int) → List Int
  | [] => []
  | [w] => w
  | w :: v :: r => w ++ c :: jnc c (v :: r)
theorem spl_ne (c : Int) (L : List Int) : spl c L ≠ [] := by
  cases L with
  | nil => simp [spl]
  | cons x r =>
    rw [spl]
    split
    · simp
    · split <;> simp
theorem spl_at (c : Int) (R : List Int) : ∀ (W : List Int), (∀ x ∈ W, x ≠ c) → spl c (W ++ c :: R) = W :: spl c R := by
  intro W
  induction W with
  | nil => intro _; rw [List.nil_append, spl, if_pos rfl]
  | cons x r ih =>
    intro h
    rw [List.cons_append, spl, if_neg (h x (List.mem_cons_self ..)), ih fun y hy => h y (List.mem_cons_of_mem _ hy)]
theorem spl_no (c : Int) : ∀ (W : List Int), (∀ x ∈ W, x ≠ c) → spl c W = [W] := by
  intro W
  induction W with
  | nil => intro _; rfl
  | cons x r ih =>
    intro h
    rw [spl, if_neg (h x (List.mem_cons_self ..)), ih fun y hy => h y (List.mem_cons_of_mem _ hy)]
theorem jnc_cons (c : Int) (w : List Int) {r : List (List Int)} (h : r ≠ []) : jnc c (w :: r) = w ++ c :: jnc c r := by
  cases r with
  | nil => exact (h rfl).elim
  | cons v r => rfl
theorem spl_jnc (c : Int) : ∀ (ws : List (List Int)), ws ≠ [] → (∀ w ∈ ws, ∀ x ∈ w, x ≠ c) → spl c (jnc c ws) = ws := by
  intro ws
  induction ws with
  | nil => intro h; exact (h rfl).elim
  | cons w r ih =>
    intro _ h
    cases r with
    | nil => exact spl_no c w (h w (List.mem_cons_self ..))
    | cons v r =>
      rw [jnc_cons c w (by simp), spl_at c _ w (h w (List.mem_cons_self ..)), ih (by simp) fun u hu => h u (List.mem_cons_of_mem _ hu)]
theorem jnc_spl (c : Int) : ∀ L : List Int, jnc c (spl c L) = L := by
  intro L
  induction L with
  | nil => rfl
  | cons x r ih =>
    rw [spl]
    split
    · rename_i h; rw [jnc_cons c [] (spl_ne c r), ih, h, List.nil_append]
    · have := spl_ne c r
      cases hs : spl c r with
      | nil => exact (this hs).elim
      | cons w t =>
        rw [hs] at ih
        show jnc c ((x :: w) :: t) = x :: r
        cases t with
        | nil => simp only [jnc] at ih ⊢; rw [ih]
        | cons v t => rw [jnc_cons c _ (by simp)] at ih ⊢; rw [List.cons_append, ih]
theorem spl_mem (c : Int) : ∀ L : List Int, ∀ w ∈ spl c L, ∀ x ∈ w, x ≠ c := by
  intro L
  induction L with
  | nil => intro w hw x hx; simp [spl] at hw; subst hw; cases hx
  | cons y r ih =>
    intro w hw x hx
    rw [spl] at hw
    split at hw
    · rcases List.mem_cons.1 hw with rfl | hw
      · cases hx
      · exact ih w hw x hx
    · rename_i hy
      cases hs : spl c r with
      | nil => exact (spl_ne c r hs).elim
      | cons v t =>
        rw [hs] at hw ih
        rcases List.mem_cons.1 hw with rfl | hw
        · rcases List.mem_cons.1 hx with rfl | hx
          · exact hy
          · exact ih v (List.mem_cons_self ..) x hx
        · exact ih w (List.mem_cons_of_mem _ hw) x hx
theorem spl_sub (c : Int) : ∀ L : List Int, ∀ w ∈ spl c L, w.length ≤ L.length ∧ ∀ x ∈ w, x ∈ L := by
  intro L
  induction L with
  | nil => intro w hw; simp [spl] at hw; subst hw; simp
  | cons y r ih =>
    intro w hw
    rw [spl] at hw
    split at hw
    · rcases List.mem_cons.1 hw with rfl | hw
      · simp
      · obtain ⟨h1, h2⟩ := ih w hw
        exact ⟨by simp; omega, fun x hx => List.mem_cons_of_mem _ (h2 x hx)⟩
    · cases hs : spl c r with
      | nil => exact (spl_ne c r hs).elim
      | cons v t =>
        rw [hs] at hw ih
        rcases List.mem_cons.1 hw with rfl | hw
        · obtain ⟨h1, h2⟩ := ih v (List.mem_cons_self ..)
          refine ⟨by simp; omega, fun x hx => ?_⟩
          rcases List.mem_cons.1 hx with rfl | hx
          · exact List.mem_cons_self ..
          · exact List.mem_cons_of_mem _ (h2 x hx)
        · obtain ⟨h1, h2⟩ := ih w (List.mem_cons_of_mem _ hw)
          exact ⟨by simp; omega, fun x hx => List.mem_cons_of_mem _ (h2 x hx)⟩
theorem spl_length (c : Int) : ∀ L : List Int, (spl c L).length ≤ L.length + 1 := by
  intro L
  induction L with
  | nil => simp [spl]
  | cons y r ih =>
    rw [spl]
    split
    · simp; omega
    · cases hs : spl c r with
      | nil => simp
      | cons v t => rw [hs] at ih; simp at ih ⊢; omega
theorem jnc_append (c : Int) : ∀ (ws : List (List Int)) (w : List Int), ws ≠ [] → jnc c (ws ++ [w]) = jnc c ws ++ c :: w := by
  intro ws
  induction ws with
  | nil => intro w h; exact (h rfl).elim
  | cons v r ih =>
    intro w _
    cases r with
    | nil => rfl
    | cons u r => rw [List.cons_append, jnc_cons c v (by simp), ih w (by simp), jnc_cons c v (by simp), List.append_assoc]; rfl
/-- Where the first c stands: what Index answers. -/
def fst (c : Int) : List Int → Option Nat
  | [] => none
  | x :: r => if x = c then some 0 else (fst c r).map (· + 1)
theorem fst_none {c : Int} : ∀ {L : List Int}, fst c L = none → ∀ x ∈ L, x ≠ c := by
  intro L
  induction L with
  | nil => intro _ x hx; cases hx
  | cons y r ih =>
    intro h x hx
    rw [fst] at h
    split at h
    · cases h
    · rename_i hy
      simp only [Option.map_eq_none_iff] at h
      rcases List.mem_cons.1 hx with rfl | hx
      · exact hy
      · exact ih h x hx
theorem fst_some {c : Int} : ∀ {L : List Int} {i : Nat}, fst c L = some i → i < L.length ∧ L = L.take i ++ c :: L.drop (i + 1) ∧ ∀ x ∈ L.take i, x ≠ c := by
  intro L
  induction L with
  | nil => intro i h; cases h
  | cons y r ih =>
    intro i h
    rw [fst] at h
    split at h
    · rename_i hy
      simp only [Option.some.injEq] at h
      subst h
      exact ⟨by simp, by simp [hy], by intro x hx; simp at hx⟩
    · rename_i hy
      simp only [Option.map_eq_some_iff] at h
      obtain ⟨j, hj, rfl⟩ := h
      obtain ⟨h1, h2, h3⟩ := ih hj
      refine ⟨by simp; omega, ?_, ?_⟩
      · rw [List.take_succ_cons, List.drop_succ_cons, List.cons_append, ← h2]
      · intro x hx
        rw [List.take_succ_cons] at hx
        rcases List.mem_cons.1 hx with rfl | hx
        · exact hy
        · exact h3 x hx
theorem indexByte_fst (c : UInt8) : ∀ l : List UInt8, Lib.indexByte l c = (match fst (c.toNat : Int) (l.map fun b => (b.toNat : Int)) with | some i => (i : Int) | none => -1) := by
  intro l
  induction l with
  | nil => rfl
  | cons b l ih =>
    rw [Lib.indexByte, List.map_cons, fst]
    by_cases h : b = c
    · subst h; simp
    · have h1 : ¬ (b.toNat : Int) = c.toNat := fun e => h (UInt8.toNat_inj.1 (by omega))
      have h2 : (b == c) = false := by simpa using h
      rw [if_neg h1, ih, h2]
      simp only [Bool.false_eq_true, if_false]
      cases fst (c.toNat : Int) (l.map fun b => (b.toNat : Int)) with
      | none => simp
      | some i => simp <;> omega
theorem index_B (s : ByteArray) (c : Int) (h0 : 0 ≤ c) (h1 : c < 256) : Lib.indexByte s.data.toList c.toNat.toUInt8 = (match fst c (B s) with | some i => (i : Int) | none => -1) := by
  rw [indexByte_fst, B]
  have : ((c.toNat.toUInt8.toNat : Nat) : Int) = c := by
    have : c.toNat < 256 := by omega
    simp [UInt8.toNat_ofNat']
    try omega
  rw [this]
end Go.Proofs.YtpamkidcmjfieaaDoor.Sp
