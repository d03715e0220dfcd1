/- strings.Builder, walked: WriteString, String. -/
import Derived.Test.YtpamkidcmjfieaaGreatDoorSp
import Derived.Test.YtpamkidcmjfieaaGreatDoorFz
import Derived.Test.YtpamkidcmjfieaaGreatDoorChecked
import Derived.Test.YtpamkidcmjfieaaGreatDoorSh
import Derived.Lib.Builder
import Derived.Lib.AppendStr
import Derived.Lib.ConvBytes
import Derived.Lib.SmallJoins
namespace Go.Proofs.YtpamkidcmjfieaaGreatDoor
open Go Go.RowKit Fw Sp
set_option linter.unusedVariables false
set_option maxRecDepth 20000
namespace Fw
section
variable {P : Program} {w : World} {ρ : Operand → Value} {dst : Option Tmp} {ty : TypeId} {pos : String} {af : Array Edge} {g : Option (Nat × Bool)} {v : Value}
theorem eq_ptrs (d : Nat) {t e n : Nat} (a : Addr) (ht : P.underlying t = some (.pointer e)) (hn : szT P e = some n) : (Op.equalIn (d + 1) t (.pointer (some a)) (.pointer (some a))).run P w = .ok true w := by
  rw [Op.equalIn]; simp only [run_underlying ht, Sem.run_bind, Result.andThen_ok, run_szT hn]
  split
  · simp [sameAddr]
  · rw [if_pos (by simp)]; rfl
theorem eq_ptrn0 (d : Nat) {t e : TypeId} (ht : P.underlying t = some (.pointer e)) : (Op.equalIn (d + 1) t (.pointer none) (.pointer none)).run P w = .ok true w := by
  rw [Op.equalIn]; simp only [run_underlying ht, Sem.run_bind, Sem.run_pure, Result.andThen_ok]; rfl
theorem r_peq0 {t t' e : TypeId} {x y : Operand} (ht : P.underlying t = some (.pointer e)) (hx : ρ x = .pointer none) (hy : ρ y = .pointer none) :
    Rn P ρ ⟨dst, .binOp .eql t x y t', ty, pos, af, g⟩ w (.ok (.value (.bool true)) w) := by
  refine ⟨run_v ?_⟩; rw [hx, hy]; exact run_eql rfl rfl (eq_ptrn0 9999 ht)
theorem r_pnes {t t' e : TypeId} {n : Nat} {x y : Operand} {a : Addr} (ht : P.underlying t = some (.pointer e)) (hn : szT P e = some n) (hx : ρ x = .pointer (some a)) (hy : ρ y = .pointer (some a)) :
    Rn P ρ ⟨dst, .binOp .neq t x y t', ty, pos, af, g⟩ w (.ok (.value (.bool false)) w) := by
  refine ⟨run_v ?_⟩; rw [hx, hy]; exact run_neq rfl rfl (eq_ptrs 9999 a ht hn)
end
end Fw
namespace Fw
section
variable {P : Program} {w : World} {ρ : Operand → Value} {dst : Option Tmp} {ty : TypeId} {pos : String} {af : Array Edge} {g : Option (Nat × Bool)} {v : Value}
theorem r_tu {s d t e : TypeId} {j : TypeInfo} {cells : Nat} {x : Operand} {a : Addr} (hx : ρ x = .pointer (some a)) (hs : P.underlying s = some (.pointer t)) (hd : P.underlying d = some .unsafePointer) (ht : P.info? t = some j) (hj : j.size ≠ 0)
    (hsh : w.shape? a.block = some (e, cells)) (hoff : a.off < cells) : Rn P ρ ⟨dst, .convert s d x, ty, pos, af, g⟩ w (.ok (.value (.pointer (some a))) w) := by
  refine ⟨run_v ?_⟩
  rw [hx]
  exact Lib.run_to_unsafe w a hs hd ht hj hsh hoff
theorem r_fu {s d u e : TypeId} {j : TypeInfo} {cells : Nat} {x : Operand} {a : Addr} (hx : ρ x = .pointer (some a)) (hs : P.underlying s = some .unsafePointer) (hd : P.underlying d = some (.pointer u)) (hu : P.info? u = some j)
    (hsh : w.shape? a.block = some (e, cells)) (hlies : liesAt P P.depth e (cells / P.cellsOf e) a.off u 1 = true) : Rn P ρ ⟨dst, .convert s d x, ty, pos, af, g⟩ w (.ok (.value (.pointer (some a))) w) := by
  refine ⟨run_v ?_⟩
  rw [hx]
  exact Lib.run_from_unsafe w a hs hd hu hsh hlies
theorem r_app2 {s x : Operand} {t u : TypeId} {v1 : Value} {w1 : World} {v0 xv : Value} (hs : ρ s = v0) (hx : ρ x = xv) (h : (Builtin.append_ #[t, u] ty #[v0, xv]).run P w = .ok v1 w1) :
    Rn P ρ ⟨dst, .call ⟨.builtin .append, #[s, x], #[t, u]⟩, ty, pos, af, g⟩ w (.ok (.value v1) w1) := by
  refine run_bi (xs := [s, x]) (Builtin.append_ #[t, u] ty #[ρ s, ρ x]) (fun cn args e => by subst e; rfl) ?_
  rw [hs, hx]; exact h
end
end Fw
namespace Bu
theorem chk (b : Nat) (q : Value) (hq : q = .pointer none ∨ q = .pointer (some ⟨b, 0, none⟩)) (v : Value) (w : World) (hb : w.heap[b]? = some (.cells [q, v].toArray 62 (0, 0))) (hv : cellsL v = [v]) :
    Ret Tryz.prog 46 [.pointer (some ⟨b, 0, none⟩)] w fun u w1 => u = .tuple #[] ∧ w1.heap[b]? = some (.cells [Value.pointer (some ⟨b, 0, none⟩), v].toArray 62 (0, 0)) ∧ Kp (fun k => k = b) w w1 := by
  refine ret_enter Tryz.func46 rfl Tryz.ntmps46 rfl ?_
  rcases hq with rfl | rfl
  · (repeat (first | refine k_nil ?_ | refine k_n ?_ | refine k_r ?_ | refine k_x ?_ | refine b_n ?_ | refine b_r ?_ | refine b_y rfl ?_ | refine b_z rfl ?_ | refine l_r ?_ | refine l_x ?_ | refine k_seq ?_ | refine k_blk ?_ | refine k_reg ?_ | refine k_ret ?_ | refine k_exit ?_ | refine k_skip ?_ | refine Zs ?_))
    refine s_v (r_peq0 rfl rfl rfl) ?_
    (repeat (first | refine k_nil ?_ | refine k_n ?_ | refine k_r ?_ | refine k_x ?_ | refine b_n ?_ | refine b_r ?_ | refine b_y rfl ?_ | refine b_z rfl ?_ | refine l_r ?_ | refine l_x ?_ | refine k_seq ?_ | refine k_blk ?_ | refine k_reg ?_ | refine k_ret ?_ | refine k_exit ?_ | refine k_skip ?_ | refine Zs ?_))
    refine c_t rfl ?_
    (repeat (first | refine k_nil ?_ | refine k_n ?_ | refine k_r ?_ | refine k_x ?_ | refine b_n ?_ | refine b_r ?_ | refine b_y rfl ?_ | refine b_z rfl ?_ | refine l_r ?_ | refine l_x ?_ | refine k_seq ?_ | refine k_blk ?_ | refine k_reg ?_ | refine k_ret ?_ | refine k_exit ?_ | refine k_skip ?_ | refine Zs ?_))
    have hsh : w.shape? b = some (62, 2) := by simp [World.shape?, hb]
    refine s_v (r_tu rfl rfl rfl rfl (by decide) hsh (by show (0 : Nat) < 2; decide)) ?_
    refine s_v (r_xt (e := Extern.AbiNoEscape.same) Tryz.func64 (by kernel_rfl) (by kernel_rfl) (by kernel_rfl) (by kernel_rfl) rfl rfl (Lib.run_noEscape w _)) ?_
    refine s_v (r_fu rfl rfl rfl rfl hsh (by kernel_rfl)) ?_
    (repeat (first | refine k_nil ?_ | refine k_n ?_ | refine k_r ?_ | refine k_x ?_ | refine b_n ?_ | refine b_r ?_ | refine b_y rfl ?_ | refine b_z rfl ?_ | refine l_r ?_ | refine l_x ?_ | refine k_seq ?_ | refine k_blk ?_ | refine k_reg ?_ | refine k_ret ?_ | refine k_exit ?_ | refine k_skip ?_ | refine Zs ?_))
    refine s_st rfl rfl rfl rfl rfl hb (Nat.le_of_ble_eq_true rfl) (fun w1 s1 => ?_)
    (repeat (first | refine k_nil ?_ | refine k_n ?_ | refine k_r ?_ | refine k_x ?_ | refine b_n ?_ | refine b_r ?_ | refine b_y rfl ?_ | refine b_z rfl ?_ | refine l_r ?_ | refine l_x ?_ | refine k_seq ?_ | refine k_blk ?_ | refine k_reg ?_ | refine k_ret ?_ | refine k_exit ?_ | refine k_skip ?_ | refine Zs ?_))
    exact end_0 rfl ⟨rfl, s1.blk, s1.kp⟩
  · (repeat (first | refine k_nil ?_ | refine k_n ?_ | refine k_r ?_ | refine k_x ?_ | refine b_n ?_ | refine b_r ?_ | refine b_y rfl ?_ | refine b_z rfl ?_ | refine l_r ?_ | refine l_x ?_ | refine k_seq ?_ | refine k_blk ?_ | refine k_reg ?_ | refine k_ret ?_ | refine k_exit ?_ | refine k_skip ?_ | refine Zs ?_))
    refine c_f rfl ?_
    (repeat (first | refine k_nil ?_ | refine k_n ?_ | refine k_r ?_ | refine k_x ?_ | refine b_n ?_ | refine b_r ?_ | refine b_y rfl ?_ | refine b_z rfl ?_ | refine l_r ?_ | refine l_x ?_ | refine k_seq ?_ | refine k_blk ?_ | refine k_reg ?_ | refine k_ret ?_ | refine k_exit ?_ | refine k_skip ?_ | refine Zs ?_))
    refine s_v (r_pnes rfl rfl rfl rfl) ?_
    (repeat (first | refine k_nil ?_ | refine k_n ?_ | refine k_r ?_ | refine k_x ?_ | refine b_n ?_ | refine b_r ?_ | refine b_y rfl ?_ | refine b_z rfl ?_ | refine l_r ?_ | refine l_x ?_ | refine k_seq ?_ | refine k_blk ?_ | refine k_reg ?_ | refine k_ret ?_ | refine k_exit ?_ | refine k_skip ?_ | refine Zs ?_))
    refine c_f rfl ?_
    (repeat (first | refine k_nil ?_ | refine k_n ?_ | refine k_r ?_ | refine k_x ?_ | refine b_n ?_ | refine b_r ?_ | refine b_y rfl ?_ | refine b_z rfl ?_ | refine l_r ?_ | refine l_x ?_ | refine k_seq ?_ | refine k_blk ?_ | refine k_reg ?_ | refine k_ret ?_ | refine k_exit ?_ | refine k_skip ?_ | refine Zs ?_))
    exact end_0 rfl ⟨rfl, hb, Kp.refl _ _⟩
/-- A builder of one's own at block b that holds the bytes bs; its row is none of the blocks X. -/
def Bd (base : Nat) (X : Nat → Prop) (b : Nat) (bs : List Value) (w : World) : Prop := b < base ∧ ∃ q a c, (q = .pointer none ∨ q = .pointer (some ⟨b, 0, none⟩)) ∧ w.heap[b]? = some (.cells [q, .slice a bs.length c].toArray 62 (0, 0)) ∧
  w.ownsRow base 5 1 (.slice a bs.length c) bs.length bs ∧ (Value.slice a bs.length c).ownBlock ≠ some b ∧ ∀ g, (Value.slice a bs.length c).ownBlock = some g → ¬ X g
theorem Bd.kp {base : Nat} {X Y : Nat → Prop} {b : Nat} {bs : List Value} {w w' : World} (h : Bd base X b bs w) (k : Kp No w w') (hY : ∀ g, base ≤ g → g < w.heap.size → ¬ X g → ¬ Y g) : Bd base Y b bs w' := by
  obtain ⟨hb, q, a, cp, hq, hblk, own, hne, hx⟩ := h
  exact ⟨hb, q, a, cp, hq, k.get0 hblk, own_kp own k (fun _ _ h => h), hne, fun g hg => hY g (own_lt own hg).1 (own_lt own hg).2 (hx g hg)⟩
theorem wstr (base : Nat) (X : Nat → Prop) (b : Nat) (bs : List Value) (s : ByteArray) (w : World) (h : Bd base X b bs w) (hl : bs.length ≤ 1000000) (hsz : s.size ≤ 1000000) (hbw : base ≤ w.heap.size) : Ret Tryz.prog 22 [.pointer (some ⟨b, 0, none⟩), .string s] w fun v w1 => Bd base No b (bs ++ Lib.strCells s) w1 ∧ Kp (fun k => k = b ∨ ¬ X k) w w1 := by
  obtain ⟨hb, q, a, cp, hq, hblk, own, hne, hx⟩ := h
  refine ret_enter Tryz.func22 rfl Tryz.ntmps22 rfl ?_
  (repeat (first | refine k_nil ?_ | refine k_n ?_ | refine k_r ?_ | refine k_x ?_ | refine b_n ?_ | refine b_r ?_ | refine b_y rfl ?_ | refine b_z rfl ?_ | refine l_r ?_ | refine l_x ?_ | refine k_seq ?_ | refine k_blk ?_ | refine k_reg ?_ | refine k_ret ?_ | refine k_exit ?_ | refine k_skip ?_ | refine Zs ?_))
  refine s_call (us := []) (zs := []) (by kernel_rfl) rfl rfl (chk b q hq _ w hblk rfl) ?_
  rintro _ w1 ⟨rfl, hb1, k1⟩
  have own1 := own_kp own k1 (fun g hg e => hne (by rw [hg, e]))
  have z1 := k1.size
  (repeat (first | refine k_nil ?_ | refine k_n ?_ | refine k_r ?_ | refine k_x ?_ | refine b_n ?_ | refine b_r ?_ | refine b_y rfl ?_ | refine b_z rfl ?_ | refine l_r ?_ | refine l_x ?_ | refine k_seq ?_ | refine k_blk ?_ | refine k_reg ?_ | refine k_ret ?_ | refine k_exit ?_ | refine k_skip ?_ | refine Zs ?_))
  obtain ⟨v, w3, hr, own3, gr, _⟩ := Lib.run_append_own_string (P := Tryz.prog) w1 base 60 9 60 5 _ Tryz.underlying60 Tryz.underlying9 rfl rfl rfl rfl _ bs.length bs own1 s (by unfold maxLen; omega) (by omega) (by omega)
  have k3 := Kp.of_grown gr
  refine s_go (r_app2 rfl rfl hr) ?_
  have own4 := own3
  obtain ⟨a', c', rfl, hc', _, _⟩ := own_read own3
  have lb := lt_of_get hb1
  have hb3 := k3.get hb1 (fun e => hne e.symm)
  have hne' : ∀ g, (Value.slice a' (bs.length + s.size) c').ownBlock = some g → g ≠ b := fun g hg e => by
    subst e
    rcases own4.2 with ⟨h1, _⟩ | ⟨g', cap, cur, h1, _, h2, _⟩
    · rw [h1] at hg; cases hg
    · cases h1
      simp only [Value.ownBlock, Option.some.injEq] at hg
      rw [hg, hb3] at h2
      simp at h2
  (repeat (first | refine k_nil ?_ | refine k_n ?_ | refine k_r ?_ | refine k_x ?_ | refine b_n ?_ | refine b_r ?_ | refine b_y rfl ?_ | refine b_z rfl ?_ | refine l_r ?_ | refine l_x ?_ | refine k_seq ?_ | refine k_blk ?_ | refine k_reg ?_ | refine k_ret ?_ | refine k_exit ?_ | refine k_skip ?_ | refine Zs ?_))
  refine s_st rfl rfl rfl rfl rfl hb3 (Nat.le_of_ble_eq_true rfl) (fun w4 s4 => ?_)
  have hb4 := s4.blk
  (repeat (first | refine k_nil ?_ | refine k_n ?_ | refine k_r ?_ | refine k_x ?_ | refine b_n ?_ | refine b_r ?_ | refine b_y rfl ?_ | refine b_z rfl ?_ | refine l_r ?_ | refine l_x ?_ | refine k_seq ?_ | refine k_blk ?_ | refine k_reg ?_ | refine k_ret ?_ | refine k_exit ?_ | refine k_skip ?_ | refine Zs ?_))
  have e : (bs ++ Lib.strCells s).length = bs.length + s.size := by rw [List.length_append, Lib.strCells_length]
  refine ret_2 rfl rfl rfl ⟨⟨hb, _, a', c', .inr rfl, by rw [e]; exact hb4, by rw [e]; exact own_kp own4 s4.kp (fun g hg e => hne' g hg e), by rw [e]; exact fun h => hne' b h rfl, fun _ _ h => h⟩, ?_⟩
  exact ((k1.mono fun k _ h => .inl h : Kp (fun k => k = b ∨ ¬ X k) w w1).trans k3 (fun k hk h => .inr (hx k h.symm))).trans s4.kp (fun k _ h => .inl h)
def rg (L : List Int) : Prop := ∀ c ∈ L, 0 ≤ c ∧ c < 256
theorem rg_app {A C : List Int} (h : rg A) (h' : rg C) : rg (A ++ C) := fun c hc => (List.mem_append.1 hc).elim (h c) (h' c)
theorem strCells_B (s : ByteArray) : Lib.strCells s = (B s).map (Value.int .u8) := by simp [Lib.strCells, B]
theorem byteCells_nums {xs : List Int} (h : rg xs) : Lib.byteCells (xs.map fun n => UInt8.ofNat n.toNat) = xs.map (Value.int .u8) := by
  rw [Lib.byteCells, List.map_map]
  refine List.map_congr_left fun c hc => ?_
  have := h c hc
  simp only [Function.comp]
  congr 1
  simp [UInt8.toNat_ofNat']
  omega
theorem BStr (base b : Nat) (out : List Int) (w : World) (h : Bd base No b (out.map (Value.int .u8)) w) (hrg : rg out) (hbw : base ≤ w.heap.size) : Ret Tryz.prog 26 [.pointer (some ⟨b, 0, none⟩)] w fun v w1 => (∃ t, v = .string t ∧ B t = out) ∧ Kp (fun k => b ≤ k) w w1 := by
  obtain ⟨hb, q, a, cp, hq, hblk, own, hne, _⟩ := h
  have own' := Joins.ownsRow_le own (Nat.le_of_lt hb)
  refine Calls.mono (Tryz.Builder_String_any_k b b (out.map fun n => UInt8.ofNat n.toNat) w (Lib.IsBuilderF.of ?_) (by omega)) ?_
  · rw [byteCells_nums hrg]
    rcases hq with rfl | rfl
    · exact .inl ⟨Nat.le_refl _, _, hblk, own', hne⟩
    · exact .inr ⟨Nat.le_refl _, _, hblk, own', hne⟩
  · rintro e w1 ⟨rfl, _, hbel, _⟩
    exact ⟨_, rfl, ⟨_, rfl, B_nums hrg⟩, ⟨hbel.os, hbel.tape, hbel.output, hbel.size, fun k hk hs => hbel.block k (by have : ¬ b ≤ k := hs; omega)⟩⟩
end Bu
end Go.Proofs.YtpamkidcmjfieaaGreatDoor
