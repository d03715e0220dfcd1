/- What the proofs of this seat lean on, part 7. -/
import Derived.Test.YtfnbgbeinmekgaaGreatDoorPd6
import Derived.Lib.Builder
import Derived.Lib.AppendStr
import Derived.Lib.ConvBytes
import Derived.Lib.UnsafeStr
namespace Go.Proofs.YtfnbgbeinmekgaaGreatDoor
open Go Go.RowKit Fw Nu Sy Pt
set_option linter.unusedVariables false
set_option maxRecDepth 20000
namespace Fw
section
variable {P : Program} {w : World} {ρ : Operand → Value} {dst : Option Tmp} {ty : TypeId} {pos : String} {af : Array Edge} {g : Option (Nat × Bool)} {v : Value}
theorem eq_ptrs (d : Nat) {t e n : Nat} (a : Addr) (ht : P.underlying t = some (.pointer e)) (hn : szT P e = some n) : (Op.equalIn (d + 1) t (.pointer (some a)) (.pointer (some a))).run P w = .ok true w := by
  rw [Op.equalIn]; simp only [run_underlying ht, Sem.run_bind, Result.andThen_ok, run_szT hn]
  split
  · simp [sameAddr]
  · rw [if_pos (by simp)]; rfl
theorem eq_ptrn0 (d : Nat) {t e : TypeId} (ht : P.underlying t = some (.pointer e)) : (Op.equalIn (d + 1) t (.pointer none) (.pointer none)).run P w = .ok true w := by
  rw [Op.equalIn]; simp only [run_underlying ht, Sem.run_bind, Sem.run_pure, Result.andThen_ok]; rfl
theorem r_peqn {t t' e : TypeId} {x y : Operand} (ht : P.underlying t = some (.pointer e)) (hx : ρ x = .pointer none) (hy : ρ y = .pointer none) :
    Rn P ρ ⟨dst, .binOp .eql t x y t', ty, pos, af, g⟩ w (.ok (.value (.bool true)) w) := by
  refine ⟨run_v ?_⟩; rw [hx, hy]; exact run_eql rfl rfl (eq_ptrn0 9999 ht)
theorem r_pnes {t t' e : TypeId} {n : Nat} {x y : Operand} {a : Addr} (ht : P.underlying t = some (.pointer e)) (hn : szT P e = some n) (hx : ρ x = .pointer (some a)) (hy : ρ y = .pointer (some a)) :
    Rn P ρ ⟨dst, .binOp .neq t x y t', ty, pos, af, g⟩ w (.ok (.value (.bool false)) w) := by
  refine ⟨run_v ?_⟩; rw [hx, hy]; exact run_neq rfl rfl (eq_ptrs 9999 a ht hn)
theorem r_tu {s d t e : TypeId} {j : TypeInfo} {cells : Nat} {x : Operand} {a : Addr} (hx : ρ x = .pointer (some a)) (hs : P.underlying s = some (.pointer t)) (hd : P.underlying d = some .unsafePointer) (ht : P.info? t = some j) (hj : j.size ≠ 0)
    (hsh : w.shape? a.block = some (e, cells)) (hoff : a.off < cells) : Rn P ρ ⟨dst, .convert s d x, ty, pos, af, g⟩ w (.ok (.value (.pointer (some a))) w) := by
  refine ⟨run_v ?_⟩
  rw [hx]
  exact Lib.run_to_unsafe w a hs hd ht hj hsh hoff
theorem r_fu {s d u e : TypeId} {j : TypeInfo} {cells : Nat} {x : Operand} {a : Addr} (hx : ρ x = .pointer (some a)) (hs : P.underlying s = some .unsafePointer) (hd : P.underlying d = some (.pointer u)) (hu : P.info? u = some j)
    (hsh : w.shape? a.block = some (e, cells)) (hlies : liesAt P P.depth e (cells / P.cellsOf e) a.off u 1 = true) : Rn P ρ ⟨dst, .convert s d x, ty, pos, af, g⟩ w (.ok (.value (.pointer (some a))) w) := by
  refine ⟨run_v ?_⟩
  rw [hx]
  exact Lib.run_from_unsafe w a hs hd hu hsh hlies
theorem r_app2 {s x : Operand} {t u : TypeId} {v1 : Value} {w1 : World} {v0 xv : Value} (hs : ρ s = v0) (hx : ρ x = xv) (h : (Builtin.append_ #[t, u] ty #[v0, xv]).run P w = .ok v1 w1) :
    Rn P ρ ⟨dst, .call ⟨.builtin .append, #[s, x], #[t, u]⟩, ty, pos, af, g⟩ w (.ok (.value v1) w1) := by
  refine run_bi (xs := [s, x]) (Builtin.append_ #[t, u] ty #[ρ s, ρ x]) (fun cn args e => by subst e; rfl) ?_
  rw [hs, hx]; exact h
end
end Fw
namespace Pr
/-- What may change: the writer's own block; blocks of bytes. -/
def SB (base b : Nat) (w : World) (k : Nat) : Prop := base ≤ k ∧ (k = b ∨ ∃ cur fz, w.heap[k]? = some (.cells cur 5 fz))
abbrev KB (base b : Nat) (w w' : World) : Prop := Kp (SB base b w) w w'
theorem KB.trans {base b : Nat} {w w1 w2 : World} (h : KB base b w w1) (k : KB base b w1 w2) : KB base b w w2 :=
  Kp.trans h k fun i hi hs => by
    refine Classical.byContradiction fun hn => ?_
    have e := h.block i hi hn
    refine hn ⟨hs.1, hs.2.elim .inl fun ⟨cur, fz, hc⟩ => .inr ⟨cur, fz, by rw [← e]; exact hc⟩⟩
theorem KB.no {base b : Nat} {w w1 : World} (h : Kp No w w1) : KB base b w w1 := h.mono fun _ _ h => h.elim
theorem KB.get {base b : Nat} {w w1 : World} (h : KB base b w w1) {k : Nat} {cur : Array Value} {T : TypeId} {fz : Nat × Nat} (hk : w.heap[k]? = some (.cells cur T fz)) (hb : k ≠ b) (hT : Nat.beq T 5 = false) : w1.heap[k]? = some (.cells cur T fz) :=
  Kp.get h hk fun hs => hs.2.elim hb fun ⟨cur', fz', hc⟩ => Sy.ty_ne hk hc hT rfl
/-- A program in memory, a writer of it, and what was written. -/
structure Wr (w0 : World) (ux us uf : Value) (b : Nat) (bs : List Int) (w : World) : Prop where
  ge : w0.heap.size ≤ b
  kp : Kp (fun k => w0.heap.size ≤ k) w0 w
  bl : ∃ q a c, (q = .pointer none ∨ q = .pointer (some ⟨b, 3, none⟩)) ∧ w.heap[b]? = some (.cells [ux, us, uf, q, .slice a bs.length c].toArray 76 (0, 0)) ∧
    w.ownsRow w0.heap.size 5 1 (.slice a bs.length c) bs.length (bs.map (Value.int .u8))
section
variable {w0 : World} {ux us uf : Value} {b : Nat} {bs : List Int} {w w1 : World}
theorem Wr.no (h : Wr w0 ux us uf b bs w) (k : Kp No w w1) : Wr w0 ux us uf b bs w1 := by
  obtain ⟨q, a, c, hq, hb, ho⟩ := h.bl
  exact ⟨h.ge, h.kp.no k, q, a, c, hq, k.get0 hb, own_kp ho k fun _ _ h => h⟩
theorem Wr.ne (h : Wr w0 ux us uf b bs w) {k : Nat} {cur : Array Value} {T : TypeId} {fz : Nat × Nat} (hk : w.heap[k]? = some (.cells cur T fz)) (hT : Nat.beq T 76 = false) : k ≠ b := by
  obtain ⟨q, a, c, hq, hb, ho⟩ := h.bl
  exact Sy.ty_ne hk hb hT
end
theorem chk (b : Nat) (ux us uf q v : Value) (hq : q = .pointer none ∨ q = .pointer (some ⟨b, 3, none⟩)) (w : World) (hb : w.heap[b]? = some (.cells [ux, us, uf, q, v].toArray 76 (0, 0))) :
    Ret Tryz.prog 51 [.pointer (some ⟨b, 3, none⟩)] w fun u w1 => u = .tuple #[] ∧ w1.heap[b]? = some (.cells [ux, us, uf, Value.pointer (some ⟨b, 3, none⟩), v].toArray 76 (0, 0)) ∧ Kp (fun k => k = b) w w1 := by
  refine ret_enter Tryz.func51 rfl Tryz.ntmps51 rfl ?_
  rcases hq with rfl | rfl
  · (repeat refine Zr ?_)
    refine s_v (r_peqn rfl rfl rfl) ?_
    (repeat refine Zr ?_)
    refine c_t rfl ?_
    (repeat refine Zr ?_)
    have hsh : w.shape? b = some (76, 5) := by simp [World.shape?, hb]
    refine s_v (r_tu rfl rfl rfl rfl (by decide) hsh (by show (3 : Nat) < 5; decide)) ?_
    refine s_v (r_xt (e := Extern.AbiNoEscape.same) Tryz.func78 (by kernel_rfl) (by kernel_rfl) (by kernel_rfl) (by kernel_rfl) rfl rfl (Lib.run_noEscape w _)) ?_
    refine s_v (r_fu rfl rfl rfl rfl hsh (by kernel_rfl)) ?_
    (repeat refine Zr ?_)
    refine s_st rfl rfl rfl rfl rfl hb (Nat.le_of_ble_eq_true rfl) (fun w1 s1 => ?_)
    (repeat refine Zr ?_)
    exact end_0 rfl ⟨rfl, s1.blk, s1.kp⟩
  · (repeat refine Zr ?_)
    refine c_f rfl ?_
    (repeat refine Zr ?_)
    refine s_v (r_pnes rfl rfl rfl rfl) ?_
    (repeat refine Zr ?_)
    refine c_f rfl ?_
    (repeat refine Zr ?_)
    exact end_0 rfl ⟨rfl, hb, Kp.refl _ _⟩
theorem strCells_B (s : ByteArray) : Lib.strCells s = (B s).map (Value.int .u8) := by simp [Lib.strCells, B]
theorem WriteString (w0 : World) (ux us uf : Value) (b : Nat) (bs : List Int) (s : ByteArray) (w : World) (h : Wr w0 ux us uf b bs w) (hl : bs.length + s.size ≤ 1000000000000) :
    Ret Tryz.prog 24 [.pointer (some ⟨b, 3, none⟩), .string s] w fun v w1 => Wr w0 ux us uf b (bs ++ B s) w1 ∧ KB w0.heap.size b w w1 := by
  obtain ⟨q, a, cp, hq, hblk, own⟩ := h.bl
  refine ret_enter Tryz.func24 rfl Tryz.ntmps24 rfl ?_
  (repeat refine Zr ?_)
  refine s_call (us := []) (zs := []) (by kernel_rfl) rfl rfl (chk b ux us uf q _ hq w hblk) ?_
  rintro _ w1 ⟨rfl, hb1, k1⟩
  have hne : ∀ g, (Value.slice a bs.length cp).ownBlock = some g → g ≠ b := fun g hg => by
    obtain ⟨cur, hc⟩ := Sy.own_ty own hg
    exact Sy.ty_ne hc hblk rfl
  have own1 := own_kp own k1 (fun g hg e => hne g hg e)
  have z1 := k1.size
  have z0 := h.kp.size
  (repeat refine Zr ?_)
  obtain ⟨v, w3, hr, own3, gr, _⟩ := Lib.run_append_own_string (P := Tryz.prog) w1 w0.heap.size 72 9 72 5 _ Tryz.underlying72 Tryz.underlying9 rfl rfl rfl rfl _ bs.length (bs.map (Value.int .u8)) own1 s (by unfold maxLen; omega) (by omega) (by omega)
  have k3 := Kp.of_grown gr
  refine s_go (r_app2 rfl rfl hr) ?_
  have own4 := own3
  obtain ⟨a', c', rfl, hc', _, _⟩ := own_read own3
  have lb := lt_of_get hb1
  have hb3 := k3.get hb1 (fun e => hne b e.symm rfl)
  have hne' : ∀ g, (Value.slice a' (bs.length + s.size) c').ownBlock = some g → g ≠ b := fun g hg => by
    obtain ⟨cur, hc⟩ := Sy.own_ty own4 hg
    exact Sy.ty_ne hc hb3 rfl
  (repeat refine Zr ?_)
  refine s_st rfl rfl rfl rfl rfl hb3 (Nat.le_of_ble_eq_true rfl) (fun w4 s4 => ?_)
  have hb4 := s4.blk
  (repeat refine Zr ?_)
  have e : (bs ++ B s).length = bs.length + s.size := by rw [List.length_append, B_len]
  have kk : KB w0.heap.size b w w4 := by
    have k1' : KB w0.heap.size b w w1 := k1.mono fun i _ e => ⟨by rw [e]; exact h.ge, .inl e⟩
    have k3' : KB w0.heap.size b w1 w3 := k3.mono fun i _ e => by
      obtain ⟨cur, hc⟩ := Sy.own_ty own1 e.symm
      exact ⟨(own_lt own1 e.symm).1, .inr ⟨cur, _, hc⟩⟩
    have k4' : KB w0.heap.size b w3 w4 := s4.kp.mono fun i _ e => ⟨by rw [e]; exact h.ge, .inl e⟩
    exact (k1'.trans k3').trans k4'
  refine ret_2 rfl rfl rfl ⟨⟨h.ge, h.kp.trans kk fun i _ hi => hi.1, _, a', c', .inr rfl, ?_, ?_⟩, kk⟩
  · rw [e]; exact hb4
  · rw [e, List.map_append, ← strCells_B]; exact own_kp own4 s4.kp (fun g hg e => hne' g hg e)
theorem WriteByte (w0 : World) (ux us uf : Value) (b : Nat) (bs : List Int) (c : Int) (w : World) (h : Wr w0 ux us uf b bs w) (hl : bs.length ≤ 1000000000000) :
    Ret Tryz.prog 27 [.pointer (some ⟨b, 3, none⟩), .int .u8 c] w fun v w1 => Wr w0 ux us uf b (bs ++ [c]) w1 ∧ KB w0.heap.size b w w1 := by
  obtain ⟨q, a, cp, hq, hblk, own⟩ := h.bl
  refine ret_enter Tryz.func27 rfl Tryz.ntmps27 rfl ?_
  (repeat refine Zr ?_)
  refine s_call (us := []) (zs := []) (by kernel_rfl) rfl rfl (chk b ux us uf q _ hq w hblk) ?_
  rintro _ w1 ⟨rfl, hb1, k1⟩
  have hne : ∀ g, (Value.slice a bs.length cp).ownBlock = some g → g ≠ b := fun g hg => by
    obtain ⟨cur, hc⟩ := Sy.own_ty own hg
    exact Sy.ty_ne hc hblk rfl
  have own1 := own_kp own k1 (fun g hg e => hne g hg e)
  have z1 := k1.size
  have z0 := h.kp.size
  (repeat refine Zr ?_)
  refine s_bs (cs := [.int .u8 c]) (e := 5) rfl (fun b2 w2 n2 => ?_)
  have own2 := own_kp own1 n2.kp (fun _ _ => id)
  have hb2 := n2.kp.get0 hb1
  have z2 := n2.kp.size
  refine s_app (size := 1) (bytes := 1) (base := w0.heap.size) (news := [.int .u8 c]) rfl rfl rfl rfl rfl rfl rfl rfl own2 rfl (blk_cells n2.blk) rfl rfl (by omega) (by omega) (by omega) ?_
  rintro v w3 ⟨own3, k3, _, _⟩
  have own4 := own3
  obtain ⟨a', c', rfl, hc', _, _⟩ := own_read own3
  have hb3 := k3.get hb2 (fun e => hne b e.symm rfl)
  have hne' : ∀ g, (Value.slice a' (bs.length + 1) c').ownBlock = some g → g ≠ b := fun g hg => by
    obtain ⟨cur, hc⟩ := Sy.own_ty own4 hg
    exact Sy.ty_ne hc hb3 rfl
  (repeat refine Zr ?_)
  refine s_st rfl rfl rfl rfl rfl hb3 (Nat.le_of_ble_eq_true rfl) (fun w4 s4 => ?_)
  have hb4 := s4.blk
  (repeat refine Zr ?_)
  have e : (bs ++ [c]).length = bs.length + 1 := by rw [List.length_append]; rfl
  have kk : KB w0.heap.size b w w4 := by
    have k1' : KB w0.heap.size b w w1 := k1.mono fun i _ e => ⟨by rw [e]; exact h.ge, .inl e⟩
    have k3' : KB w0.heap.size b w2 w3 := k3.mono fun i _ e => by
      obtain ⟨cur, hc⟩ := Sy.own_ty own2 e.symm
      exact ⟨(own_lt own2 e.symm).1, .inr ⟨cur, _, hc⟩⟩
    have k4' : KB w0.heap.size b w3 w4 := s4.kp.mono fun i _ e => ⟨by rw [e]; exact h.ge, .inl e⟩
    exact ((k1'.trans (KB.no n2.kp)).trans k3').trans k4'
  refine ret_1 rfl rfl ⟨⟨h.ge, h.kp.trans kk fun i _ hi => hi.1, _, a', c', .inr rfl, ?_, ?_⟩, kk⟩
  · rw [e]; exact hb4
  · rw [e, List.map_append]; exact own_kp own4 s4.kp (fun g hg e => hne' g hg e)
theorem kp_freeze (w : World) (g n : Nat) : Kp (fun k => k = g) w (w.freeze ⟨g, 0, none⟩ n) := by
  unfold World.freeze
  split
  · exact Kp.refl _ _
  · refine ⟨rfl, rfl, rfl, by simp, fun i hi hn => ?_⟩
    have hn : ¬ g = i := fun e => hn e.symm
    simp only [Array.getElem?_modify, if_neg hn]
theorem String_ (w0 : World) (ux us uf : Value) (b : Nat) (bs : List Int) (w : World) (h : Wr w0 ux us uf b bs w) (h0 : bs ≠ []) (hr : ∀ c ∈ bs, 0 ≤ c ∧ c < 256) (hl : bs.length ≤ 1000000000000) :
    Ret Tryz.prog 28 [.pointer (some ⟨b, 3, none⟩)] w fun v w1 => (∃ s, v = .string s ∧ B s = bs) ∧ Kp (fun k => w0.heap.size ≤ k) w0 w1 := by
  obtain ⟨q, a, c, hq, hblk, own⟩ := h.bl
  have hl0 : 0 < bs.length := List.length_pos_iff.2 h0
  obtain ⟨g, cur, fz, rfl, hbg, hg, hnc, hcs⟩ : ∃ g cur fz, a = some ⟨g, 0, none⟩ ∧ w0.heap.size ≤ g ∧ w.heap[g]? = some (.cells cur 5 fz) ∧ bs.length ≤ c ∧ cur.size = c := by
    rcases own.2 with ⟨e, hz⟩ | ⟨g, cap, cur, hv, h1, h2, h3, h4, h5, _⟩
    · omega
    · cases hv; exact ⟨g, cur, _, rfl, h1, h2, h3, by omega⟩
  have hsl : ∀ w1 : World, (Builtin.unsafeSliceData_ #[72] 114 #[.slice (some ⟨g, 0, none⟩) bs.length c]).run Tryz.prog w1 = .ok (.pointer (some ⟨g, 0, none⟩)) w1 := fun w1 => Lib.run_unsafeSliceData_row _ _ _ _ _ _ (by omega)
  have hus : ∀ w1 : World, Kp No w w1 → (Builtin.unsafeString_ #[114, 3] 9 #[.pointer (some ⟨g, 0, none⟩), .int .i64 bs.length]).run Tryz.prog w1 = .ok (.string (strOfNums bs)) (w1.freeze ⟨g, 0, none⟩ bs.length) := fun w1 k1 => by
    have e : (bs.map fun n => UInt8.ofNat n.toNat).length = bs.length := List.length_map _
    have hh := Lib.run_unsafeString_row (P := Tryz.prog) w1 114 3 9 5 Tryz.underlying114 (by kernel_rfl) g cur.size (by have := k1.get0 hg; simp [World.shape?, this]) (bs.map fun n => UInt8.ofNat n.toNat) (by simpa using h0) (by rw [e, hcs]; exact hnc) (by rw [e]; omega) (fun j x hx => by
      rw [List.getElem?_map, Option.map_eq_some_iff] at hx
      obtain ⟨z, hz, rfl⟩ := hx
      have hzr := hr z (List.mem_of_getElem? hz)
      have hcell := (own_kp own k1 fun _ _ h => h).cells (g := g) rfl j (.int .u8 z) (by rw [List.getElem?_map, hz]; rfl)
      have e2 : ((UInt8.ofNat z.toNat).toNat : Int) = z := by simp [UInt8.toNat_ofNat']; omega
      rw [e2]; exact hcell)
    rw [e] at hh
    exact hh
  have hgb : b ≠ g := fun e => by subst e; rw [hg] at hblk; cases hblk
  refine ret_enter Tryz.func28 rfl Tryz.ntmps28 rfl ?_
  (repeat refine Zr ?_)
  refine k_h (fun w' => Kp (fun k => k = g) w w') [(0, false), (1, false), (2, false), (3, false), (4, false), (5, false), (6, false), (7, false), (8, false), (9, false), (10, true), (11, false)] 12 (by kernel_rfl) (by exact waits_none) (by kernel_rfl) (by kernel_rfl) rfl rfl (fun m1 k1 _ => ?_)
  have k1' : Kp (fun k => k = g) w m1 := k1.mono fun _ _ h => h.elim
  have hb := fun (w' : World) (hw : Kp (fun k => k = g) w w') => hw.get hblk hgb
  refine h_v k1' (fun w' hw => r_mv rfl) ?_
  refine h_v k1' (fun w' hw => r_nc rfl) ?_
  refine h_v k1' (fun w' hw => r_fa rfl rfl) ?_
  refine h_v k1' (fun w' hw => r_ld rfl rfl (cell_of_blk (hb w' hw) rfl)) ?_
  refine h_v k1' (fun w' hw => run_bi (xs := [_]) _ (fun cn args e => by subst e; rfl) (hsl w')) ?_
  refine h_v k1' (fun w' hw => r_mv rfl) ?_
  refine h_v k1' (fun w' hw => r_nc rfl) ?_
  refine h_v k1' (fun w' hw => r_fa rfl rfl) ?_
  refine h_v k1' (fun w' hw => r_ld rfl rfl (cell_of_blk (hb w' hw) rfl)) ?_
  refine h_v k1' (fun w' hw => r_len rfl) ?_
  have kf : Kp (fun k => k = g) w (m1.freeze ⟨g, 0, none⟩ bs.length) := k1'.trans (kp_freeze m1 g _) fun _ _ h => h
  refine h_go (run_bi (xs := [_, _]) _ (fun cn args e => by subst e; rfl) (hus m1 k1)) ⟨fun _ => kf, ?_⟩
  refine h_v kf (fun w' hw => r_as rfl) ?_
  refine h_nil ?_
  (repeat refine Zr ?_)
  exact ret_1 rfl rfl ⟨⟨_, rfl, B_nums hr⟩, h.kp.trans kf fun i _ e => by rw [e]; exact hbg⟩
end Pr
end Go.Proofs.YtfnbgbeinmekgaaGreatDoor
namespace Go.Proofs.YtfnbgbeinmekgaaGreatDoor.Fw
open Go Go.RowKit
section
variable {P : Program} {w : World} {S : World → Prop} {n : Nat} {l : Slots} {ds : List Deferred} {q : Pst P} {z : Nat} {ty : TypeId} {pos : String} {af : Array Edge} {v : Value} {rest : List (Nat × Bool × Oper)} {restl : List Oper} {os : List Oper} {ops : Array Oper} {d i : Nat} {op : Op} {dst : Option Nat} {ρ : Operand → Value} {g : Option (Nat × Bool)}
/-- A whole box is read. -/
theorem r_lwb {t : TypeId} {x : Operand} {b : Nat} {cs : List Value} {T : TypeId} {fz : Nat × Nat} (hx : ρ x = .pointer (some ⟨b, 0, none⟩)) (hb : w.heap[b]? = some (.cells cs.toArray T fz)) (ht : aggT P t = some true) (hn : szT P t = some cs.length) :
    Rn P ρ ⟨dst, .load t x, ty, pos, af, g⟩ w (.ok (.value (.agg cs.toArray)) w) := r_ldb (vs := cs) hx ht hn hb (by rw [List.drop_zero, List.take_length]) rfl
theorem lit_size (a : Array UInt8) : (ByteArray.mk a).size = a.size := rfl
theorem h_gv {j : Nat} {b : Bool} (hy : ylk os n l j = some (.bool b)) (hS : S w) (hr : ∀ w, S w → Rn P (ev n l) ⟨some d, op, ty, pos, af, some (j, b)⟩ w (.ok (.value v) w)) (h : Wo P os.toArray q S z rest n ((d, v) :: l) ds w) :
    Wo P os.toArray q S z ((i, false, ⟨some d, op, ty, pos, af, some (j, b)⟩) :: rest) n l ds w := by
  refine ⟨hS, v, .inl ⟨by simp [Region.wanted, A, ylk_eq hy], fun w hw => by rw [eval_A]; exact (hr w hw).eq⟩, ?_⟩
  rw [put_A]; exact h.up
theorem h_gn {j : Nat} {b b' : Bool} (hy : ylk os n l j = some (.bool b')) (hb : (b' == b) = false) (hS : S w) (h : Wo P os.toArray q S z rest n ((d, undef) :: l) ds w) :
    Wo P os.toArray q S z ((i, false, ⟨some d, op, ty, pos, af, some (j, b)⟩) :: rest) n l ds w := by
  have hb2 : ¬ b' = b := by simpa using hb
  refine ⟨hS, undef, .inr ⟨by simp [Region.wanted, A, ylk_eq hy, hb2], rfl⟩, ?_⟩
  rw [put_A]; exact h.up
theorem h_gcall {j : Nat} {b : Bool} {f : FuncId} {c : Operand} {xs : List Operand} {vs us zs : List Value} {ats : Array TypeId} {R : Value → World → Prop} (hy : ylk os n l j = some (.bool b)) (hf : callOk P f = true) (hcv : ev n l c = .func (.func f) us.toArray zs.toArray) (hxs : evs (ev n l) xs = some vs)
    (hc : Ret P f (us ++ vs ++ zs) w R) (h : ∀ v w1, R v w1 → (i ≠ z → S w1) ∧ Wo P os.toArray q S z rest n ((d, v) :: l) ds w1) :
    Wo P os.toArray q S z ((i, true, ⟨some d, .call ⟨.value c, xs.toArray, ats⟩, ty, pos, af, some (j, b)⟩) :: rest) n l ds w := by
  refine ⟨?_⟩
  unfold wpO
  rw [if_pos (by simp [Region.wanted, A, ylk_eq hy])]
  unfold Oper.wp
  rw [eval_A, (run_call hf hcv hxs).eq, Oper.upon_enter]
  refine Calls.mono hc ?_
  rintro e w1 ⟨v, rfl, hR⟩
  simp only [put_A]
  exact ⟨(h _ _ hR).1, (h _ _ hR).2.up⟩
theorem h_gu {j : Nat} {b : Bool} (hy : ylk os n l j = some (.tuple #[])) (hS : S w) (h : Wo P os.toArray q S z rest n ((d, undef) :: l) ds w) :
    Wo P os.toArray q S z ((i, false, ⟨some d, op, ty, pos, af, some (j, b)⟩) :: rest) n l ds w := by
  refine ⟨hS, undef, .inr ⟨by simp [Region.wanted, A, ylk_none hy], rfl⟩, ?_⟩
  rw [put_A]; exact h.up
theorem Zhq (h : Wo P ops q S z rest n ((d, v) :: l) ds w) (hS : S w := by assumption) (hr : ∀ w, S w → Rn P (ev n l) ⟨some d, op, ty, pos, af, none⟩ w (.ok (.value v) w) := by intro w' hw; first | exact r_mv rfl | exact r_as rfl | exact r_nc rfl | exact r_fa rfl rfl | exact r_add rfl rfl (by omega) | exact r_sub rfl rfl (by omega) | exact r_bin rfl | exact r_len rfl | exact r_not rfl | exact r_fd rfl | exact r_ex rfl | exact r_bd rfl | exact r_pt rfl rfl | exact r_pf rfl rfl | exact r_cat rfl rfl (by (try simp only [ByteArray.size_append, lit_size, List.size_toArray, List.length_cons, List.length_nil]); omega) | exact r_ia rfl rfl rfl rfl (by omega) (by omega) | exact r_ld rfl rfl (by first | solve_by_elim | exact cell_of_blk (by solve_by_elim) (by rfl)) | exact r_lwb rfl (by solve_by_elim) rfl rfl) : Wo P ops q S z ((i, false, ⟨some d, op, ty, pos, af, none⟩) :: rest) n l ds w := h_v hS hr h
theorem Zhgv {j : Nat} {b : Bool} (h : Wo P os.toArray q S z rest n ((d, v) :: l) ds w) (hy : ylk os n l j = some (.bool b) := by rfl) (hS : S w := by assumption) (hr : ∀ w, S w → Rn P (ev n l) ⟨some d, op, ty, pos, af, some (j, b)⟩ w (.ok (.value v) w) := by intro w' hw; first | exact r_mv rfl | exact r_as rfl | exact r_nc rfl | exact r_fa rfl rfl | exact r_add rfl rfl (by omega) | exact r_sub rfl rfl (by omega) | exact r_bin rfl | exact r_len rfl | exact r_not rfl | exact r_fd rfl | exact r_ex rfl | exact r_bd rfl | exact r_pt rfl rfl | exact r_pf rfl rfl | exact r_ia rfl rfl rfl rfl (by omega) (by omega) | exact r_ld rfl rfl (by first | solve_by_elim | exact cell_of_blk (by solve_by_elim) (by rfl)) | exact r_lwb rfl (by solve_by_elim) rfl rfl) : Wo P os.toArray q S z ((i, false, ⟨some d, op, ty, pos, af, some (j, b)⟩) :: rest) n l ds w := h_gv hy hS hr h
theorem Zhgn {j : Nat} {b b' : Bool} (h : Wo P os.toArray q S z rest n ((d, undef) :: l) ds w) (hy : ylk os n l j = some (.bool b') := by rfl) (hb : (b' == b) = false := by rfl) (hS : S w := by assumption) : Wo P os.toArray q S z ((i, false, ⟨some d, op, ty, pos, af, some (j, b)⟩) :: rest) n l ds w := h_gn hy hb hS h
theorem Zhgu {j : Nat} {b : Bool} (h : Wo P os.toArray q S z rest n ((d, undef) :: l) ds w) (hy : ylk os n l j = some (.tuple #[]) := by rfl) (hS : S w := by assumption) : Wo P os.toArray q S z ((i, false, ⟨some d, op, ty, pos, af, some (j, b)⟩) :: rest) n l ds w := h_gu hy hS h
/-- Texts joined, a box read whole. -/
theorem Zc {x y : Operand} {p p' : ByteArray} {t t' : TypeId} (h : Wl P ops q restl n ((d, .string (p ++ p')) :: l) ds w) (hx : ev n l x = .string p := by rfl) (hy : ev n l y = .string p' := by rfl) (hb : ((p.size + p'.size : Nat) : Int) ≤ 9223372036854775807 := by (try simp only [ByteArray.size_append, lit_size, List.size_toArray, List.length_cons, List.length_nil]); omega) :
    Wl P ops q (⟨some d, .binOp .add t x y t', ty, pos, af, none⟩ :: restl) n l ds w := s_v (r_cat hx hy hb) h
theorem Zw {t : TypeId} {x : Operand} {b : Nat} {cs : List Value} {T : TypeId} {fz : Nat × Nat} (h : Wl P ops q restl n ((d, .agg cs.toArray) :: l) ds w) (hx : ev n l x = .pointer (some ⟨b, 0, none⟩) := by rfl) (hb : w.heap[b]? = some (.cells cs.toArray T fz) := by assumption) (ht : aggT P t = some true := by rfl) (hn : szT P t = some cs.length := by rfl) :
    Wl P ops q (⟨some d, .load t x, ty, pos, af, none⟩ :: restl) n l ds w := s_v (r_lwb hx hb ht hn) h
/-- As Zr, and these. -/
theorem Zrc {p q : Prop} (x : p) (h : p → q := by first | exact k_nil | exact k_n | exact k_r | exact k_x | exact b_n | exact b_r | exact b_y rfl | exact b_z rfl | exact l_r | exact l_x | exact k_seq | exact k_blk | exact k_reg | exact k_ret | exact k_exit | exact k_skip | exact fun h => Zs h | exact fun h => Zc h | exact fun h => Zw h | exact c_t rfl | exact c_f rfl) : q := h x
end
end Go.Proofs.YtfnbgbeinmekgaaGreatDoor.Fw
namespace Go.Proofs.YtfnbgbeinmekgaaGreatDoor.Pt
open Go Sy Nu
set_option linter.unusedVariables false
def InB (L : List Int) : Prop := ∀ c ∈ L, 0 ≤ c ∧ c < 256
theorem eith_in {c : Int} (h : Tk.eith c = true) : 48 ≤ c ∧ c ≤ 122 := by
  unfold Tk.eith Tk.lett Tk.digi at h
  simp only [Bool.or_eq_true, Bool.and_eq_true, decide_eq_true_eq, beq_iff_eq] at h
  omega
theorem nm_eith {w : List Int} (h : NmW w) : ∀ c ∈ w, Tk.eith c = true := by
  replace h := h.1
  cases w with
  | nil => intro c hc; cases hc
  | cons x r =>
    rw [Tk.body] at h
    split at h
    · have e := congrArg (fun x : Bool × Int × Nat => x.2.2) h
      exact rn_full e
    split at h
    · split at h
      · have := congrArg (fun x : Bool × Int × Nat => x.2.1) h; simp at this
      · cases h
    · split at h
      · cases h
      · have := congrArg (fun x : Bool × Int × Nat => x.2.1) h; simp at this
theorem nm_in {w : List Int} (h : NmW w) : InB w := fun c hc => by have := eith_in (nm_eith h c hc); omega
theorem dc_in (n : Int) : InB (dc n) := fun c hc => by have := dc_chars n c hc; omega
theorem vu_lt : ∀ (w : List Int) (a : Int), 0 ≤ a → (∀ c ∈ w, 48 ≤ c ∧ c ≤ 57) → vu a w + 1 ≤ (a + 1) * ((10 ^ w.length : Nat) : Int) := by
  intro w
  induction w with
  | nil => intro a _ _; simp [vu]
  | cons c r ih =>
    intro a ha hd
    have hc := hd c (by simp)
    have := ih (a * 10 + (c - 48)) (by omega) fun x hx => hd x (by simp [hx])
    refine Int.le_trans this ?_
    rw [List.length_cons, Nat.pow_succ, Nat.mul_comm, Int.natCast_mul, ← Int.mul_assoc]
    exact Int.mul_le_mul_of_nonneg_right (by omega) (Int.natCast_nonneg _)
theorem nu_i64 {n : Int} (h0 : 0 ≤ n) (h : NuW (dc n)) : n < 1000000000000000000 ∧ (dc n).length ≤ 18 := by
  obtain ⟨h1, h2, h3, _⟩ := nu_digits h
  have h4 := vu_lt (dc n) 0 (by omega) h3
  have e : vu 0 (dc n) = n := by rw [dc_pos h0, vu_dcu]; omega
  rw [e] at h4
  refine ⟨?_, h2⟩
  have : (10 : Nat) ^ (dc n).length ≤ 10 ^ 18 := Nat.pow_le_pow_right (by decide) h2
  have e2 : ((10 : Nat) ^ 18 : Nat) = 1000000000000000000 := by decide
  rw [e2] at this
  generalize (10 : Nat) ^ (dc n).length = m at *
  omega
theorem sgs_in {v : Nat} {op : List Int} (hv : v ≤ 4) (h : op ∈ sgs v) : InB op ∧ op.length ≤ 2 ∧ op ≠ [] := by
  have : ∀ v ∈ List.range 5, ∀ op ∈ sgs v, (∀ c ∈ op, 0 ≤ c ∧ c < 256) ∧ op.length ≤ 2 ∧ op ≠ [] := by decide
  exact this v (by simp; omega) _ h
/-- What is put last. -/
def root (lo : Nat) : X → Ex
  | .num n => { k := 1, n := n }
  | .tt => { k := 2 }
  | .ff => { k := 3 }
  | .rd => { k := 7 }
  | .nm w => { k := 4, nm := w }
  | .idx w a => { k := 5, nm := w, a := rt lo a }
  | .call w l => { k := 6, nm := w, l := rts lo l }
  | .un op a => { k := 8, op := op, a := rt lo a }
  | .pr op a b => { k := 9, op := op, a := rt lo a, b := rt (lo + sz a) b }
  | .nil => { k := 0 }
  | .cons _ _ => { k := 0 }
theorem fl_root {x : X} (hx : isX x = true) (lo : Nat) : ∃ pre, fl lo x = pre ++ [root lo x] ∧ pre.length + 1 = sz x := by
  cases x with
  | nil => cases hx
  | cons _ _ => cases hx
  | idx w a => exact ⟨fl lo a, rfl, by rw [fl_len]; rfl⟩
  | call w l => exact ⟨fl lo l, rfl, by rw [fl_len]; rfl⟩
  | un op a => exact ⟨fl lo a, rfl, by rw [fl_len]; rfl⟩
  | pr op a b => exact ⟨fl lo a ++ fl (lo + sz a) b, by simp [fl, root], by rw [List.length_append, fl_len, fl_len]; rfl⟩
  | _ => exact ⟨[], rfl, rfl⟩
/-- The root among what was put. -/
theorem Sg.root {ex : List Ex} {lo : Nat} {x : X} (h : Sg ex lo (fl lo x)) (hx : isX x = true) : ∃ (i : Nat) (z : Ex), rt lo x = (i : Int) ∧ ex[i]? = some z ∧ bx z = root lo x := by
  obtain ⟨pre, e, hl⟩ := fl_root hx lo
  rw [e] at h
  obtain ⟨z, hz, hb⟩ := (h.right (n := pre.length) rfl).at
  exact ⟨lo + pre.length, z, by unfold rt; omega, hz, hb⟩
/-- The elements of a row, each with the place from which it was put. -/
def els (lo : Nat) : X → List (Nat × X)
  | .cons x l => (lo, x) :: els (lo + sz x) l
  | _ => []
theorem rts_els : ∀ (l : X) (lo : Nat), rts lo l = (els lo l).map fun p => rt p.1 p.2 := by
  intro l
  induction l with
  | cons x l _ ih => intro lo; simp [rts, els, ih]
  | _ => intro lo; rfl
theorem eT_els : ∀ (l : X) (lo : Nat), isX l = false → wf l → eT l = jnP ((els lo l).map fun p => eT p.2) := by
  intro l
  induction l with
  | nil => intro lo _ _; rfl
  | cons x l _ ih =>
    intro lo _ h
    have := ih (lo + sz x) h.2.1 h.2.2.2
    cases l with
    | nil => simp [eT, els, jnP, sepC]
    | cons y r =>
      simp only [eT, els, List.map_cons, jnP, sepC] at this ⊢
      rw [this]
      rfl
    | _ => exact absurd h.2.1 (by simp [isX])
  | _ => intro lo h; cases h
theorem els_at : ∀ (l : X) (lo : Nat) {ex : List Ex}, isX l = false → wf l → Sg ex lo (fl lo l) → ∀ p ∈ els lo l, isX p.2 = true ∧ wf p.2 ∧ Sg ex p.1 (fl p.1 p.2) ∧ sz p.2 ≤ sz l := by
  intro l
  induction l with
  | cons x l _ ih =>
    intro lo ex _ h hs p hp
    rcases List.mem_cons.1 hp with rfl | hp
    · exact ⟨h.1, h.2.2.1, hs.left, by simp only [sz]; omega⟩
    · obtain ⟨h1, h2, h3, h4⟩ := ih (lo + sz x) h.2.1 h.2.2.2 (hs.right (fl_len x lo)) p hp
      exact ⟨h1, h2, h3, by simp only [sz]; omega⟩
  | nil => intro lo ex _ _ _ p hp; cases hp
  | _ => intro lo ex h; cases h
theorem els_sz : ∀ (l : X) (lo : Nat), isX l = false → wf l → (els lo l).length ≤ sz l := by
  intro l
  induction l with
  | cons x l _ ih =>
    intro lo _ h
    have := ih (lo + sz x) h.2.1 h.2.2.2
    have := sz_pos h.1
    simp only [els, sz, List.length_cons]; omega
  | nil => intro lo _ _; simp [els]
  | _ => intro lo h; cases h
theorem jnP_len : ∀ (ls : List (List Int)) (m : Nat), (∀ l ∈ ls, l.length ≤ m) → (jnP ls).length ≤ ls.length * (m + 2) := by
  intro ls
  induction ls with
  | nil => intro m _; simp [jnP]
  | cons l r ih =>
    intro m h
    have h1 := h l (by simp)
    have h2 := ih m fun x hx => h x (by simp [hx])
    cases r with
    | nil => simp only [jnP, List.length_cons, List.length_nil]; omega
    | cons y r =>
      simp only [jnP, List.length_append, List.length_cons] at h2 ⊢
      rw [Nat.succ_mul]
      omega
theorem br_len (b : Bool) (t : List Int) : (br b t).length ≤ t.length + 2 := by
  cases b <;> simp [br]
theorem eT_len : ∀ x : X, wf x → (eT x).length + (if isX x then 20 else 0) ≤ sz x * 20100 := by
  intro x
  induction x with
  | num n => intro h; have := (nu_i64 h.1 h.2).2; simp only [eT, sz, isX, if_true]; omega
  | tt => intro _; decide
  | ff => intro _; decide
  | rd => intro _; decide
  | nm w => intro h; have h2 := h.2; simp only [eT, sz, isX, if_true]; omega
  | idx w a ih =>
    intro h
    have := ih h.2.2
    rw [if_pos h.2.1] at this
    have h2 := h.1.2
    simp only [eT, sz, isX, if_true, List.length_append, List.length_cons, List.length_nil]; omega
  | call w l ih =>
    intro h
    have := ih h.2.2
    have h2 := h.1.2
    simp only [eT, sz, isX, if_true, List.length_append, List.length_cons, List.length_nil]; omega
  | un op a ih =>
    intro h
    have := ih h.2.2
    rw [if_pos h.2.1] at this
    have hb := br_len (decide (lvX a < 5)) (eT a)
    have ho : op.length = 1 := by rcases h.1 with rfl | rfl <;> rfl
    simp only [eT, sz, isX, if_true, List.length_append]; omega
  | pr op a b iha ihb =>
    intro h
    obtain ⟨⟨v, hv, ho⟩, h1, h2, h3, h4⟩ := h
    have a1 := iha h3
    have b1 := ihb h4
    rw [if_pos h1] at a1
    rw [if_pos h2] at b1
    have ho := (sgs_in hv ho).2.1
    have hb := br_len (decide (lvX a < lf (lvO op))) (eT a)
    have hc := br_len (decide (lvX b < lvO op + 1)) (eT b)
    simp only [eT, sz, isX, if_true, List.length_append, List.length_cons]; omega
  | nil => intro _; decide
  | cons x l ihx ihl =>
    intro h
    have a1 := ihx h.2.2.1
    have b1 := ihl h.2.2.2
    rw [if_pos h.1] at a1
    have hs : (sepC l).length ≤ 2 := by cases l <;> simp [sepC]
    simp only [eT, sz, isX, List.length_append]
    simp only [h.2.1, Bool.false_eq_true, if_false] at b1
    simp only [Bool.false_eq_true, if_false]; omega
theorem lv_root {x : X} {lo : Nat} {z : Ex} (hx : isX x = true) (h : bx z = root lo x) : (if z.k = 9 then lvO z.op else 5) = lvX x := by
  have hk : z.k = (root lo x).k := (congrArg Ex.k h : (bx z).k = _)
  have ho : z.op = (root lo x).op := (congrArg Ex.op h : (bx z).op = _)
  rw [hk, ho]
  cases x <;> first | rfl | cases hx
theorem in_app {A C : List Int} (h : InB A) (h' : InB C) : InB (A ++ C) := fun c hc => (List.mem_append.1 hc).elim (h c) (h' c)
theorem in_cons {c : Int} {C : List Int} (h : 0 ≤ c ∧ c < 256) (h' : InB C) : InB (c :: C) := fun x hx => (List.mem_cons.1 hx).elim (fun e => e ▸ h) (h' x)
theorem in_br {t : List Int} (b : Bool) (h : InB t) : InB (br b t) := by
  cases b
  · exact h
  · exact in_cons (by omega) (in_app h (in_cons (by omega) fun c hc => by cases hc))
theorem in_lit {l : List Int} (h : (l.all fun c => decide (0 ≤ c) && decide (c < 256)) = true) : InB l := fun c hc => by
  have := List.all_eq_true.1 h c hc
  simpa using this
theorem eT_in : ∀ x : X, wf x → InB (eT x) := by
  intro x
  induction x with
  | num n => intro _; exact dc_in n
  | tt => intro _; exact in_lit rfl
  | ff => intro _; exact in_lit rfl
  | rd => intro _; exact in_lit rfl
  | nm w => intro h; exact nm_in h
  | idx w a ih => intro h; exact in_app (nm_in h.1) (in_cons (by omega) (in_app (ih h.2.2) (in_lit rfl)))
  | call w l ih => intro h; exact in_app (nm_in h.1) (in_cons (by omega) (in_app (ih h.2.2) (in_lit rfl)))
  | un op a ih => intro h; exact in_app (by rcases h.1 with rfl | rfl <;> exact in_lit rfl) (in_br _ (ih h.2.2))
  | pr op a b iha ihb =>
    intro h
    obtain ⟨⟨v, hv, ho⟩, h1, h2, h3, h4⟩ := h
    exact in_app (in_br _ (iha h3)) (in_cons (by omega) (in_app (sgs_in hv ho).1 (in_cons (by omega) (in_br _ (ihb h4)))))
  | nil => intro _; exact in_lit rfl
  | cons x l ihx ihl =>
    intro h
    exact in_app (ihx h.2.2.1) (in_app (by cases l <;> exact in_lit rfl) (ihl h.2.2.2))
end Go.Proofs.YtfnbgbeinmekgaaGreatDoor.Pt
namespace Go.Proofs.YtfnbgbeinmekgaaGreatDoor
open Go Go.RowKit Fw Nu Sy Pt
set_option linter.unusedVariables false
set_option maxRecDepth 20000
namespace Pr
/-- An element's cells, as a load wants them. -/
theorem cellsOf {w : World} {b o n : Nat} {vs : List Value} (hl : vs.length = n) (h : ∀ (j : Nat) (u : Value), vs[j]? = some u → w.cell? ⟨b, o + j, none⟩ = some u) : ∀ j, j < n → w.cell? ⟨b, o + j, none⟩ = vs[j]? := fun j hj => by
  obtain ⟨u, hu⟩ : ∃ u, vs[j]? = some u := ⟨_, List.getElem?_eq_getElem (by omega)⟩
  rw [hu]; exact h j u hu
theorem svB {s : ByteArray} {l : List Int} (h : B s = l) : Value.string s = sv l := by rw [← h, sv_B]
theorem szB {s : ByteArray} {l : List Int} (h : B s = l) : s.size = l.length := by rw [← h, B_len]
/-- A text, of an expression at a place. -/
def EC (S : PS) (x : X) : Prop := ∀ (lo b : Nat) (ux us uf q0 v0 : Value) (w : World), Glob w → Tr w ux us uf S → w.heap[b]? = some (.cells [ux, us, uf, q0, v0].toArray 76 (0, 0)) → Sg S.ex lo (fl lo x) → isX x = true → wf x → sz x ≤ 20001 →
  Ret Tryz.prog 32 [.pointer (some ⟨b, 0, none⟩), .int .i64 (rt lo x)] w fun v w1 => (∃ s, v = .string s ∧ B s = eT x) ∧ Kp No w w1
theorem eT_size {x : X} (h : wf x) (hs : sz x ≤ 20001) : (eT x).length ≤ 402020100 := by
  have := eT_len x h
  split at this <;> omega
theorem levX {x : X} {lo : Nat} {z : Ex} (lv : Value) (w : World) (hg : Glob w) (hx : isX x = true) (hw : wf x) (hb : bx z = root lo x) :
    Ret Tryz.prog 94 [.agg (exC (z, lv)).toArray] w fun r w1 => r = .int .i64 (lvX x : Int) ∧ Kp No w w1 := by
  refine Ret.mono (levelF z lv w hg fun hk => ?_) fun r w1 h => ⟨by rw [h.1]; unfold lvE; rw [lv_root hx hb], h.2⟩
  have h1 : (root lo x).k = 9 := by rw [← hb]; exact hk
  have h2 : z.op = (root lo x).op := (congrArg Ex.op hb : (bx z).op = _)
  rw [h2]
  cases x with
  | pr op a b => exact hw.1
  | _ => exact absurd h1 (by simp [root])
theorem partF {S : PS} {a : X} (hE : EC S a) (n : Nat) (nI : Int) (hnI : nI = (n : Int)) (lo b : Nat) (ux us uf q0 v0 : Value) (w : World) (hg : Glob w) (ht : Tr w ux us uf S) (hbk : w.heap[b]? = some (.cells [ux, us, uf, q0, v0].toArray 76 (0, 0))) (hs : Sg S.ex lo (fl lo a)) (hx : isX a = true) (hw : wf a) (hz : sz a ≤ 20001) :
    Ret Tryz.prog 64 [.pointer (some ⟨b, 0, none⟩), .int .i64 (rt lo a), .int .i64 nI] w fun v w1 => (∃ s, v = .string s ∧ B s = br (decide (lvX a < n)) (eT a)) ∧ Kp No w w1 := by
  obtain ⟨i, z, hi, hzi, hb⟩ := hs.root hx
  have hil := (List.getElem?_eq_some_iff.1 hzi).1
  obtain ⟨xa, sa, fa, xc, sc, fc, rfl, rfl, rfl⟩ := ht.val
  obtain ⟨g, lv, rfl, _, hc⟩ := ht.ex hzi
  have hsz := eT_size hw hz
  refine ret_enter Tryz.func64 rfl Tryz.ntmps64 rfl ?_
  (repeat refine Zr ?_)
  rw [hi]
  refine s_v (r_ia (size := 9) rfl rfl rfl rfl (by omega) (by omega)) ?_
  refine s_v (r_lda (vs := exC (z, lv)) rfl rfl rfl rfl (cellsOf rfl hc)) ?_
  refine s_call (us := []) (zs := []) (by kernel_rfl) rfl rfl (levX lv w hg hx hw hb) ?_
  rintro _ w1 ⟨rfl, k1⟩
  have hE1 := hE lo b _ _ _ q0 v0 w1 (hg.kp k1) (ht.kp k1) (k1.get0 hbk) hs hx hw hz
  rw [hi] at hE1
  (repeat refine Zr ?_)
  refine c_dec rfl (fun hlt => ?_) (fun hge => ?_)
  · (repeat refine Zr ?_)
    refine s_call (us := []) (zs := []) (by kernel_rfl) rfl rfl hE1 ?_
    rintro _ w2 ⟨⟨s, rfl, hB⟩, k2⟩
    have h1 : (ByteArray.mk #[40]).size = 1 := rfl
    have h2 : (ByteArray.mk #[41]).size = 1 := rfl
    have h3 := szB hB
    (repeat refine Zr ?_)
    refine s_v (r_cat rfl rfl (by omega)) ?_
    refine s_v (r_cat rfl rfl (by rw [ByteArray.size_append]; omega)) ?_
    (repeat refine Zr ?_)
    refine ret_1 rfl rfl ⟨⟨_, rfl, ?_⟩, k1.no k2⟩
    rw [B_append, B_append, hB, decide_eq_true (by omega : lvX a < n)]
    rfl
  · (repeat refine Zr ?_)
    refine s_call (us := []) (zs := []) (by kernel_rfl) rfl rfl hE1 ?_
    rintro _ w2 ⟨⟨s, rfl, hB⟩, k2⟩
    (repeat refine Zr ?_)
    refine ret_1 rfl rfl ⟨⟨_, rfl, ?_⟩, k1.no k2⟩
    rw [hB, decide_eq_false (by omega : ¬ lvX a < n)]
    rfl
end Pr
end Go.Proofs.YtfnbgbeinmekgaaGreatDoor
namespace Go.Proofs.YtfnbgbeinmekgaaGreatDoor
open Go Go.RowKit Fw Nu Sy Pt
set_option linter.unusedVariables false
set_option maxRecDepth 20000
namespace Pr
theorem LI.at {w : World} {v : Value} {l : List Int} (h : LI w v l) : ∃ a c, v = .slice a l.length c ∧ ∀ (j : Nat) x, l[j]? = some x → ∃ g, a = some ⟨g, 0, none⟩ ∧ w.cell? ⟨g, 0 + (j : Int).toNat * 1, none⟩ = some (.int .i64 x) := by
  obtain ⟨a, c, e, _, h0, hc⟩ := own_read h
  refine ⟨a, c, e, fun j x hj => ?_⟩
  have hjl := (List.getElem?_eq_some_iff.1 hj).1
  cases a with
  | none => have := h0 rfl; omega
  | some ad =>
    obtain ⟨g, rfl, _, _, hcell⟩ := hc _ rfl
    exact ⟨g, rfl, by rw [Nat.mul_one]; exact hcell _ _ (by rw [Int.toNat_natCast, List.getElem?_map, hj]; rfl)⟩
set_option maxHeartbeats 1000000 in
theorem rowF {S : PS} {l : X} (lo : Nat) (hE : ∀ p ∈ els lo l, EC S p.2) (b : Nat) (ux us uf q0 v0 vl : Value) (w : World) (hg : Glob w) (ht : Tr w ux us uf S) (hbk : w.heap[b]? = some (.cells [ux, us, uf, q0, v0].toArray 76 (0, 0))) (hs : Sg S.ex lo (fl lo l)) (hx : isX l = false) (hw : wf l) (hz : sz l ≤ 20001) (hl : LI w vl (rts lo l)) :
    Ret Tryz.prog 63 [.pointer (some ⟨b, 0, none⟩), vl] w fun v w1 => (∃ s, v = .string s ∧ B s = eT l) ∧ Kp No w w1 := by
  obtain ⟨L, hL⟩ : ∃ L, els lo l = L := ⟨_, rfl⟩
  have hat := els_at l lo hx hw hs
  have hn := els_sz l lo hx hw
  have hT := eT_els l lo hx hw
  rw [hL] at hat hn hT hE
  rw [rts_els, hL] at hl
  obtain ⟨a, c, rfl, hcl⟩ := LI.at hl
  rw [List.length_map]
  have hLn : L.length ≤ 20001 := by omega
  refine ret_enter Tryz.func63 rfl Tryz.ntmps63 rfl ?_
  (repeat refine Zr ?_)
  refine k_loop (σ := Nat × Option Addr × Nat) (fun s => [(0, .pointer (some ⟨b, 0, none⟩)), (5, .slice s.2.1 s.1 s.2.2), (8, .slice a L.length c), (9, .int .i64 (L.length : Int)), (10, .int .i64 (s.1 : Int))])
    (fun s m => s.1 ≤ L.length ∧ Kp No w m ∧ m.ownsRow w.heap.size 9 1 (.slice s.2.1 s.1 s.2.2) s.1 ((L.take s.1).map fun p => sv (eT p.2))) (fun s => L.length - s.1) (0, none, 0) ⟨rfl, rfl, rfl, rfl, rfl, trivial⟩ ⟨Nat.zero_le _, Kp.refl _ _, rfl, .inl ⟨rfl, rfl⟩⟩ ?_
  rintro ⟨j, oa, oc⟩ lr m ⟨hj, km, own⟩
  simp only at hj own
  (repeat refine Zr ?_)
  refine c_dec rfl (fun hlt => ?_) (fun hge => ?_)
  · obtain ⟨p, hp⟩ : ∃ p, L[j]? = some p := ⟨_, List.getElem?_eq_getElem (by omega)⟩
    have hpm := List.mem_of_getElem? hp
    obtain ⟨p1, p2, p3, p4⟩ := hat p hpm
    obtain ⟨g, rfl, hcell⟩ := hcl j (rt p.1 p.2) (by rw [List.getElem?_map, hp]; rfl)
    have hcell := km.cell0 hcell
    have hE1 := hE p hpm p.1 b ux us uf q0 v0 m (hg.kp km) (ht.kp km) (km.get0 hbk) p3 p1 p2 (by omega)
    (repeat refine Zr ?_)
    refine s_v (r_ia (i := j) rfl rfl rfl rfl (by omega) (by omega)) ?_
    (repeat refine Zr ?_)
    refine s_call (us := []) (zs := []) (by kernel_rfl) rfl rfl hE1 ?_
    rintro _ m2 ⟨⟨s, rfl, hB⟩, k2⟩
    (repeat refine Zr ?_)
    refine s_bs (cs := [.string s]) (e := 9) rfl (fun b3 m3 n3 => ?_)
    have own3 := own_kp own (k2.no n3.kp) (fun _ _ => id)
    have z := ((km.no k2).no n3.kp).size
    refine s_app (size := 1) (bytes := 16) (base := w.heap.size) (news := [.string s]) rfl rfl rfl rfl rfl rfl rfl rfl own3 rfl (blk_cells n3.blk) rfl rfl (by omega) (by omega) (by omega) ?_
    rintro v m4 ⟨own4, k4, _, _⟩
    have own5 := own4
    obtain ⟨a', c', rfl, _, _, _⟩ := own_read own4
    (repeat refine Zr ?_)
    refine l_next (j + 1, a', c') ⟨rfl, rfl, rfl, rfl, rfl, trivial⟩ ⟨by simp only; omega, ((km.no k2).no n3.kp).trans k4 (fun i hi e => by have := (own_lt own3 e.symm).1; omega), ?_⟩ (by simp only; omega)
    simp only
    rw [List.take_add_one, hp, Option.toList_some, List.map_append]
    have : (List.map (fun p : Nat × X => sv (eT p.2)) [p]) = [Value.string s] := by rw [svB hB]; rfl
    rw [this]
    exact own5
  · obtain rfl : j = L.length := by omega
    rw [List.take_length] at own
    obtain ⟨a', c', e, hcc, h0, hc⟩ := own_read own
    simp only [Value.slice.injEq, true_and] at e
    obtain ⟨rfl, rfl⟩ := e
    have hmap : (L.map fun p => strOfNums (eT p.2)).map B = L.map fun p => eT p.2 := by
      rw [List.map_map]
      exact List.map_congr_left fun p hp => B_nums (eT_in p.2 (hat p hp).2.1)
    have hlen : (L.map fun p => strOfNums (eT p.2)).length = L.length := List.length_map _
    have hJ := Join (L.map fun p => strOfNums (eT p.2)) oa oc m (fun j x hx => by
      have hjl := (List.getElem?_eq_some_iff.1 hx).1
      rw [hlen] at hjl
      rw [List.getElem?_map, Option.map_eq_some_iff] at hx
      obtain ⟨p, hp, rfl⟩ := hx
      cases oa with
      | none => have := h0 rfl; omega
      | some ad =>
        obtain ⟨g, rfl, _, hgb, hcell⟩ := hc _ rfl
        exact ⟨g, rfl, (own_lt own rfl).2, hcell _ _ (by rw [List.getElem?_map, hp]; rfl)⟩) (by omega) (by rw [hlen]; exact hcc) (by
      rw [hmap]
      have := jnP_len (L.map fun p => eT p.2) 402020100 (fun t ht => by
        obtain ⟨p, hp, rfl⟩ := List.mem_map.1 ht
        exact eT_size (hat p hp).2.1 (by have := (hat p hp).2.2.2; omega))
      rw [List.length_map] at this
      refine Nat.le_trans this (Nat.le_trans (Nat.mul_le_mul_right _ hLn) ?_)
      decide)
    rw [hmap, hlen, ← hT] at hJ
    (repeat refine Zr ?_)
    refine s_call (us := []) (zs := []) (by kernel_rfl) rfl rfl hJ ?_
    rintro _ m2 ⟨⟨s, rfl, hB⟩, k2⟩
    (repeat refine Zr ?_)
    exact ret_1 rfl rfl ⟨⟨_, rfl, hB⟩, km.no k2⟩
end Pr
end Go.Proofs.YtfnbgbeinmekgaaGreatDoor
namespace Go.Proofs.YtfnbgbeinmekgaaGreatDoor
open Go Go.RowKit Fw Nu Sy Pt
set_option linter.unusedVariables false
set_option maxRecDepth 20000
namespace Pr
theorem opB {v : Nat} {op : List Int} (hv : v ≤ 4) (h : op ∈ sgs v) : B (strOfNums op) = op ∧ (strOfNums op).size ≤ 2 := by
  obtain ⟨h1, h2, _⟩ := sgs_in hv h
  exact ⟨B_nums h1, by rw [strOfNums_size]; exact h2⟩
set_option maxHeartbeats 1000000 in
theorem pairF {S : PS} {op : List Int} {x y : X} (hEx : EC S x) (hEy : EC S y) (lo b : Nat) (ux us uf q0 v0 lv : Value) (z : Ex) (w : World) (hg : Glob w) (ht : Tr w ux us uf S) (hbk : w.heap[b]? = some (.cells [ux, us, uf, q0, v0].toArray 76 (0, 0)))
    (hs : Sg S.ex lo (fl lo (.pr op x y))) (hw : wf (.pr op x y)) (hz : sz (.pr op x y) ≤ 20001) (hb : bx z = root lo (.pr op x y)) :
    Ret Tryz.prog 65 [.pointer (some ⟨b, 0, none⟩), .agg (exC (z, lv)).toArray] w fun v w1 => (∃ s, v = .string s ∧ B s = eT (.pr op x y)) ∧ Kp No w w1 := by
  have hL := levX lv (x := .pr op x y) (hb := hb) (hx := rfl) (hw := hw)
  obtain ⟨⟨v, hv, ho⟩, hx1, hx2, hw1, hw2⟩ := hw
  have hlo : lvO op = v := lvO_of hv ho
  have hlx : lvX (.pr op x y) = v := hlo
  rw [hlx] at hL
  obtain ⟨hoB, hoz⟩ := opB hv ho
  have hs1 : Sg S.ex lo (fl lo x) := hs.left
  have hs2 : Sg S.ex (lo + sz x) (fl (lo + sz x) y) := (hs.right (fl_len x lo)).left
  have z1 : sz x ≤ 20001 := by simp only [sz] at hz; omega
  have z2 : sz y ≤ 20001 := by simp only [sz] at hz; omega
  have t1 := eT_size hw1 z1
  have t2 := eT_size hw2 z2
  have ha : z.a = rt lo x := (congrArg Ex.a hb : (bx z).a = _)
  have hb' : z.b = rt (lo + sz x) y := (congrArg Ex.b hb : (bx z).b = _)
  have hop : z.op = op := (congrArg Ex.op hb : (bx z).op = _)
  refine ret_enter Tryz.func65 rfl Tryz.ntmps65 rfl ?_
  (repeat refine Zr ?_)
  refine s_box (cs := exC (z, lv)) rfl rfl (fun b1 w1 n1 => ?_)
  have e0 : w1.heap[b1]? = some (.cells (exC (z, lv)).toArray 67 (0, 0)) := n1.blk
  have e1 : w1.heap[b1]? = some (.cells [.int .i64 z.k, .int .i64 z.f, .int .i64 z.e, .int .i64 z.n, sv z.nm, .string (strOfNums op), .int .i64 (rt lo x), .int .i64 (rt (lo + sz x) y), lv].toArray 67 (0, 0)) := by rw [← ha, ← hb', ← hop]; exact n1.blk
  (repeat refine Zr ?_)
  refine s_v (r_lwb rfl e0 rfl rfl) ?_
  refine s_call (us := []) (zs := []) (by kernel_rfl) rfl rfl (hL w1 (hg.kp n1.kp)) ?_
  rintro _ w2 ⟨rfl, k2⟩
  have e2 := k2.get0 e1
  have kw2 := n1.kp.no k2
  (repeat refine Zr ?_)
  have hlf : (lf v : Int) = if v = 2 then (v : Int) + 1 else v := by unfold lf; split <;> omega
  refine k_cutc (σ := Unit) (fun _ => [(0, .pointer (some ⟨b, 0, none⟩)), (3, .pointer (some ⟨b1, 0, none⟩)), (5, .int .i64 (v : Int)), (6, .int .i64 (lf v : Int))]) (fun _ m => Kp No w2 m) ?_ ?_
  · refine c_eq rfl (fun q => ?_) (fun q => ?_)
    · (repeat refine Zr ?_)
      refine l_cut () ⟨rfl, rfl, rfl, ?_, trivial⟩ (Kp.refl _ _)
      show Value.int .i64 ((v : Int) + 1) = _
      rw [hlf, if_pos (by omega)]
    · (repeat refine Zr ?_)
      refine l_cut () ⟨rfl, rfl, rfl, ?_, trivial⟩ (Kp.refl _ _)
      show Value.int .i64 (v : Int) = _
      rw [hlf, if_neg (by omega)]
  rintro _ lr m km
  have e3 := km.get0 e2
  (repeat refine Zr ?_)
  refine k_h (fun w' => Kp No m w') [(0, false), (1, false), (2, false), (3, false), (6, false), (7, false), (10, false), (11, false), (12, false), (13, false), (14, false), (4, true), (5, false), (8, false), (9, false), (15, true), (16, false), (17, false)] 18 (by kernel_rfl) (by exact waits_none) (by kernel_rfl) (by kernel_rfl) rfl rfl (fun m1 k1 _ => ?_)
  have hd := fun (w' : World) (hw : Kp No m w') => hw.get0 e3
  (repeat (first | refine Zhq ?_ | refine Zhgn ?_ | refine Zhgu ?_ | refine Zhgv ?_))
  have g1 := (hg.kp kw2).kp (km.no k1)
  have r1 := (ht.kp kw2).kp (km.no k1)
  refine h_call (us := []) (zs := []) (by kernel_rfl) rfl rfl (partF hEx (lf v) _ rfl lo b ux us uf q0 v0 m1 g1 r1 ((km.no k1).get0 (kw2.get0 hbk)) hs1 hx1 hw1 z1) ?_
  rintro _ m2 ⟨⟨s1, rfl, hB1⟩, k2⟩
  have k12 := k1.no k2
  have b1l := br_len (decide (lvX x < lf v)) (eT x)
  have s1z := szB hB1
  refine ⟨fun _ => k12, ?_⟩
  (repeat (first | refine Zhq ?_ | refine Zhgn ?_ | refine Zhgu ?_ | refine Zhgv ?_))
  refine h_call (us := []) (zs := []) (by kernel_rfl) rfl rfl (partF hEy (v + 1) ((v : Int) + 1) (by omega) (lo + sz x) b ux us uf q0 v0 m2 (g1.kp k2) (r1.kp k2) ((km.no k12).get0 (kw2.get0 hbk)) hs2 hx2 hw2 z2) ?_
  rintro _ m3 ⟨⟨s2, rfl, hB2⟩, k3⟩
  have k13 := k12.no k3
  have b2l := br_len (decide (lvX y < v + 1)) (eT y)
  have s2z := szB hB2
  refine ⟨fun _ => k13, ?_⟩
  (repeat (first | refine Zhq ?_ | refine Zhgn ?_ | refine Zhgu ?_ | refine Zhgv ?_))
  refine h_nil ?_
  (repeat refine Zr ?_)
  refine ret_1 rfl rfl ⟨⟨_, rfl, ?_⟩, (kw2.no km).no k13⟩
  simp only [B_append, hB1, hB2, hoB, eT, hlo]
  simp [B]
end Pr
end Go.Proofs.YtfnbgbeinmekgaaGreatDoor
namespace Go.Proofs.YtfnbgbeinmekgaaGreatDoor
open Go Go.RowKit Fw Nu Sy Pt
set_option linter.unusedVariables false
set_option maxRecDepth 20000
namespace Pr
/-- What is known of the parts. -/
def Sub (S : PS) : X → Prop
  | .idx _ a => EC S a
  | .call _ l => ∀ lo, ∀ p ∈ els lo l, EC S p.2
  | .un _ a => EC S a
  | .pr _ a b => EC S a ∧ EC S b
  | _ => True
theorem nmB {w : List Int} (h : NmW w) : B (strOfNums w) = w ∧ (strOfNums w).size ≤ 20000 := ⟨B_nums (nm_in h), by rw [strOfNums_size]; exact h.2⟩
set_option maxHeartbeats 4000000 in
theorem exprF {S : PS} {x : X} (hE : Sub S x) : EC S x := by
  intro lo b ux us uf q0 v0 w hg ht hbk hs hx hw hz
  obtain ⟨i, z, hi, hzi, hb⟩ := hs.root hx
  have hil := (List.getElem?_eq_some_iff.1 hzi).1
  obtain ⟨xa, sa, fa, xc, sc, fc, rfl, rfl, rfl⟩ := ht.val
  obtain ⟨g, lv, rfl, hl, hc⟩ := ht.ex hzi
  have hsz := eT_size hw hz
  have hk : z.k = (root lo x).k := (congrArg Ex.k hb : (bx z).k = _)
  have hn : z.n = (root lo x).n := (congrArg Ex.n hb : (bx z).n = _)
  have hnm : z.nm = (root lo x).nm := (congrArg Ex.nm hb : (bx z).nm = _)
  have hop : z.op = (root lo x).op := (congrArg Ex.op hb : (bx z).op = _)
  have ha : z.a = (root lo x).a := (congrArg Ex.a hb : (bx z).a = _)
  have hlx : z.l = (root lo x).l := (congrArg Ex.l hb : (bx z).l = _)
  obtain ⟨la, lc, rfl⟩ := Sy.LI.val hl
  obtain ⟨lv, hlv⟩ : ∃ lv, Value.slice la z.l.length lc = lv := ⟨_, rfl⟩
  have h1c : (exC (z, lv)).all Value.oneCell' = true := by rw [← hlv]; rfl
  rw [hlv] at hl hc
  rw [hlx] at hl
  refine ret_enter Tryz.func32 rfl Tryz.ntmps32 rfl ?_
  (repeat refine Zr ?_)
  rw [hi]
  refine s_v (r_ia (size := 9) rfl rfl rfl rfl (by omega) (by omega)) ?_
  refine s_v (r_lda (vs := exC (z, lv)) rfl rfl rfl rfl (cellsOf rfl hc)) ?_
  refine s_al rfl (fun b1 w1 n1 => ?_)
  have g1 := n1.ge
  refine s_st (vs := exC (z, lv)) rfl rfl rfl rfl h1c n1.blk (Nat.le_of_ble_eq_true rfl) (fun w2 s2 => ?_)
  have k2 : Kp No w w2 := n1.kp.trans s2.kp (fun _ _ e => by omega)
  have e0 : w2.heap[b1]? = some (.cells (exC (z, lv)).toArray 67 (0, 0)) := s2.blk
  have e1 : w2.heap[b1]? = some (.cells [.int .i64 (root lo x).k, .int .i64 z.f, .int .i64 z.e, .int .i64 (root lo x).n, .string (strOfNums (root lo x).nm), .string (strOfNums (root lo x).op), .int .i64 (root lo x).a, .int .i64 z.b, lv].toArray 67 (0, 0)) := by rw [← hk, ← hn, ← hnm, ← hop, ← ha]; exact e0
  clear hk hn hnm hop ha
  have gl2 := hg.kp k2
  have tr2 := ht.kp k2
  have bk2 := k2.get0 hbk
  cases x with
  | nil => cases hx
  | cons _ _ => cases hx
  | num n =>
    have hn := nu_i64 hw.1 hw.2
    have h0 := hw.1
    (repeat refine Zrc ?_)
    refine s_call (us := []) (zs := []) (by kernel_rfl) rfl rfl (Itoa n w2 gl2 (by unfold I64; omega)) ?_
    rintro _ w3 ⟨⟨s, rfl, hB⟩, k3⟩
    (repeat refine Zrc ?_)
    exact ret_1 rfl rfl ⟨⟨_, rfl, hB⟩, k2.no k3⟩
  | tt =>
    (repeat refine Zrc ?_)
    exact ret_1 rfl rfl ⟨⟨_, rfl, rfl⟩, k2⟩
  | ff =>
    (repeat refine Zrc ?_)
    exact ret_1 rfl rfl ⟨⟨_, rfl, rfl⟩, k2⟩
  | rd =>
    (repeat refine Zrc ?_)
    exact ret_1 rfl rfl ⟨⟨_, rfl, rfl⟩, k2⟩
  | nm nw =>
    (repeat refine Zrc ?_)
    exact ret_1 rfl rfl ⟨⟨_, rfl, (nmB hw).1⟩, k2⟩
  | idx nw a =>
    obtain ⟨hnw, hxa, hwa⟩ := hw
    have hnB := nmB hnw
    have hza : sz a ≤ 20001 := by simp only [sz] at hz; omega
    have hta := eT_size hwa hza
    (repeat refine Zrc ?_)
    refine k_h (fun w' => Kp No w2 w') [(0, false), (1, false), (2, false), (3, false), (4, false), (5, false), (6, true), (7, false), (8, false), (9, false)] 10 (by kernel_rfl) (by exact waits_none) (by kernel_rfl) (by kernel_rfl) rfl rfl (fun m1 k1 _ => ?_)
    have hd := fun (w' : World) (hw : Kp No w2 w') => hw.get0 e1
    have hnz : (strOfNums (root lo (.idx nw a)).nm).size ≤ 20000 := hnB.2
    (repeat (first | refine Zhq ?_ | refine Zhgn ?_ | refine Zhgu ?_ | refine Zhgv ?_))
    refine h_call (us := []) (zs := []) (by kernel_rfl) rfl rfl (hE lo b _ _ _ q0 v0 m1 (gl2.kp k1) (tr2.kp k1) (k1.get0 bk2) hs.left hxa hwa hza) ?_
    rintro _ m2 ⟨⟨s, rfl, hB⟩, k3⟩
    have k13 := k1.no k3
    have hsz2 := szB hB
    refine ⟨fun _ => k13, ?_⟩
    (repeat (first | refine Zhq ?_ | refine Zhgn ?_ | refine Zhgu ?_ | refine Zhgv ?_))
    refine h_nil ?_
    (repeat refine Zr ?_)
    refine ret_1 rfl rfl ⟨⟨_, rfl, ?_⟩, k2.no k13⟩
    have hnn : B (strOfNums (root lo (.idx nw a)).nm) = nw := hnB.1
    simp only [B_append, hB, hnn, eT]
    simp [B]
  | call nw l =>
    obtain ⟨hnw, hxa, hwa⟩ := hw
    have hnB := nmB hnw
    have hza : sz l ≤ 20001 := by simp only [sz] at hz; omega
    have hta := eT_size hwa hza
    (repeat refine Zrc ?_)
    refine k_h (fun w' => Kp No w2 w') [(0, false), (1, false), (2, false), (3, false), (4, false), (5, false), (6, true), (7, false), (8, false), (9, false)] 10 (by kernel_rfl) (by exact waits_none) (by kernel_rfl) (by kernel_rfl) rfl rfl (fun m1 k1 _ => ?_)
    have hd := fun (w' : World) (hw : Kp No w2 w') => hw.get0 e1
    have hnz : (strOfNums (root lo (.call nw l)).nm).size ≤ 20000 := hnB.2
    subst hlv
    (repeat (first | refine Zhq ?_ | refine Zhgn ?_ | refine Zhgu ?_ | refine Zhgv ?_))
    refine h_call (us := []) (zs := []) (by kernel_rfl) rfl rfl (rowF lo (hE lo) b _ _ _ q0 v0 _ m1 (gl2.kp k1) (tr2.kp k1) (k1.get0 bk2) hs.left hxa hwa hza (own_kp hl (k2.no k1) fun _ _ h => h)) ?_
    rintro _ m2 ⟨⟨s, rfl, hB⟩, k3⟩
    have k13 := k1.no k3
    have hsz2 := szB hB
    refine ⟨fun _ => k13, ?_⟩
    (repeat (first | refine Zhq ?_ | refine Zhgn ?_ | refine Zhgu ?_ | refine Zhgv ?_))
    refine h_nil ?_
    (repeat refine Zr ?_)
    refine ret_1 rfl rfl ⟨⟨_, rfl, ?_⟩, k2.no k13⟩
    have hnn : B (strOfNums (root lo (.call nw l)).nm) = nw := hnB.1
    simp only [B_append, hB, hnn, eT]
    simp [B]
  | un op a =>
    obtain ⟨ho, hxa, hwa⟩ := hw
    have hnB : B (strOfNums op) = op ∧ (strOfNums op).size ≤ 1 := by rcases ho with rfl | rfl <;> exact ⟨rfl, Nat.le_refl _⟩
    have hza : sz a ≤ 20001 := by simp only [sz] at hz; omega
    have hta := eT_size hwa hza
    (repeat refine Zrc ?_)
    refine k_h (fun w' => Kp No w2 w') [(0, false), (1, false), (2, false), (3, false), (4, false), (5, true), (6, false), (7, false)] 8 (by kernel_rfl) (by exact waits_none) (by kernel_rfl) (by kernel_rfl) rfl rfl (fun m1 k1 _ => ?_)
    have hd := fun (w' : World) (hw : Kp No w2 w') => hw.get0 e1
    have hnz : (strOfNums (root lo (.un op a)).op).size ≤ 1 := hnB.2
    (repeat (first | refine Zhq ?_ | refine Zhgn ?_ | refine Zhgu ?_ | refine Zhgv ?_))
    refine h_call (us := []) (zs := []) (by kernel_rfl) rfl rfl (partF hE 5 5 rfl lo b _ _ _ q0 v0 m1 (gl2.kp k1) (tr2.kp k1) (k1.get0 bk2) hs.left hxa hwa hza) ?_
    rintro _ m2 ⟨⟨s, rfl, hB⟩, k3⟩
    have k13 := k1.no k3
    have hbl := br_len (decide (lvX a < 5)) (eT a)
    have hsz2 := szB hB
    refine ⟨fun _ => k13, ?_⟩
    (repeat (first | refine Zhq ?_ | refine Zhgn ?_ | refine Zhgu ?_ | refine Zhgv ?_))
    refine h_nil ?_
    (repeat refine Zr ?_)
    refine ret_1 rfl rfl ⟨⟨_, rfl, ?_⟩, k2.no k13⟩
    have hnn : B (strOfNums (root lo (.un op a)).op) = op := hnB.1
    simp only [B_append, hB, hnn, eT]
  | pr op a c =>
    (repeat (first | refine Zr ?_ | refine c_t rfl ?_ | refine c_f rfl ?_))
    refine s_v (r_lwb rfl e0 rfl rfl) ?_
    refine s_call (us := []) (zs := []) (by kernel_rfl) rfl rfl (pairF hE.1 hE.2 lo b _ _ _ q0 v0 lv z w2 gl2 tr2 bk2 hs hw hz hb) ?_
    rintro _ w3 ⟨⟨s, rfl, hB⟩, k3⟩
    (repeat refine Zr ?_)
    exact ret_1 rfl rfl ⟨⟨_, rfl, hB⟩, k2.no k3⟩
/-- Of any expression. -/
theorem exprA {S : PS} : ∀ x : X, EC S x ∧ ∀ lo, ∀ p ∈ els lo x, EC S p.2 := by
  intro x
  have no : ∀ {y : X}, isX y = false → EC S y := fun h lo b ux us uf q0 v0 w _ _ _ _ hx => by rw [h] at hx; cases hx
  induction x with
  | idx w a ih => exact ⟨exprF ih.1, fun lo p hp => by cases hp⟩
  | call w l ih => exact ⟨exprF ih.2, fun lo p hp => by cases hp⟩
  | un op a ih => exact ⟨exprF ih.1, fun lo p hp => by cases hp⟩
  | pr op a b iha ihb => exact ⟨exprF ⟨iha.1, ihb.1⟩, fun lo p hp => by cases hp⟩
  | nil => exact ⟨no rfl, fun lo p hp => by cases hp⟩
  | cons a l iha ihl =>
    refine ⟨no rfl, fun lo p hp => ?_⟩
    rcases List.mem_cons.1 hp with rfl | hp
    · exact iha.1
    · exact ihl.2 _ p hp
  | _ => exact ⟨exprF trivial, fun lo p hp => by cases hp⟩
end Pr
end Go.Proofs.YtfnbgbeinmekgaaGreatDoor
namespace Go.Proofs.YtfnbgbeinmekgaaGreatDoor.Pt
open Go Sy Nu
set_option linter.unusedVariables false
/-- Statements lie there. -/
def SgY (st : List St) (ls : Nat) (ys : List St) : Prop := ∃ r, (st.map bs).drop ls = ys ++ r
theorem SgY.left {st : List St} {ls : Nat} {a b : List St} (h : SgY st ls (a ++ b)) : SgY st ls a := by
  obtain ⟨r, h⟩ := h
  exact ⟨b ++ r, by rw [h, List.append_assoc]⟩
theorem SgY.right {st : List St} {ls : Nat} {a b : List St} (h : SgY st ls (a ++ b)) {n : Nat} (hn : a.length = n) : SgY st (ls + n) b := by
  obtain ⟨r, h⟩ := h
  refine ⟨r, ?_⟩
  rw [← List.drop_drop, h, List.append_assoc, ← hn, List.drop_left]
theorem SgY.at {st : List St} {ls : Nat} {y : St} {r : List St} (h : SgY st ls (y :: r)) : ∃ z, st[ls]? = some z ∧ bs z = y := by
  obtain ⟨r', h⟩ := h
  have : ((st.map bs).drop ls)[0]? = some y := by rw [h]; rfl
  rw [List.getElem?_drop, Nat.add_zero, List.getElem?_map] at this
  obtain ⟨z, hz, e⟩ := Option.map_eq_some_iff.1 this
  exact ⟨z, hz, e⟩
theorem Sg.le {ex : List Ex} {lo : Nat} {x : X} (h : Sg ex lo (fl lo x)) : sz x ≤ ex.length := by
  obtain ⟨r, h⟩ := h
  have := congrArg List.length h
  rw [List.length_drop, List.length_map, List.length_append, fl_len] at this
  omega
def rootY (lo ls : Nat) : Y → St
  | .svar w x => { k := 1, nm := w, a := rt lo x }
  | .sarr w n => { k := 2, nm := w, n := n }
  | .sset w x => { k := 3, nm := w, a := rt lo x }
  | .sput w x y => { k := 4, nm := w, a := rt lo x, b := rt (lo + sz x) y }
  | .sif x th el => { k := 5, a := rt lo x, th := rys ls th, el := rys (ls + zy th) el }
  | .swh x th => { k := 6, a := rt lo x, th := rys ls th }
  | .brk => { k := 7 }
  | .cnt => { k := 8 }
  | .ret0 => { k := 9, a := -1 }
  | .ret x => { k := 9, a := rt lo x }
  | .prn x => { k := 10, a := rt lo x }
  | .scl x => { k := 11, a := rt lo x }
  | .nil => { k := 0 }
  | .cons _ _ => { k := 0 }
theorem fy_root {y : Y} (hy : isY y = true) (lo ls : Nat) : ∃ pre, fy lo ls y = pre ++ [rootY lo ls y] ∧ pre.length + 1 = zy y := by
  cases y with
  | nil => cases hy
  | cons _ _ => cases hy
  | sif x th el => exact ⟨fy (lo + sz x) ls th ++ fy (lo + sz x + zx th) (ls + zy th) el, by simp [fy, rootY], by rw [List.length_append, fy_len, fy_len]; rfl⟩
  | swh x th => exact ⟨fy (lo + sz x) ls th, rfl, by rw [fy_len]; rfl⟩
  | _ => exact ⟨[], rfl, rfl⟩
theorem SgY.root {st : List St} {lo ls : Nat} {y : Y} (h : SgY st ls (fy lo ls y)) (hy : isY y = true) : ∃ (i : Nat) (z : St), ry ls y = (i : Int) ∧ st[i]? = some z ∧ bs z = rootY lo ls y := by
  obtain ⟨pre, e, hl⟩ := fy_root hy lo ls
  rw [e] at h
  obtain ⟨z, hz, hb⟩ := (h.right (n := pre.length) rfl).at
  exact ⟨ls + pre.length, z, by unfold ry; omega, hz, hb⟩
def elsY (lo ls : Nat) : Y → List (Nat × Nat × Y)
  | .cons s l => (lo, ls, s) :: elsY (lo + zx s) (ls + zy s) l
  | _ => []
theorem rys_els : ∀ (l : Y) (lo ls : Nat), rys ls l = (elsY lo ls l).map fun p => ry p.2.1 p.2.2 := by
  intro l
  induction l with
  | cons s l _ ih => intro lo ls; simp [rys, elsY, ih (lo + zx s)]
  | _ => intro lo ls; rfl
/-- A statement on its line. -/
def ln (d : Nat) (s : Y) : List Int := bl d ++ (tY s false d ++ [10])
theorem tY_els : ∀ (l : Y) (lo ls d : Nat), isY l = false → wfY l → tY l false d = (elsY lo ls l).flatMap fun p => ln d p.2.2 := by
  intro l
  induction l with
  | nil => intro lo ls d _ _; rfl
  | cons s l _ ih =>
    intro lo ls d _ h
    have := ih (lo + zx s) (ls + zy s) d h.2.1 h.2.2.2
    simp only [elsY, List.flatMap_cons, ← this]
    simp [tY, ln]
  | _ => intro lo ls d h; cases h
theorem elsY_at : ∀ (l : Y) (lo ls : Nat) {ex : List Ex} {st : List St}, isY l = false → wfY l → Sg ex lo (fx lo l) → SgY st ls (fy lo ls l) → ∀ p ∈ elsY lo ls l, isY p.2.2 = true ∧ wfY p.2.2 ∧ Sg ex p.1 (fx p.1 p.2.2) ∧ SgY st p.2.1 (fy p.1 p.2.1 p.2.2) := by
  intro l
  induction l with
  | cons s l _ ih =>
    intro lo ls ex st _ h hs hy p hp
    rcases List.mem_cons.1 hp with rfl | hp
    · exact ⟨h.1, h.2.2.1, hs.left, hy.left⟩
    · exact ih (lo + zx s) (ls + zy s) h.2.1 h.2.2.2 (hs.right (fx_len s lo)) (hy.right (fy_len s lo ls)) p hp
  | nil => intro lo ls ex st _ _ _ _ p hp; cases hp
  | _ => intro lo ls ex st h; cases h
theorem bl_len (d : Nat) : (bl d).length = 2 * d := by simp [bl]
theorem blk_len (d : Nat) (t : List Int) : (blk d t).length = t.length + 2 * d + 3 := by
  simp only [blk, List.length_cons, List.length_append, bl_len, List.length_nil]; omega
theorem tY_len : ∀ (y : Y) (b : Bool) (d : Nat) (k : Int), wfY y → okY k y → (d : Int) ≤ k → k ≤ 64 → (tY y b d).length + (if isY y then 200 else 0) ≤ zx y * 20100 + zy y * 21000 := by
  have hx : ∀ {x : X}, isX x = true → wf x → (eT x).length + 20 ≤ sz x * 20100 := fun h1 h2 => by have := eT_len _ h2; rw [if_pos h1] at this; exact this
  intro y
  induction y with
  | svar w x => intro b d k h _ _ _; have := hx h.2.1 h.2.2; have := h.1.2; simp only [tY, zx, zy, isY, if_true, List.length_append, List.length_cons, List.length_nil, show wVar.length = 3 from rfl]; omega
  | sarr w n => intro b d k h _ _ _; have := (nu_i64 h.2.1 h.2.2).2; have := h.1.2; simp only [tY, zx, zy, isY, if_true, List.length_append, List.length_cons, List.length_nil, show wVar.length = 3 from rfl]; omega
  | sset w x => intro b d k h _ _ _; have := hx h.2.1 h.2.2; have := h.1.2; simp only [tY, zx, zy, isY, if_true, List.length_append, List.length_cons, List.length_nil]; omega
  | sput w x y => intro b d k h _ _ _; have := hx h.2.1 h.2.2.1; have := hx h.2.2.2.1 h.2.2.2.2; have := h.1.2; simp only [tY, zx, zy, isY, if_true, List.length_append, List.length_cons, List.length_nil]; omega
  | sif x th el iha ihb =>
    intro b d k h hk hd hk2
    have h1 := hx h.1 h.2.1
    have h2 := iha false (d + 1) (k + 1) h.2.2.2.1 hk.2.2.1 (by omega) hk.2.1
    have h3 := ihb false (d + 1) (k + 1) h.2.2.2.2.2 hk.2.2.2 (by omega) hk.2.1
    have h4 := ihb true d (k + 1) h.2.2.2.2.2 hk.2.2.2 (by omega) hk.2.1
    have e : (if isN el then ([] : List Int) else 32 :: (wElse ++ 32 :: if isEI el then tY el true d else blk d (tY el false (d + 1)))).length ≤ 6 + max (tY el true d).length ((tY el false (d + 1)).length + 2 * d + 3) := by
      split
      · simp
      · simp only [List.length_cons, List.length_append, show wElse.length = 4 from rfl]
        split
        · omega
        · rw [blk_len]; omega
    rw [h.2.2.1] at h2
    rw [h.2.2.2.2.1] at h3 h4
    simp only [tY, zx, zy, isY, if_true, List.length_append, List.length_cons, show wIf.length = 2 from rfl, blk_len] at e ⊢
    simp only [Bool.false_eq_true, if_false] at h2 h3 h4
    omega
  | swh x th iha =>
    intro b d k h hk hd hk2
    have h1 := hx h.1 h.2.1
    have h2 := iha false (d + 1) (k + 1) h.2.2.2 hk.2.2 (by omega) hk.2.1
    rw [h.2.2.1] at h2
    simp only [tY, zx, zy, isY, if_true, List.length_append, List.length_cons, show wWhile.length = 5 from rfl, blk_len]
    simp only [Bool.false_eq_true, if_false] at h2
    omega
  | brk => intro b d k _ _ _ _; simp [tY, zx, zy, isY, wBreak]
  | cnt => intro b d k _ _ _ _; simp [tY, zx, zy, isY, wCont]
  | ret0 => intro b d k _ _ _ _; simp [tY, zx, zy, isY, wReturn]
  | ret x => intro b d k h _ _ _; have := hx h.1 h.2; simp only [tY, zx, zy, isY, if_true, List.length_append, List.length_cons, List.length_nil, show wReturn.length = 6 from rfl]; omega
  | prn x => intro b d k h _ _ _; have := hx h.1 h.2; simp only [tY, zx, zy, isY, if_true, List.length_append, List.length_cons, List.length_nil, show wPrint.length = 5 from rfl]; omega
  | scl x => intro b d k h _ _ _; have := hx (by cases x <;> first | rfl | exact absurd h.1 (by simp [isC])) h.2; simp only [tY, zx, zy, isY, if_true, List.length_append, List.length_cons, List.length_nil]; omega
  | nil => intro b d k _ _ _ _; simp [tY, isY]
  | cons s l ihs ihl =>
    intro b d k h hk hd hk2
    have h1 := ihs false d k h.2.2.1 hk.1 hd hk2
    have h2 := ihl false d k h.2.2.2 hk.2 hd hk2
    rw [h.1] at h1
    rw [h.2.1] at h2
    simp only [if_true] at h1
    simp only [Bool.false_eq_true, if_false] at h2
    cases b
    · simp only [tY, zx, zy, isY, Bool.false_eq_true, if_false, List.length_append, List.length_cons, bl_len]; omega
    · simp only [tY, zx, zy, isY, if_true, Bool.false_eq_true, if_false]; omega
end Go.Proofs.YtfnbgbeinmekgaaGreatDoor.Pt
namespace Go.Proofs.YtfnbgbeinmekgaaGreatDoor
open Go Go.RowKit Fw Nu Sy Pt
set_option linter.unusedVariables false
set_option maxRecDepth 20000
namespace Pr
theorem trKpS {S' : Nat → Prop} {w w' : World} {ux us uf : Value} {S : PS} (h : Tr w ux us uf S) (k : Kp S' w w') (hS : ∀ b, b < w.heap.size → ¬ S' b) : Tr w' ux us uf S := by
  have no : ∀ {base : Nat} {e : TypeId} {size : Nat} {v : Value} {n : Nat} {cs : List Value}, w.ownsRow base e size v n cs → w'.ownsRow base e size v n cs := fun ho => own_kp ho k fun g hg => hS g (own_lt ho hg).2
  obtain ⟨⟨rx, e1, o1, l1⟩, ⟨ry, e2, o2, l2⟩, rz, e3, o3, l3⟩ := h
  exact ⟨⟨rx, e1, no o1, fun r hr => ⟨no (l1 r hr).1, (l1 r hr).2⟩⟩, ⟨ry, e2, no o2, fun r hr => ⟨⟨no (l2 r hr).1.1, (l2 r hr).1.2⟩, no (l2 r hr).2.1, (l2 r hr).2.2⟩⟩,
    ⟨rz, e3, no o3, fun r hr => ⟨⟨no (l3 r hr).1.1, (l3 r hr).1.2⟩, no (l3 r hr).2.1, (l3 r hr).2.2⟩⟩⟩
section
variable {w0 : World} {ux us uf : Value} {b : Nat} {bs : List Int} {w w1 : World}
theorem Wr.tr {S : PS} (h : Wr w0 ux us uf b bs w) (ht : Tr w0 ux us uf S) : Tr w ux us uf S := trKpS ht h.kp fun i hi hs => by omega
theorem Wr.gl (h : Wr w0 ux us uf b bs w) (hg : Glob w0) : Glob w := hg.kpS h.kp fun i hi hs => by omega
theorem Wr.ls (h : Wr w0 ux us uf b bs w) {v : Value} {l : List (List Int)} (hl : LS w0 v l) : LS w v l := own_kp hl h.kp fun g hg hs => by have := (own_lt hl hg).2; omega
theorem Wr.bk (h : Wr w0 ux us uf b bs w) : ∃ q v, w.heap[b]? = some (.cells [ux, us, uf, q, v].toArray 76 (0, 0)) := by
  obtain ⟨q, a, c, _, hb, _⟩ := h.bl
  exact ⟨_, _, hb⟩
end
theorem own_max' {w : World} {base : Nat} {e : TypeId} {size : Nat} {v : Value} {n : Nat} {cs : List Value} (h : w.ownsRow base e size v n cs) : n ≤ maxLen := by
  rcases h.2 with ⟨_, rfl⟩ | ⟨g, cap, cur, _, _, _, h1, h2, _⟩
  · exact Nat.zero_le _
  · exact Nat.le_trans h1 h2
/-- A statement that has no block. -/
def isS : Y → Bool
  | .sif _ _ _ => false
  | .swh _ _ => false
  | .nil => false
  | .cons _ _ => false
  | _ => true
/-- Its text without its end. -/
def sT : Y → List Int
  | .svar w x => wVar ++ 32 :: (w ++ 32 :: 61 :: 32 :: eT x)
  | .sarr w n => wVar ++ 32 :: (w ++ 91 :: (dc n ++ [93]))
  | .sset w x => w ++ 32 :: 61 :: 32 :: eT x
  | .sput w x y => w ++ 91 :: (eT x ++ 93 :: 32 :: 61 :: 32 :: eT y)
  | .brk => wBreak
  | .cnt => wCont
  | .ret0 => wReturn
  | .ret x => wReturn ++ 32 :: eT x
  | .prn x => wPrint ++ 32 :: eT x
  | .scl x => eT x
  | _ => []
theorem sT_tY {y : Y} (h : isS y = true) (b : Bool) (d : Nat) : tY y b d = sT y ++ [59] := by
  cases y <;> first | (simp [tY, sT]; done) | cases h
set_option maxHeartbeats 8000000 in
theorem simpleF {S : PS} {y : Y} (hy : isS y = true) (hw : wfY y) (lo ls b : Nat) (ux us uf q0 v0 lv mv : Value) (z : St) (hb : Pt.bs z = rootY lo ls y) (h1c : (stC (z, lv, mv)).all Value.oneCell' = true) (w : World) (hg : Glob w) (ht : Tr w ux us uf S) (hn : S.ex.length ≤ 20001)
    (hbk : w.heap[b]? = some (.cells [ux, us, uf, q0, v0].toArray 76 (0, 0))) (hs : Sg S.ex lo (fx lo y)) :
    Ret Tryz.prog 84 [.pointer (some ⟨b, 0, none⟩), .agg (stC (z, lv, mv)).toArray] w fun v w1 => (∃ s, v = .string s ∧ B s = sT y) ∧ Kp No w w1 := by
  have hk : z.k = (rootY lo ls y).k := (congrArg St.k hb : (Pt.bs z).k = _)
  have hnn : z.n = (rootY lo ls y).n := (congrArg St.n hb : (Pt.bs z).n = _)
  have hnm : z.nm = (rootY lo ls y).nm := (congrArg St.nm hb : (Pt.bs z).nm = _)
  have ha : z.a = (rootY lo ls y).a := (congrArg St.a hb : (Pt.bs z).a = _)
  have hbb : z.b = (rootY lo ls y).b := (congrArg St.b hb : (Pt.bs z).b = _)
  refine ret_enter Tryz.func84 rfl Tryz.ntmps84 rfl ?_
  (repeat refine Zr ?_)
  refine s_box (cs := stC (z, lv, mv)) rfl rfl (fun b1 w1 n1 => ?_)
  have e1 : w1.heap[b1]? = some (.cells [.int .i64 (rootY lo ls y).k, .int .i64 z.f, .int .i64 z.e, .string (strOfNums (rootY lo ls y).nm), .int .i64 (rootY lo ls y).n, .int .i64 (rootY lo ls y).a, .int .i64 (rootY lo ls y).b, lv, mv].toArray 42 (0, 0)) := by rw [← hk, ← hnn, ← hnm, ← ha, ← hbb]; exact n1.blk
  clear hk hnn hnm ha hbb
  have gl := hg.kp n1.kp
  have tr := ht.kp n1.kp
  have bk := n1.kp.get0 hbk
  have kk := n1.kp
  have hd := fun (w' : World) (hw : Kp No w1 w') => hw.get0 e1
  cases y with
  | svar nw x =>
    obtain ⟨hnw, hxa, hwa⟩ := hw
    have hnB := nmB hnw
    have hza := Nat.le_trans (Sg.le hs) hn
    have hta := eT_size hwa hza
    have hnz : (strOfNums (rootY lo ls (.svar nw x)).nm).size ≤ 20000 := hnB.2
    (repeat refine Zrc ?_)
    refine k_h (fun w' => Kp No w1 w') [(0, false), (1, false), (2, false), (3, false), (4, false), (5, false), (6, false), (7, true), (8, false), (9, false)] 10 (by kernel_rfl) (by exact waits_none) (by kernel_rfl) (by kernel_rfl) rfl rfl (fun m1 k1 _ => ?_)
    (repeat (first | refine Zhq ?_ | refine Zhgn ?_ | refine Zhgu ?_ | refine Zhgv ?_))
    refine h_call (us := []) (zs := []) (by kernel_rfl) rfl rfl ((exprA x).1 lo b _ _ _ q0 v0 m1 (gl.kp k1) (tr.kp k1) (k1.get0 bk) hs hxa hwa hza) ?_
    rintro _ m2 ⟨⟨s, rfl, hB⟩, k3⟩
    have k13 := k1.no k3
    have hsz2 := szB hB
    refine ⟨fun _ => k13, ?_⟩
    (repeat (first | refine Zhq ?_ | refine Zhgn ?_ | refine Zhgu ?_ | refine Zhgv ?_))
    refine h_nil ?_
    (repeat refine Zr ?_)
    refine ret_1 rfl rfl ⟨⟨_, rfl, ?_⟩, kk.no k13⟩
    have hnn : B (strOfNums (rootY lo ls (.svar nw x)).nm) = nw := hnB.1
    simp only [B_append, hB, hnn, sT]
    simp [B, wVar]
  | sarr nw n =>
    obtain ⟨hnw, h0, hnu⟩ := hw
    have hnB := nmB hnw
    have hni := nu_i64 h0 hnu
    have hnz : (strOfNums (rootY lo ls (.sarr nw n)).nm).size ≤ 20000 := hnB.2
    (repeat refine Zrc ?_)
    refine k_h (fun w' => Kp No w1 w') [(0, false), (1, false), (2, false), (3, false), (4, false), (5, false), (6, true), (7, false), (8, false), (9, false)] 10 (by kernel_rfl) (by exact waits_none) (by kernel_rfl) (by kernel_rfl) rfl rfl (fun m1 k1 _ => ?_)
    (repeat (first | refine Zhq ?_ | refine Zhgn ?_ | refine Zhgu ?_ | refine Zhgv ?_))
    refine h_call (us := []) (zs := []) (by kernel_rfl) rfl rfl (Itoa n m1 (gl.kp k1) (by unfold I64; omega)) ?_
    rintro _ m2 ⟨⟨s, rfl, hB⟩, k3⟩
    have k13 := k1.no k3
    have hsz2 := szB hB
    refine ⟨fun _ => k13, ?_⟩
    (repeat (first | refine Zhq ?_ | refine Zhgn ?_ | refine Zhgu ?_ | refine Zhgv ?_))
    refine h_nil ?_
    (repeat refine Zr ?_)
    refine ret_1 rfl rfl ⟨⟨_, rfl, ?_⟩, kk.no k13⟩
    have hnn : B (strOfNums (rootY lo ls (.sarr nw n)).nm) = nw := hnB.1
    simp only [B_append, hB, hnn, sT]
    simp [B, wVar]
  | sset nw x =>
    obtain ⟨hnw, hxa, hwa⟩ := hw
    have hnB := nmB hnw
    have hza := Nat.le_trans (Sg.le hs) hn
    have hta := eT_size hwa hza
    have hnz : (strOfNums (rootY lo ls (.sset nw x)).nm).size ≤ 20000 := hnB.2
    (repeat refine Zrc ?_)
    refine k_h (fun w' => Kp No w1 w') [(0, false), (1, false), (2, false), (3, false), (4, false), (5, false), (6, true), (7, false), (8, false)] 9 (by kernel_rfl) (by exact waits_none) (by kernel_rfl) (by kernel_rfl) rfl rfl (fun m1 k1 _ => ?_)
    (repeat (first | refine Zhq ?_ | refine Zhgn ?_ | refine Zhgu ?_ | refine Zhgv ?_))
    refine h_call (us := []) (zs := []) (by kernel_rfl) rfl rfl ((exprA x).1 lo b _ _ _ q0 v0 m1 (gl.kp k1) (tr.kp k1) (k1.get0 bk) hs hxa hwa hza) ?_
    rintro _ m2 ⟨⟨s, rfl, hB⟩, k3⟩
    have k13 := k1.no k3
    have hsz2 := szB hB
    refine ⟨fun _ => k13, ?_⟩
    (repeat (first | refine Zhq ?_ | refine Zhgn ?_ | refine Zhgu ?_ | refine Zhgv ?_))
    refine h_nil ?_
    (repeat refine Zr ?_)
    refine ret_1 rfl rfl ⟨⟨_, rfl, ?_⟩, kk.no k13⟩
    have hnn : B (strOfNums (rootY lo ls (.sset nw x)).nm) = nw := hnB.1
    simp only [B_append, hB, hnn, sT]
    simp [B]
  | sput nw x y =>
    obtain ⟨hnw, hxa, hwa, hxb, hwb⟩ := hw
    have hnB := nmB hnw
    have hs1 : Sg S.ex lo (fl lo x) := hs.left
    have hs2 : Sg S.ex (lo + sz x) (fl (lo + sz x) y) := hs.right (fl_len x lo)
    have hza := Nat.le_trans (Sg.le hs1) hn
    have hta := eT_size hwa hza
    have hzb := Nat.le_trans (Sg.le hs2) hn
    have htb := eT_size hwb hzb
    have hnz : (strOfNums (rootY lo ls (.sput nw x y)).nm).size ≤ 20000 := hnB.2
    (repeat refine Zrc ?_)
    refine k_h (fun w' => Kp No w1 w') [(0, false), (1, false), (2, false), (3, false), (4, false), (5, false), (9, false), (10, false), (11, false), (6, true), (7, false), (8, false), (12, true), (13, false), (14, false)] 15 (by kernel_rfl) (by exact waits_none) (by kernel_rfl) (by kernel_rfl) rfl rfl (fun m1 k1 _ => ?_)
    (repeat (first | refine Zhq ?_ | refine Zhgn ?_ | refine Zhgu ?_ | refine Zhgv ?_))
    refine h_call (us := []) (zs := []) (by kernel_rfl) rfl rfl ((exprA x).1 lo b _ _ _ q0 v0 m1 (gl.kp k1) (tr.kp k1) (k1.get0 bk) hs1 hxa hwa hza) ?_
    rintro _ m2 ⟨⟨s, rfl, hB⟩, k3⟩
    have k13 := k1.no k3
    have hsz2 := szB hB
    refine ⟨fun _ => k13, ?_⟩
    (repeat (first | refine Zhq ?_ | refine Zhgn ?_ | refine Zhgu ?_ | refine Zhgv ?_))
    refine h_call (us := []) (zs := []) (by kernel_rfl) rfl rfl ((exprA y).1 (lo + sz x) b _ _ _ q0 v0 m2 (gl.kp k13) (tr.kp k13) (k13.get0 bk) hs2 hxb hwb hzb) ?_
    rintro _ m3 ⟨⟨s', rfl, hB'⟩, k4⟩
    have k14 := k13.no k4
    have hsz3 := szB hB'
    refine ⟨fun _ => k14, ?_⟩
    (repeat (first | refine Zhq ?_ | refine Zhgn ?_ | refine Zhgu ?_ | refine Zhgv ?_))
    refine h_nil ?_
    (repeat refine Zr ?_)
    refine ret_1 rfl rfl ⟨⟨_, rfl, ?_⟩, kk.no k14⟩
    have hnn : B (strOfNums (rootY lo ls (.sput nw x y)).nm) = nw := hnB.1
    simp only [B_append, hB, hB', hnn, sT]
    simp [B]
  | brk =>
    (repeat refine Zrc ?_)
    exact ret_1 rfl rfl ⟨⟨_, rfl, rfl⟩, kk⟩
  | cnt =>
    (repeat refine Zrc ?_)
    exact ret_1 rfl rfl ⟨⟨_, rfl, rfl⟩, kk⟩
  | ret0 =>
    (repeat refine Zrc ?_)
    exact ret_1 rfl rfl ⟨⟨_, rfl, rfl⟩, kk⟩
  | ret x =>
    obtain ⟨hxa, hwa⟩ := hw
    have hza := Nat.le_trans (Sg.le hs) hn
    have hta := eT_size hwa hza
    have hsp := sz_pos hxa
    have hrt : 0 ≤ rt lo x := by unfold rt; omega
    (repeat refine Zrc ?_)
    refine c_f (congrArg Value.bool (decide_eq_false (by show ¬ rt lo x < 0; omega))) ?_
    (repeat refine Zrc ?_)
    refine s_call (us := []) (zs := []) (by kernel_rfl) rfl rfl ((exprA x).1 lo b _ _ _ q0 v0 w1 gl tr bk hs hxa hwa hza) ?_
    rintro _ m2 ⟨⟨s, rfl, hB⟩, k3⟩
    have hsz2 := szB hB
    (repeat refine Zrc ?_)
    refine ret_1 rfl rfl ⟨⟨_, rfl, ?_⟩, kk.no k3⟩
    simp only [B_append, hB, sT]
    simp [B, wReturn]
  | prn x =>
    obtain ⟨hxa, hwa⟩ := hw
    have hza := Nat.le_trans (Sg.le hs) hn
    have hta := eT_size hwa hza
    (repeat refine Zrc ?_)
    refine s_call (us := []) (zs := []) (by kernel_rfl) rfl rfl ((exprA x).1 lo b _ _ _ q0 v0 w1 gl tr bk hs hxa hwa hza) ?_
    rintro _ m2 ⟨⟨s, rfl, hB⟩, k3⟩
    have hsz2 := szB hB
    (repeat refine Zrc ?_)
    refine ret_1 rfl rfl ⟨⟨_, rfl, ?_⟩, kk.no k3⟩
    simp only [B_append, hB, sT]
    simp [B, wPrint]
  | scl x =>
    obtain ⟨hxc, hwa⟩ := hw
    have hxa : isX x = true := by cases x <;> first | rfl | exact absurd hxc (by simp [isC])
    have hza := Nat.le_trans (Sg.le hs) hn
    (repeat refine Zrc ?_)
    refine s_call (us := []) (zs := []) (by kernel_rfl) rfl rfl ((exprA x).1 lo b _ _ _ q0 v0 w1 gl tr bk hs hxa hwa hza) ?_
    rintro _ m2 ⟨⟨s, rfl, hB⟩, k3⟩
    (repeat refine Zrc ?_)
    exact ret_1 rfl rfl ⟨⟨_, rfl, hB⟩, kk.no k3⟩
  | _ => cases hy
end Pr
end Go.Proofs.YtfnbgbeinmekgaaGreatDoor
namespace Go.Proofs.YtfnbgbeinmekgaaGreatDoor
open Go Go.RowKit Fw Nu Sy Pt
set_option linter.unusedVariables false
set_option maxRecDepth 20000
namespace Pr
/-- A statement is written. -/
def SC (S : PS) (y : Y) : Prop := ∀ (lo ls d b : Nat) (dI k : Int) (ux us uf : Value) (bs : List Int) (w0 w : World), Glob w0 → Tr w0 ux us uf S → S.ex.length ≤ 20001 → Wr w0 ux us uf b bs w → Sg S.ex lo (fx lo y) → SgY S.st ls (fy lo ls y) → isY y = true → wfY y → okY k y → dI = (d : Int) → (d : Int) ≤ k → k ≤ 64 →
  bs.length + (tY y false d).length ≤ 1000000000000 →
  Ret Tryz.prog 54 [.pointer (some ⟨b, 0, none⟩), .int .i64 (ry ls y), .int .i64 dI] w fun v w1 => Wr w0 ux us uf b (bs ++ tY y false d) w1 ∧ KB w0.heap.size b w w1
theorem elsY_ok : ∀ (l : Y) (lo ls : Nat) (k : Int), okY k l → ∀ p ∈ elsY lo ls l, okY k p.2.2 := by
  intro l
  induction l with
  | cons s l _ ih =>
    intro lo ls k h p hp
    rcases List.mem_cons.1 hp with rfl | hp
    · exact h.1
    · exact ih _ _ k h.2 p hp
  | _ => intro lo ls k _ p hp; cases hp
theorem flat_take_succ {α : Type} (f : α → List Int) (L : List α) (j : Nat) (p : α) (h : L[j]? = some p) : (L.take (j + 1)).flatMap f = (L.take j).flatMap f ++ f p := by
  rw [List.take_add_one, h]; simp
theorem flat_take_le {α : Type} (f : α → List Int) (L : List α) (j : Nat) : ((L.take j).flatMap f).length ≤ (L.flatMap f).length := by
  conv => rhs; rw [← List.take_append_drop j L]
  rw [List.flatMap_append, List.length_append]; omega
/-- A text joined of two, under a name. -/
theorem cat_name (a b : ByteArray) : ∃ s', a ++ b = s' ∧ B s' = B a ++ B b ∧ s'.size = a.size + b.size := ⟨_, rfl, B_append _ _, ByteArray.size_append⟩
set_option maxHeartbeats 4000000 in
theorem blockF {S : PS} {l : Y} (lo ls : Nat) (hE : ∀ p ∈ elsY lo ls l, SC S p.2.2) (d b : Nat) (dI k : Int) (ux us uf vl : Value) (bs : List Int) (w0 w : World) (hg : Glob w0) (ht : Tr w0 ux us uf S) (hn : S.ex.length ≤ 20001) (h : Wr w0 ux us uf b bs w)
    (hs : Sg S.ex lo (fx lo l)) (hy : SgY S.st ls (fy lo ls l)) (hi : isY l = false) (hw : wfY l) (hok : okY k l) (hdI : dI = (d : Int)) (hdk : (d : Int) + 1 ≤ k) (hk : k ≤ 64) (hl : LI w0 vl (rys ls l))
    (hz : bs.length + (blk d (tY l false (d + 1))).length ≤ 1000000000000) :
    Ret Tryz.prog 26 [.pointer (some ⟨b, 0, none⟩), vl, .int .i64 dI] w fun v w1 => Wr w0 ux us uf b (bs ++ blk d (tY l false (d + 1))) w1 ∧ KB w0.heap.size b w w1 := by
  have hat := elsY_at l lo ls hi hw hs hy
  have hao := elsY_ok l lo ls k hok
  have hT := tY_els l lo ls (d + 1) hi hw
  rw [rys_els l lo ls] at hl
  obtain ⟨L, hL⟩ : ∃ L, elsY lo ls l = L := ⟨_, rfl⟩
  rw [hL] at hat hT hE hao hl
  rw [hT] at hz ⊢
  rw [blk_len] at hz
  obtain ⟨a, c, rfl, hcl⟩ := LI.at hl
  rw [List.length_map]
  have hLm : L.length ≤ maxLen := by have := own_max' hl; rwa [List.length_map] at this
  have hLn : L.length ≤ 9223372036854775807 := Nat.le_trans hLm (by decide)
  subst hdI
  have trv : True := trivial
  refine ret_enter Tryz.func26 rfl Tryz.ntmps26 rfl ?_
  (repeat refine Zr ?_)
  refine s_call (us := []) (zs := []) (by kernel_rfl) rfl rfl (WriteString w0 ux us uf b bs ⟨#[123, 10]⟩ w h (by show _ + 2 ≤ _; omega)) ?_
  rintro _ w1 ⟨h1, k1⟩
  have h1 : Wr w0 ux us uf b (bs ++ [123, 10]) w1 := h1
  (repeat refine Zr ?_)
  refine k_loop (σ := Nat) (fun j => [(0, .pointer (some ⟨b, 0, none⟩)), (2, .int .i64 (d : Int)), (12, .slice a L.length c), (13, .int .i64 (L.length : Int)), (14, .int .i64 (j : Int))])
    (fun j m => j ≤ L.length ∧ Wr w0 ux us uf b (bs ++ [123, 10] ++ (L.take j).flatMap fun p => ln (d + 1) p.2.2) m ∧ KB w0.heap.size b w m) (fun j => L.length - j) 0 ⟨rfl, rfl, rfl, rfl, rfl, trivial⟩ ⟨Nat.zero_le _, by simpa using h1, k1⟩ ?_
  rintro j lr m ⟨hj, hm, km⟩
  (repeat refine Zr ?_)
  refine c_dec rfl (fun hlt => ?_) (fun hge => ?_)
  · obtain ⟨p, hp⟩ : ∃ p, L[j]? = some p := ⟨_, List.getElem?_eq_getElem (by omega)⟩
    have hpm := List.mem_of_getElem? hp
    obtain ⟨p1, p2, p3, p4⟩ := hat p hpm
    obtain ⟨g, rfl, hcell⟩ := hcl j (ry p.2.1 p.2.2) (by rw [List.getElem?_map, hp]; rfl)
    have hcell := hm.kp.cell hcell (fun hs => by obtain ⟨o, ho⟩ := blk_of_cell hcell; have := lt_of_get ho; have hs : w0.heap.size ≤ g := hs; omega)
    have hfl := flat_take_le (fun p : Nat × Nat × Y => ln (d + 1) p.2.2) L (j + 1)
    have hfs := flat_take_succ (fun p : Nat × Nat × Y => ln (d + 1) p.2.2) L j p hp
    rw [hfs, List.length_append, show (ln (d + 1) p.2.2).length = 2 * (d + 1) + ((tY p.2.2 false (d + 1)).length + 1) by simp [ln, bl_len]] at hfl
    obtain ⟨F, hF⟩ : ∃ F, (L.take j).flatMap (fun p : Nat × Nat × Y => ln (d + 1) p.2.2) = F := ⟨_, rfl⟩
    rw [hF] at hm hfl hfs
    have hbl : (bs ++ [123, 10] ++ F).length = bs.length + 2 + F.length := by simp; omega
    (repeat refine Zr ?_)
    refine s_v (r_ia (i := j) rfl rfl rfl rfl (by omega) (by omega)) ?_
    (repeat refine Zr ?_)
    refine k_h (fun _ => True) [(0, false), (1, false), (2, false), (3, false), (4, false), (5, true), (6, true)] 7 (by kernel_rfl) (by exact waits_none) (by kernel_rfl) (by kernel_rfl) rfl rfl (fun m1 q1 _ => ?_)
    have hm1 := hm.no q1
    (repeat (first | refine Zhq ?_ | refine Zhgn ?_ | refine Zhgu ?_ | refine Zhgv ?_))
    refine h_call (us := []) (zs := []) (by kernel_rfl) rfl rfl (Repeat (d + 1) m1 (by omega)) ?_
    rintro _ m2 ⟨⟨s, rfl, hB⟩, q2⟩
    have hs2 := szB hB
    rw [bl_len] at hs2
    refine ⟨fun _ => trivial, ?_⟩
    refine h_call (us := []) (zs := []) (by kernel_rfl) rfl rfl (WriteString w0 ux us uf b _ s m2 (hm1.no q2) (by omega)) ?_
    rintro _ m3 ⟨hm3, q3⟩
    refine ⟨fun _ => trivial, ?_⟩
    rw [hB] at hm3
    refine h_nil ?_
    have hbl3 : (bs ++ [123, 10] ++ F ++ bl (d + 1)).length = bs.length + 2 + F.length + 2 * (d + 1) := by rw [List.length_append, hbl, bl_len]
    (repeat refine Zr ?_)
    refine s_call (us := []) (zs := []) (by kernel_rfl) rfl rfl (hE p hpm p.1 p.2.1 (d + 1) b ((d : Int) + 1) k ux us uf _ w0 m3 hg ht hn hm3 p3 p4 p1 p2 (hao p hpm) (by omega) (by omega) hk (by omega)) ?_
    rintro _ m4 ⟨hm4, q4⟩
    have hbl4 : (bs ++ [123, 10] ++ F ++ bl (d + 1) ++ tY p.2.2 false (d + 1)).length = bs.length + 2 + F.length + 2 * (d + 1) + (tY p.2.2 false (d + 1)).length := by rw [List.length_append, hbl3]
    (repeat refine Zr ?_)
    refine s_call (us := []) (zs := []) (by kernel_rfl) rfl rfl (WriteByte w0 ux us uf b _ 10 m4 hm4 (by omega)) ?_
    rintro _ m5 ⟨hm5, q5⟩
    (repeat refine Zr ?_)
    refine l_next (j + 1) ⟨rfl, rfl, rfl, rfl, rfl, trivial⟩ ⟨by omega, ?_, (((km.trans (KB.no (q1.no q2))).trans q3).trans q4).trans q5⟩ (by omega)
    rw [hfs]
    have e : bs ++ [123, 10] ++ (F ++ ln (d + 1) p.2.2) = bs ++ [123, 10] ++ F ++ bl (d + 1) ++ tY p.2.2 false (d + 1) ++ [10] := by simp [ln]
    rw [e]; exact hm5
  · obtain rfl : j = L.length := by omega
    rw [List.take_length] at hm
    obtain ⟨F, hF⟩ : ∃ F, L.flatMap (fun p : Nat × Nat × Y => ln (d + 1) p.2.2) = F := ⟨_, rfl⟩
    rw [hF] at hm hz ⊢
    have hbl : (bs ++ [123, 10] ++ F).length = bs.length + 2 + F.length := by simp; omega
    (repeat refine Zr ?_)
    refine k_h (fun _ => True) [(0, false), (1, false), (2, false), (3, false), (4, true), (5, false), (6, true)] 7 (by kernel_rfl) (by exact waits_none) (by kernel_rfl) (by kernel_rfl) rfl rfl (fun m1 q1 _ => ?_)
    (repeat (first | refine Zhq ?_ | refine Zhgn ?_ | refine Zhgu ?_ | refine Zhgv ?_))
    refine h_call (us := []) (zs := []) (by kernel_rfl) rfl rfl (Repeat d m1 (by omega)) ?_
    rintro _ m2 ⟨⟨s, rfl, hB⟩, q2⟩
    have hs2 := szB hB
    rw [bl_len] at hs2
    refine ⟨fun _ => trivial, ?_⟩
    (repeat (first | refine Zhq ?_ | refine Zhgn ?_ | refine Zhgu ?_ | refine Zhgv ?_))
    obtain ⟨s', hs', hB', hz'⟩ := cat_name s ⟨#[125]⟩
    rw [hs']
    rw [show (ByteArray.mk #[125]).size = 1 from rfl] at hz'
    refine h_call (us := []) (zs := []) (by kernel_rfl) rfl rfl (WriteString w0 ux us uf b _ s' m2 ((hm.no q1).no q2) (by omega)) ?_
    rintro _ m3 ⟨hm3, q3⟩
    refine ⟨fun _ => trivial, ?_⟩
    refine h_nil ?_
    (repeat refine Zr ?_)
    refine end_0 rfl ⟨?_, (km.trans (KB.no (q1.no q2))).trans q3⟩
    rw [hB', hB] at hm3
    have e : bs ++ blk d F = bs ++ [123, 10] ++ F ++ (bl d ++ B ⟨#[125]⟩) := by simp [blk, B]
    rw [e]; exact hm3
end Pr
end Go.Proofs.YtfnbgbeinmekgaaGreatDoor
namespace Go.Proofs.YtfnbgbeinmekgaaGreatDoor
open Go Go.RowKit Fw Nu Sy Pt
set_option linter.unusedVariables false
set_option maxRecDepth 20000
namespace Pr
/-- The text of what stands behind else. -/
def elT (el : Y) (d : Nat) : List Int := if isN el then [] else 32 :: (wElse ++ 32 :: if isEI el then tY el true d else blk d (tY el false (d + 1)))
/-- What is known of a row's statements. -/
def RC (S : PS) (l : Y) : Prop := ∀ lo ls, ∀ p ∈ elsY lo ls l, SC S p.2.2
theorem cellsW {w0 w : World} {ux us uf : Value} {b : Nat} {bs : List Int} (h : Wr w0 ux us uf b bs w) {a : Addr} {v : Value} (hc : w0.cell? a = some v) : w.cell? a = some v := h.kp.cell hc fun hs => by
  obtain ⟨o, ho⟩ := blk_of_cell hc
  have := lt_of_get ho
  have hs : w0.heap.size ≤ a.block := hs
  omega
theorem kif {s : Y} (lo ls : Nat) (hs : isY s = true) : ((rootY lo ls s).k == 5) = isIf s := by cases s <;> first | rfl | cases hs
set_option maxHeartbeats 8000000 in
theorem otherF {S : PS} {el : Y} (hE : RC S el) (lo ls d b : Nat) (dI k : Int) (ux us uf lv mv : Value) (z : St) (bs : List Int) (w0 w : World) (hg : Glob w0) (ht : Tr w0 ux us uf S) (hn : S.ex.length ≤ 20001) (h : Wr w0 ux us uf b bs w)
    (hs : Sg S.ex lo (fx lo el)) (hy : SgY S.st ls (fy lo ls el)) (hi : isY el = false) (hw : wfY el) (hok : okY k el) (hdI : dI = (d : Int)) (hdk : (d : Int) + 1 ≤ k) (hk : k ≤ 64) (hl : LI w0 mv (rys ls el))
    (hz : bs.length + (elT el d).length ≤ 1000000000000) :
    Ret Tryz.prog 83 [.pointer (some ⟨b, 0, none⟩), .agg (stC (z, lv, mv)).toArray, .int .i64 dI] w fun v w1 => Wr w0 ux us uf b (bs ++ elT el d) w1 ∧ KB w0.heap.size b w w1 := by
  have hLm := own_max' hl
  have hLn : (rys ls el).length ≤ 9223372036854775807 := Nat.le_trans hLm (by decide)
  have hl' := hl
  obtain ⟨a, c, rfl, hcl⟩ := LI.at hl
  subst hdI
  refine ret_enter Tryz.func83 rfl Tryz.ntmps83 rfl ?_
  (repeat refine Zr ?_)
  refine s_box (cs := stC (z, lv, .slice a (rys ls el).length c)) rfl rfl (fun b1 w1 n1 => ?_)
  have e1 : w1.heap[b1]? = some (.cells [.int .i64 z.k, .int .i64 z.f, .int .i64 z.e, sv z.nm, .int .i64 z.n, .int .i64 z.a, .int .i64 z.b, lv, .slice a (rys ls el).length c].toArray 42 (0, 0)) := n1.blk
  have h1 := h.no n1.kp
  have kw1 : KB w0.heap.size b w w1 := KB.no n1.kp
  have hb1 : b1 ≠ b := h1.ne e1 rfl
  (repeat refine Zr ?_)
  cases el with
  | nil =>
    refine c_t rfl ?_
    (repeat refine Zr ?_)
    exact ret_0 rfl ⟨by rw [show elT .nil d = [] from rfl, List.append_nil]; exact h1, kw1⟩
  | cons s l =>
    have hT : elT (.cons s l) d = 32 :: (wElse ++ 32 :: if isEI (.cons s l) then tY (.cons s l) true d else blk d (tY (.cons s l) false (d + 1))) := rfl
    have hlen : (rys ls (.cons s l)).length = (rys (ls + zy s) l).length + 1 := rfl
    have hgo : SC S s := hE lo ls (lo, ls, s) (by simp [elsY])
    obtain ⟨g, rfl, hcell⟩ := hcl 0 (ry ls s) rfl
    have hcell : w0.cell? ⟨g, 0 + (0 : Int).toNat * 1, none⟩ = some (.int .i64 (ry ls s)) := hcell
    have hsy : isY s = true := hw.1
    obtain ⟨i, zs, hri, hzi, hzb⟩ := (hy.left : SgY S.st ls (fy lo ls s)).root hsy
    have hil := (List.getElem?_eq_some_iff.1 hzi).1
    obtain ⟨xa, sa, fa, xc, sc, fc, rfl, rfl, rfl⟩ := ht.val
    obtain ⟨g2, lv2, mv2, rfl, _, _, hc2⟩ := ht.st hzi
    have hk2 : zs.k = (rootY lo ls s).k := (congrArg St.k hzb : (Pt.bs zs).k = _)
    have hck : w0.cell? ⟨g2, 0 + (ry ls s).toNat * 9 + 0, none⟩ = some (.int .i64 zs.k) := by rw [hri]; exact hc2 0 _ rfl
    have hkf := kif lo ls hsy
    rw [← hk2] at hkf
    rw [hT, List.length_cons, List.length_append, List.length_cons, show wElse.length = 4 from rfl] at hz
    refine c_f (congrArg Value.bool (by rw [hlen]; show (((_ + 1 : Nat) : Int) == 0) = false; rw [beq_eq_false_iff_ne]; omega)) ?_
    (repeat refine Zr ?_)
    refine s_call (us := []) (zs := []) (by kernel_rfl) rfl rfl (WriteString w0 _ _ _ b bs ⟨#[32, 101, 108, 115, 101, 32]⟩ w1 h1 (by show _ + 6 ≤ _; omega)) ?_
    rintro _ w2 ⟨h2, k2⟩
    have h2 : Wr w0 _ _ _ b (bs ++ [32, 101, 108, 115, 101, 32]) w2 := h2
    have e2 := k2.get e1 hb1 rfl
    obtain ⟨q0, v0, bk2⟩ := h2.bk
    have hcw := cellsW h2 hcell
    have hckw := cellsW h2 hck
    have kw2 := kw1.trans k2
    have hbl : (bs ++ [32, 101, 108, 115, 101, 32]).length = bs.length + 6 := by simp
    have hri' : Value.int .i64 (ry ls s) = .int .i64 (i : Int) := by rw [hri]
    have hfin : ∀ T, T = (if isEI (.cons s l) then tY (.cons s l) true d else blk d (tY (.cons s l) false (d + 1))) → bs ++ elT (.cons s l) d = bs ++ [32, 101, 108, 115, 101, 32] ++ T := fun T e => by rw [hT, e]; simp [wElse]
    -- the block
    have blkC : isEI (.cons s l) = false → ∀ w3, Kp No w2 w3 → Ret Tryz.prog 26 [.pointer (some ⟨b, 0, none⟩), .slice (some ⟨g, 0, none⟩) (rys ls (.cons s l)).length c, .int .i64 (d : Int)] w3 fun v w1 => Wr w0 (.slice xa S.ex.length xc) (.slice (some ⟨g2, 0, none⟩) S.st.length sc) (.slice fa S.fn.length fc) b (bs ++ elT (.cons s l) d) w1 ∧ KB w0.heap.size b w w1 := fun he w3 k3 => by
      have hf := hfin (blk d (tY (.cons s l) false (d + 1))) (by rw [he]; rfl)
      rw [he] at hz
      rw [hf]
      refine (blockF lo ls (hE lo ls) d b d k _ _ _ _ _ w0 w3 hg ht hn (h2.no k3) hs hy rfl hw hok rfl hdk hk hl' (by rw [hbl]; have hz : bs.length + (4 + ((blk d (tY (.cons s l) false (d + 1))).length + 1) + 1) ≤ 1000000000000 := hz; omega)).mono ?_
      rintro v w4 ⟨h4, k4⟩
      exact ⟨h4, (kw2.trans (KB.no k3)).trans k4⟩
    (repeat refine Zr ?_)
    refine k_q (by kernel_rfl) (by kernel_rfl) ?_
    (repeat (first | refine Zq ?_ | refine Zqn ?_ | refine Zqu ?_ | refine Zqg ?_))
    cases hlc : isN l with
    | false =>
      have hl0 : (rys (ls + zy s) l).length ≠ 0 := by
        cases l with
        | nil => cases hlc
        | cons s' l' => simp [rys]
        | _ => exact absurd hw.2.1 (by simp [isY])
      have hei : isEI (.cons s l) = false := by cases s <;> cases l <;> first | rfl | cases hlc
      refine q_set 18 false rfl (by rw [hlen]; show (((_ + 1 : Nat) : Int) == 1) = false; rw [beq_eq_false_iff_ne]; omega) ?_
      (repeat (first | refine Zq ?_ | refine Zqn ?_ | refine Zqu ?_ | refine Zqg ?_))
      refine q_nil (fun w3 k3 => ?_)
      have e3 := k3.get0 e2
      (repeat refine Zr ?_)
      refine c_f rfl ?_
      (repeat refine Zr ?_)
      refine s_call (us := []) (zs := []) (by kernel_rfl) rfl rfl (blkC hei w3 k3) ?_
      rintro v w4 hv
      (repeat refine Zr ?_)
      exact end_0 rfl hv
    | true =>
      have hln : l = .nil := by cases l <;> first | rfl | cases hlc
      subst hln
      have h01 : (0 : Int) < ((rys ls (.cons s .nil)).length : Int) := by rw [hlen]; omega
      refine q_set 18 true rfl rfl ?_
      (repeat (first | refine Zq ?_ | refine Zqn ?_ | refine Zqu ?_ | refine Zqg ?_))
      refine q_nil (fun w3 k3 => ?_)
      have e3 := k3.get0 e2
      have hcw3 := k3.cell0 hcw
      (repeat refine Zr ?_)
      refine c_b rfl (fun ht => ?_) (fun hf => ?_)
      · have hif : isIf s = true := by rw [← hkf]; exact ht
        have hei : isEI (.cons s .nil) = true := by cases s <;> first | rfl | cases hif
        have hf := hfin (tY s false d) (by rw [hei]; rfl)
        rw [hei] at hz
        have hz : bs.length + (4 + ((tY s false d).length + 1) + 1) ≤ 1000000000000 := hz
        (repeat refine Zr ?_)
        refine s_v (r_ia (i := 0) (n := (rys ls (.cons s .nil)).length) rfl rfl rfl rfl (by omega) h01) ?_
        (repeat refine Zr ?_)
        refine s_call (us := []) (zs := []) (by kernel_rfl) rfl rfl (hgo lo ls d b d k _ _ _ _ w0 w3 hg ‹_› hn (h2.no k3) (hs.left : Sg S.ex lo (fx lo s)) hy.left hsy hw.2.2.1 hok.1 rfl (by omega) hk (by rw [hbl]; omega)) ?_
        rintro v w4 ⟨h4, k4⟩
        (repeat refine Zr ?_)
        exact ret_0 rfl ⟨by rw [hf]; exact h4, (kw2.trans (KB.no k3)).trans k4⟩
      · have hif : isIf s = false := by rw [← hkf]; exact hf
        have hei : isEI (.cons s .nil) = false := by cases s <;> first | rfl | cases hif
        (repeat refine Zr ?_)
        refine s_call (us := []) (zs := []) (by kernel_rfl) rfl rfl (blkC hei w3 k3) ?_
        rintro v w4 hv
        (repeat refine Zr ?_)
        exact end_0 rfl hv
  | _ => cases hi
end Pr
end Go.Proofs.YtfnbgbeinmekgaaGreatDoor
namespace Go.Proofs.YtfnbgbeinmekgaaGreatDoor
open Go Go.RowKit Fw Nu Sy Pt
set_option linter.unusedVariables false
set_option maxRecDepth 20000
namespace Pr
def SubY (S : PS) : Y → Prop
  | .sif _ th el => RC S th ∧ RC S el
  | .swh _ th => RC S th
  | _ => True
set_option maxHeartbeats 8000000 in
theorem stmtF {S : PS} {y : Y} (hE : SubY S y) : SC S y := by
  intro lo ls d b dI k ux us uf bs w0 w hg ht hn h hs hy hsy hw hok hdI hdk hk hz
  obtain ⟨i, z, hi, hzi, hb⟩ := hy.root hsy
  have hil := (List.getElem?_eq_some_iff.1 hzi).1
  obtain ⟨xa, sa, fa, xc, sc, fc, rfl, rfl, rfl⟩ := ht.val
  obtain ⟨g, lv, mv, rfl, hl, hm, hc⟩ := ht.st hzi
  have hkk : z.k = (rootY lo ls y).k := (congrArg St.k hb : (Pt.bs z).k = _)
  have ha : z.a = (rootY lo ls y).a := (congrArg St.a hb : (Pt.bs z).a = _)
  have hth : z.th = (rootY lo ls y).th := (congrArg St.th hb : (Pt.bs z).th = _)
  have hel : z.el = (rootY lo ls y).el := (congrArg St.el hb : (Pt.bs z).el = _)
  obtain ⟨la, lc, rfl⟩ := Sy.LI.val hl
  obtain ⟨ma, mc, rfl⟩ := Sy.LI.val hm
  obtain ⟨ln1, hln1⟩ : ∃ k, z.th.length = k := ⟨_, rfl⟩
  obtain ⟨ln2, hln2⟩ : ∃ k, z.el.length = k := ⟨_, rfl⟩
  rw [hln1] at hl hc
  rw [hln2] at hm hc
  have h1c : (stC (z, .slice la ln1 lc, .slice ma ln2 mc)).all Value.oneCell' = true := rfl
  have hcw : ∀ (j : Nat) (u : Value), (stC (z, .slice la ln1 lc, .slice ma ln2 mc))[j]? = some u → w.cell? ⟨g, 0 + (i : Int).toNat * 9 + j, none⟩ = some u := fun j u hj => cellsW h (hc j u hj)
  obtain ⟨q0, v0, hbk⟩ := h.bk
  rw [hth] at hl
  rw [hel] at hm
  refine ret_enter Tryz.func54 rfl Tryz.ntmps54 rfl ?_
  (repeat refine Zr ?_)
  rw [hi]
  refine s_v (r_ia (size := 9) rfl rfl rfl rfl (by omega) (by omega)) ?_
  refine s_v (r_lda (vs := stC (z, .slice la ln1 lc, .slice ma ln2 mc)) rfl rfl rfl rfl (cellsOf rfl hcw)) ?_
  refine s_al rfl (fun b1 w1 n1 => ?_)
  have g1 := n1.ge
  refine s_st (vs := stC (z, .slice la ln1 lc, .slice ma ln2 mc)) rfl rfl rfl rfl h1c n1.blk (Nat.le_of_ble_eq_true rfl) (fun w2 s2 => ?_)
  have k2 : Kp No w w2 := n1.kp.trans s2.kp (fun _ _ e => by omega)
  have e0 : w2.heap[b1]? = some (.cells (stC (z, .slice la ln1 lc, .slice ma ln2 mc)).toArray 42 (0, 0)) := s2.blk
  have e1 : w2.heap[b1]? = some (.cells [.int .i64 (rootY lo ls y).k, .int .i64 z.f, .int .i64 z.e, sv z.nm, .int .i64 z.n, .int .i64 (rootY lo ls y).a, .int .i64 z.b, .slice la ln1 lc, .slice ma ln2 mc].toArray 42 (0, 0)) := by rw [← hkk, ← ha]; exact e0
  clear hkk ha
  have h2 := h.no k2
  have kw2 : KB w0.heap.size b w w2 := KB.no k2
  have bk2 := k2.get0 hbk
  have hb1 : b1 ≠ b := h2.ne e0 rfl
  have trv : True := trivial
  have hd := fun (w' : World) (hw : Kp No w2 w') => hw.get0 e1
  have hd0 := fun (w' : World) (hw : Kp No w2 w') => hw.get0 e0
  -- a statement without a block
  have one : isS y = true → ∀ m1, Kp No w2 m1 → Ret Tryz.prog 84 [.pointer (some ⟨b, 0, none⟩), .agg (stC (z, .slice la ln1 lc, .slice ma ln2 mc)).toArray] m1 fun v w1 => (∃ s, v = .string s ∧ B s = sT y) ∧ Kp No m1 w1 := fun hS m1 q1 =>
    simpleF hS hw lo ls b _ _ _ q0 v0 _ _ z hb h1c m1 ((h2.no q1).gl hg) ((h2.no q1).tr ht) hn (q1.get0 bk2) hs
  by_cases hS : isS y = true
  · have k5 : ((rootY lo ls y).k == 5) = false := by cases y <;> first | rfl | cases hS
    have k6 : ((rootY lo ls y).k == 6) = false := by cases y <;> first | rfl | cases hS
    have hT := sT_tY hS false d
    rw [hT] at hz ⊢
    rw [List.length_append, List.length_singleton] at hz
    (repeat refine Zr ?_)
    refine c_f (congrArg Value.bool k5) ?_
    (repeat refine Zr ?_)
    refine c_f (congrArg Value.bool k6) ?_
    (repeat refine Zr ?_)
    refine k_h (fun w' => Kp No w2 w') [(0, false), (1, false), (2, false), (3, false), (4, false), (5, true), (6, false), (7, true)] 7 (by kernel_rfl) (by exact waits_of_last (by kernel_rfl)) (by kernel_rfl) (by kernel_rfl) rfl rfl (fun m1 q1 _ => ?_)
    refine h_v q1 (fun w' hw => r_mv rfl) ?_
    refine h_v q1 (fun w' hw => r_nc rfl) ?_
    refine h_v q1 (fun w' hw => r_fa rfl rfl) ?_
    refine h_v q1 (fun w' hw => r_mv rfl) ?_
    refine h_v q1 (fun w' hw => r_lwb rfl (hd0 w' hw) rfl rfl) ?_
    refine h_call (us := []) (zs := []) (by kernel_rfl) rfl rfl (one hS m1 q1) ?_
    rintro _ m2 ⟨⟨s, rfl, hB⟩, q2⟩
    have q12 := q1.no q2
    have hsz := szB hB
    refine ⟨fun _ => q12, ?_⟩
    (repeat (first | refine Zhq ?_ | refine Zhgn ?_ | refine Zhgu ?_ | refine Zhgv ?_))
    obtain ⟨s', hs', hB', hz'⟩ := cat_name s ⟨#[59]⟩
    rw [hs']
    rw [show (ByteArray.mk #[59]).size = 1 from rfl] at hz'
    refine h_call (us := []) (zs := []) (by kernel_rfl) rfl rfl (WriteString w0 _ _ _ b bs s' m2 (h2.no q12) (by omega)) ?_
    rintro _ m3 ⟨h3, q3⟩
    refine ⟨fun h => (h rfl).elim, ?_⟩
    refine h_nil ?_
    (repeat refine Zr ?_)
    refine end_0 rfl ⟨?_, (kw2.trans (KB.no q12)).trans q3⟩
    rw [hB', hB] at h3
    exact h3
  clear hd0 one
  cases y with
  | nil => cases hsy
  | cons _ _ => cases hsy
  | sif x th el =>
    obtain ⟨hxa, hwa, hi1, hw1, hi2, hw2⟩ := hw
    obtain ⟨ho1, ho2, ho3, ho4⟩ := hok
    have hs1 : Sg S.ex lo (fl lo x) := hs.left
    have hsr := hs.right (fl_len x lo)
    have hs2 : Sg S.ex (lo + sz x) (fx (lo + sz x) th) := hsr.left
    have hs3 : Sg S.ex (lo + sz x + zx th) (fx (lo + sz x + zx th) el) := hsr.right (fx_len th (lo + sz x))
    have hy1 : SgY S.st ls (fy (lo + sz x) ls th) := hy.left
    have hy2 : SgY S.st (ls + zy th) (fy (lo + sz x + zx th) (ls + zy th) el) := (hy.right (fy_len th (lo + sz x) ls)).left
    have hza := Nat.le_trans (Sg.le hs1) hn
    have hta := eT_size hwa hza
    have hT : tY (.sif x th el) false d = wIf ++ 32 :: (eT x ++ 32 :: (blk d (tY th false (d + 1)) ++ elT el d)) := rfl
    rw [hT] at hz ⊢
    simp only [List.length_append, List.length_cons, show wIf.length = 2 from rfl] at hz
    (repeat (first | refine Zr ?_ | refine c_t rfl ?_ | refine c_f rfl ?_))
    refine k_h (fun w' => Kp No w2 w') [(0, false), (1, false), (2, false), (3, false), (4, false), (5, false), (6, true), (7, false), (8, false), (9, true)] 9 (by kernel_rfl) (by exact waits_of_last (by kernel_rfl)) (by kernel_rfl) (by kernel_rfl) rfl rfl (fun m1 q1 _ => ?_)
    (repeat (first | refine Zhq ?_ | refine Zhgn ?_ | refine Zhgu ?_ | refine Zhgv ?_))
    refine h_call (us := []) (zs := []) (by kernel_rfl) rfl rfl ((exprA x).1 lo b _ _ _ q0 v0 m1 ((h2.no q1).gl hg) ((h2.no q1).tr ht) (q1.get0 bk2) hs1 hxa hwa hza) ?_
    rintro _ m2 ⟨⟨s, rfl, hB⟩, q2⟩
    have q12 := q1.no q2
    have hsz := szB hB
    refine ⟨fun _ => q12, ?_⟩
    (repeat (first | refine Zhq ?_ | refine Zhgn ?_ | refine Zhgu ?_ | refine Zhgv ?_))
    obtain ⟨s', hs', hB', hz'⟩ := cat_name ⟨#[105, 102, 32]⟩ s
    rw [hs']
    rw [show (ByteArray.mk #[105, 102, 32]).size = 3 from rfl] at hz'
    obtain ⟨s'', hs'', hB'', hz''⟩ := cat_name s' ⟨#[32]⟩
    rw [hs'']
    rw [show (ByteArray.mk #[32]).size = 1 from rfl] at hz''
    refine h_call (us := []) (zs := []) (by kernel_rfl) rfl rfl (WriteString w0 _ _ _ b bs s'' m2 (h2.no q12) (by omega)) ?_
    rintro _ m3 ⟨h3, q3⟩
    refine ⟨fun h => (h rfl).elim, ?_⟩
    refine h_nil ?_
    have e3 := q3.get (q12.get0 e1) hb1 rfl
    have kw3 := (kw2.trans (KB.no q12)).trans q3
    have hl3 : (bs ++ B s'').length = bs.length + ((eT x).length + 4) := by rw [List.length_append, B_len]; omega
    (repeat refine Zr ?_)
    refine s_call (us := []) (zs := []) (by kernel_rfl) rfl rfl (blockF (lo + sz x) ls (hE.1 _ _) d b dI (k + 1) _ _ _ _ _ w0 m3 hg ht hn h3 hs2 hy1 hi1 hw1 ho3 hdI (by omega) ho2 hl (by omega)) ?_
    rintro _ m4 ⟨h4, q4⟩
    have e4 := q4.get e3 hb1 rfl
    have kw4 := kw3.trans q4
    (repeat refine Zr ?_)
    have e4' := q4.get (q3.get (q12.get0 e0) hb1 rfl) hb1 rfl
    refine s_v (r_lwb rfl e4' rfl rfl) ?_
    (repeat refine Zr ?_)
    refine s_call (us := []) (zs := []) (by kernel_rfl) rfl rfl (otherF hE.2 (lo + sz x + zx th) (ls + zy th) d b dI (k + 1) _ _ _ _ _ z _ w0 m4 hg ht hn h4 hs3 hy2 hi2 hw2 ho4 hdI (by omega) ho2 hm (by rw [List.length_append, hl3]; omega)) ?_
    rintro _ m5 ⟨h5, q5⟩
    (repeat refine Zr ?_)
    refine end_0 rfl ⟨?_, kw4.trans q5⟩
    rw [hB'', hB', hB] at h5
    have e : bs ++ wIf ++ 32 :: (eT x ++ 32 :: (blk d (tY th false (d + 1)) ++ elT el d)) = bs ++ (B ⟨#[105, 102, 32]⟩ ++ eT x ++ B ⟨#[32]⟩) ++ blk d (tY th false (d + 1)) ++ elT el d := by simp [B, wIf]
    rw [← List.append_assoc, e]
    exact h5
  | swh x th =>
    obtain ⟨hxa, hwa, hi1, hw1⟩ := hw
    obtain ⟨ho1, ho2, ho3⟩ := hok
    have hs1 : Sg S.ex lo (fl lo x) := hs.left
    have hs2 : Sg S.ex (lo + sz x) (fx (lo + sz x) th) := hs.right (fl_len x lo)
    have hy1 : SgY S.st ls (fy (lo + sz x) ls th) := hy.left
    have hza := Nat.le_trans (Sg.le hs1) hn
    have hta := eT_size hwa hza
    have hT : tY (.swh x th) false d = wWhile ++ 32 :: (eT x ++ 32 :: blk d (tY th false (d + 1))) := rfl
    rw [hT] at hz ⊢
    simp only [List.length_append, List.length_cons, show wWhile.length = 5 from rfl] at hz
    (repeat (first | refine Zr ?_ | refine c_t rfl ?_ | refine c_f rfl ?_))
    refine k_h (fun w' => Kp No w2 w') [(0, false), (1, false), (2, false), (3, false), (4, false), (5, false), (6, true), (7, false), (8, false), (9, true)] 9 (by kernel_rfl) (by exact waits_of_last (by kernel_rfl)) (by kernel_rfl) (by kernel_rfl) rfl rfl (fun m1 q1 _ => ?_)
    (repeat (first | refine Zhq ?_ | refine Zhgn ?_ | refine Zhgu ?_ | refine Zhgv ?_))
    refine h_call (us := []) (zs := []) (by kernel_rfl) rfl rfl ((exprA x).1 lo b _ _ _ q0 v0 m1 ((h2.no q1).gl hg) ((h2.no q1).tr ht) (q1.get0 bk2) hs1 hxa hwa hza) ?_
    rintro _ m2 ⟨⟨s, rfl, hB⟩, q2⟩
    have q12 := q1.no q2
    have hsz := szB hB
    refine ⟨fun _ => q12, ?_⟩
    (repeat (first | refine Zhq ?_ | refine Zhgn ?_ | refine Zhgu ?_ | refine Zhgv ?_))
    obtain ⟨s', hs', hB', hz'⟩ := cat_name ⟨#[119, 104, 105, 108, 101, 32]⟩ s
    rw [hs']
    rw [show (ByteArray.mk #[119, 104, 105, 108, 101, 32]).size = 6 from rfl] at hz'
    obtain ⟨s'', hs'', hB'', hz''⟩ := cat_name s' ⟨#[32]⟩
    rw [hs'']
    rw [show (ByteArray.mk #[32]).size = 1 from rfl] at hz''
    refine h_call (us := []) (zs := []) (by kernel_rfl) rfl rfl (WriteString w0 _ _ _ b bs s'' m2 (h2.no q12) (by omega)) ?_
    rintro _ m3 ⟨h3, q3⟩
    refine ⟨fun h => (h rfl).elim, ?_⟩
    refine h_nil ?_
    have e3 := q3.get (q12.get0 e1) hb1 rfl
    have kw3 := (kw2.trans (KB.no q12)).trans q3
    have hl3 : (bs ++ B s'').length = bs.length + ((eT x).length + 7) := by rw [List.length_append, B_len]; omega
    (repeat refine Zr ?_)
    refine s_call (us := []) (zs := []) (by kernel_rfl) rfl rfl (blockF (lo + sz x) ls (hE _ _) d b dI (k + 1) _ _ _ _ _ w0 m3 hg ht hn h3 hs2 hy1 hi1 hw1 ho3 hdI (by omega) ho2 hl (by omega)) ?_
    rintro _ m4 ⟨h4, q4⟩
    (repeat refine Zr ?_)
    refine end_0 rfl ⟨?_, kw3.trans q4⟩
    rw [hB'', hB', hB] at h4
    have e : bs ++ wWhile ++ 32 :: (eT x ++ 32 :: blk d (tY th false (d + 1))) = bs ++ (B ⟨#[119, 104, 105, 108, 101, 32]⟩ ++ eT x ++ B ⟨#[32]⟩) ++ blk d (tY th false (d + 1)) := by simp [B, wWhile]
    rw [← List.append_assoc, e]
    exact h4
  | _ => exact absurd rfl hS
/-- Of any statement. -/
theorem stmtA {S : PS} : ∀ y : Y, SC S y ∧ RC S y := by
  intro y
  have no : ∀ {y : Y}, isY y = false → SC S y := fun h lo ls d b dI k ux us uf bs w0 w _ _ _ _ _ _ hy => by rw [h] at hy; cases hy
  induction y with
  | sif x th el ih1 ih2 => exact ⟨stmtF ⟨ih1.2, ih2.2⟩, fun lo ls p hp => by cases hp⟩
  | swh x th ih => exact ⟨stmtF ih.2, fun lo ls p hp => by cases hp⟩
  | nil => exact ⟨no rfl, fun lo ls p hp => by cases hp⟩
  | cons s l ihs ihl =>
    refine ⟨no rfl, fun lo ls p hp => ?_⟩
    rcases List.mem_cons.1 hp with rfl | hp
    · exact ihs.1
    · exact ihl.2 _ _ p hp
  | _ => exact ⟨stmtF trivial, fun lo ls p hp => by cases hp⟩
end Pr
end Go.Proofs.YtfnbgbeinmekgaaGreatDoor
namespace Go.Proofs.YtfnbgbeinmekgaaGreatDoor.Pt
open Go Sy Nu
set_option linter.unusedVariables false
def elsF (lo ls : Nat) : List F → List (Nat × Nat × F)
  | [] => []
  | f :: r => (lo, ls, f) :: elsF (lo + zx f.bd) (ls + zy f.bd) r
theorem pF_els : ∀ (fs : List F) (lo ls : Nat), pF ls fs = (elsF lo ls fs).map fun p => { nm := p.2.2.nm, ps := p.2.2.ps, ty := p.2.2.ty, bd := rys p.2.1 p.2.2.bd } := by
  intro fs
  induction fs with
  | nil => intro lo ls; rfl
  | cons f r ih => intro lo ls; simp [pF, elsF, ih (lo + zx f.bd)]
theorem elsF_fs : ∀ (fs : List F) (lo ls : Nat), (elsF lo ls fs).map (fun p => p.2.2) = fs := by
  intro fs
  induction fs with
  | nil => intro lo ls; rfl
  | cons f r ih => intro lo ls; simp [elsF, ih]
theorem elsF_len (fs : List F) (lo ls : Nat) : (elsF lo ls fs).length = fs.length := by
  have := congrArg List.length (elsF_fs fs lo ls); rwa [List.length_map] at this
theorem elsF_at : ∀ (fs : List F) (lo ls : Nat) {ex : List Ex} {st : List St}, Sg ex lo (pX lo fs) → SgY st ls (pS lo ls fs) → ∀ p ∈ elsF lo ls fs, p.2.2 ∈ fs ∧ Sg ex p.1 (fx p.1 p.2.2.bd) ∧ SgY st p.2.1 (fy p.1 p.2.1 p.2.2.bd) := by
  intro fs
  induction fs with
  | nil => intro lo ls ex st _ _ p hp; cases hp
  | cons f r ih =>
    intro lo ls ex st hs hy p hp
    rcases List.mem_cons.1 hp with rfl | hp
    · exact ⟨List.mem_cons_self, hs.left, hy.left⟩
    · obtain ⟨h1, h2, h3⟩ := ih _ _ (hs.right (fx_len f.bd lo)) (hy.right (fy_len f.bd lo ls)) p hp
      exact ⟨List.mem_cons_of_mem _ h1, h2, h3⟩
theorem jnF_len {f : F} (h : wfF f) : (jnP f.ps).length ≤ 400080000 := by
  have := jnP_len f.ps 20000 fun p hp => (h.ps p hp).2
  have h2 := h.pl
  have h3 := Nat.mul_le_mul_right (20000 + 2) h2
  omega
theorem tF_len {f : F} (h : wfF f) : (tF f).length ≤ 400200000 + zx f.bd * 20100 + zy f.bd * 21000 := by
  have h1 := jnF_len h
  have h2 := tY_len f.bd false 1 1 h.wf h.ok (by omega) (by omega)
  have h3 := h.nm.2
  have h4 : (if f.ty = 1 then wInt ++ [32] else []).length ≤ 4 := by split <;> simp [wInt]
  simp only [tF, List.length_append, List.length_cons, List.length_nil, blk_len, show wFunc.length = 4 from rfl] at *
  omega
theorem tP_len : ∀ (fs : List F), (∀ f ∈ fs, wfF f) → (tP fs).length ≤ fs.length * 400200000 + px fs * 20100 + pz fs * 21000 := by
  intro fs
  induction fs with
  | nil => intro _; simp [tP]
  | cons f r ih =>
    intro h
    have h1 := tF_len (h f (by simp))
    have h2 := ih fun g hg => h g (by simp [hg])
    have e : tP (f :: r) = tF f ++ tP r := rfl
    have e1 : px (f :: r) = zx f.bd + px r := by simp [px]
    have e2 : pz (f :: r) = zy f.bd + pz r := by simp [pz]
    rw [e, e1, e2, List.length_append, List.length_cons]
    omega
/-- How much a parsed program has. -/
theorem Is.px {S : PS} {fs : List F} (h : Is S fs) : px fs = S.ex.length := by
  have := congrArg List.length h.ex
  rw [List.length_map, pX_len] at this
  exact this.symm
theorem Is.fl {S : PS} {fs : List F} (h : Is S fs) : S.fn.length = fs.length := by
  have := congrArg List.length h.fn
  rw [List.length_map, pF_els fs 0 0, List.length_map, elsF_len] at this
  exact this
theorem fcts_ex {E : Env} {m : Nat} : ∀ n s t x, fcts E m n s = .ok x t → t.ex.length + s.i ≤ s.ex.length + t.i := by
  intro n
  induction n with
  | zero => intro s t x h; cases h
  | succ n ih =>
    intro s t x h
    unfold fcts at h
    split at h
    · cases h; exact Nat.le_refl _
    · obtain ⟨_, s1, h1, h2⟩ := bind_inv h
      have u := fct_up h1
      have i1 := ih _ _ _ h2
      omega
theorem prs_small {L : List Int} {S : PS} (h : prs L = .ok () S) : S.ex.length ≤ L.length ∧ S.st.length ≤ L.length := by
  obtain ⟨ht, _, hf⟩ := txt_of h
  have he := (prs_end h).1
  have hT := env_T L
  have h1 := fcts_ex _ _ _ _ hf
  have h2 := (fcts_st _ _ _ _ hf).2.2.2
  simp only [List.length_nil] at h1 h2
  omega
theorem bl_in (d : Nat) : InB (bl d) := fun c hc => by have := (List.mem_replicate.1 hc).2; omega
theorem blk_in {d : Nat} {t : List Int} (h : InB t) : InB (blk d t) := in_cons (by omega) (in_cons (by omega) (in_app h (in_app (bl_in d) (in_lit rfl))))
theorem tY_in : ∀ (y : Y) (b : Bool) (d : Nat), wfY y → InB (tY y b d) := by
  intro y
  induction y with
  | svar w x => intro b d h; exact in_app (in_lit rfl) (in_cons (by omega) (in_app (nm_in h.1) (in_cons (by omega) (in_cons (by omega) (in_cons (by omega) (in_app (eT_in x h.2.2) (in_lit rfl)))))))
  | sarr w n => intro b d h; exact in_app (in_lit rfl) (in_cons (by omega) (in_app (nm_in h.1) (in_cons (by omega) (in_app (dc_in n) (in_lit rfl)))))
  | sset w x => intro b d h; exact in_app (nm_in h.1) (in_cons (by omega) (in_cons (by omega) (in_cons (by omega) (in_app (eT_in x h.2.2) (in_lit rfl)))))
  | sput w x y => intro b d h; exact in_app (nm_in h.1) (in_cons (by omega) (in_app (eT_in x h.2.2.1) (in_cons (by omega) (in_cons (by omega) (in_cons (by omega) (in_cons (by omega) (in_app (eT_in y h.2.2.2.2) (in_lit rfl))))))))
  | sif x th el iha ihb =>
    intro b d h
    refine in_app (in_lit rfl) (in_cons (by omega) (in_app (eT_in x h.2.1) (in_cons (by omega) (in_app (blk_in (iha _ _ h.2.2.2.1)) ?_))))
    split
    · exact in_lit rfl
    · refine in_cons (by omega) (in_app (in_lit rfl) (in_cons (by omega) ?_))
      split
      · exact ihb _ _ h.2.2.2.2.2
      · exact blk_in (ihb _ _ h.2.2.2.2.2)
  | swh x th iha => intro b d h; exact in_app (in_lit rfl) (in_cons (by omega) (in_app (eT_in x h.2.1) (in_cons (by omega) (blk_in (iha _ _ h.2.2.2)))))
  | brk => intro b d _; exact in_lit rfl
  | cnt => intro b d _; exact in_lit rfl
  | ret0 => intro b d _; exact in_lit rfl
  | ret x => intro b d h; exact in_app (in_lit rfl) (in_cons (by omega) (in_app (eT_in x h.2) (in_lit rfl)))
  | prn x => intro b d h; exact in_app (in_lit rfl) (in_cons (by omega) (in_app (eT_in x h.2) (in_lit rfl)))
  | scl x => intro b d h; exact in_app (eT_in x h.2) (in_lit rfl)
  | nil => intro b d _; exact in_lit rfl
  | cons s l ihs ihl =>
    intro b d h
    cases b
    · exact in_app (bl_in d) (in_app (ihs _ _ h.2.2.1) (in_cons (by omega) (ihl _ _ h.2.2.2)))
    · exact ihs _ _ h.2.2.1
theorem jnP_in : ∀ ps : List (List Int), (∀ p ∈ ps, InB p) → InB (jnP ps) := by
  intro ps
  induction ps with
  | nil => intro _; exact in_lit rfl
  | cons p r ih =>
    intro h
    cases r with
    | nil => exact h p (by simp)
    | cons q r => exact in_app (h p (by simp)) (in_cons (by omega) (in_cons (by omega) (ih fun x hx => h x (by simp [hx]))))
theorem tF_in {f : F} (h : wfF f) : InB (tF f) := by
  refine in_app (in_lit rfl) (in_cons (by omega) (in_app (nm_in h.nm) (in_cons (by omega) (in_app (jnP_in f.ps fun p hp => nm_in (h.ps p hp)) (in_cons (by omega) (in_cons (by omega) (in_app ?_ (in_app (blk_in (tY_in _ _ _ h.wf)) (in_lit rfl)))))))))
  split <;> exact in_lit rfl
theorem tP_in {fs : List F} (h : ∀ f ∈ fs, wfF f) : InB (tP fs) := fun c hc => by
  obtain ⟨f, hf, hc⟩ := List.mem_flatMap.1 hc
  exact tF_in (h f hf) c hc
end Go.Proofs.YtfnbgbeinmekgaaGreatDoor.Pt
namespace Go.Proofs.YtfnbgbeinmekgaaGreatDoor
open Go Go.RowKit Fw Nu Sy Pt
set_option linter.unusedVariables false
set_option maxRecDepth 20000
namespace Pr
theorem LS.at {w : World} {v : Value} {l : List (List Int)} (h : LS w v l) : ∃ a c, v = .slice a l.length c ∧ l.length ≤ c ∧ ∀ (j : Nat) x, l[j]? = some x → ∃ g, a = some ⟨g, 0, none⟩ ∧ g < w.heap.size ∧ w.cell? ⟨g, 0 + j, none⟩ = some (.string (strOfNums x)) := by
  obtain ⟨a, c, e, hc1, h0, hc⟩ := own_read h
  subst e
  refine ⟨a, c, rfl, hc1, fun j x hj => ?_⟩
  have hjl := (List.getElem?_eq_some_iff.1 hj).1
  cases a with
  | none => have := h0 rfl; omega
  | some ad =>
    obtain ⟨g, rfl, _, _, hcell⟩ := hc _ rfl
    exact ⟨g, rfl, (own_lt h rfl).2, hcell _ _ (by rw [List.getElem?_map, hj]; rfl)⟩
theorem JoinP {ps : List (List Int)} {v : Value} {w : World} (h : LS w v ps) (hp : ∀ p ∈ ps, NmW p) (hl : ps.length ≤ 20001) : ∃ a c, v = .slice a ps.length c ∧ Ret Tryz.prog 25 [.slice a ps.length c, .string ⟨#[44, 32]⟩] w fun v w1 => (∃ s, v = .string s ∧ B s = jnP ps) ∧ Kp No w w1 := by
  obtain ⟨a, c, rfl, hcc, hat⟩ := LS.at h
  refine ⟨a, c, rfl, ?_⟩
  have hmap : (ps.map strOfNums).map B = ps := by
    rw [List.map_map]
    conv => rhs; rw [← List.map_id ps]
    exact List.map_congr_left fun p hp' => B_nums (nm_in (hp p hp'))
  have hlen : (ps.map strOfNums).length = ps.length := List.length_map _
  have hJ := Join (ps.map strOfNums) a c w (fun j x hx => by
    rw [List.getElem?_map, Option.map_eq_some_iff] at hx
    obtain ⟨p, hp, rfl⟩ := hx
    exact hat j p hp) (by omega) (by omega) (by
    rw [hmap]
    have := jnP_len ps 20000 fun p hp' => (hp p hp').2
    have := Nat.mul_le_mul_right (20000 + 2) hl
    omega)
  rw [hmap, hlen] at hJ
  exact hJ
set_option maxHeartbeats 8000000 in
theorem PrintF {S : PS} {fs : List F} (hI : Is S fs) (hne : fs ≠ []) (ux us uf : Value) (w : World) (hg : Glob w) (ht : Tr w ux us uf S) (hn : S.ex.length ≤ 20001) (hn2 : S.st.length ≤ 20001) :
    Ret Tryz.prog 9 [.agg #[ux, us, uf]] w fun v w1 => (∃ s, v = .string s ∧ B s = tP fs) ∧ Kp No w w1 := by
  obtain ⟨L, hL⟩ : ∃ L, elsF 0 0 fs = L := ⟨_, rfl⟩
  have hat := elsF_at fs 0 0 (ex := S.ex) (st := S.st) ⟨[], by rw [List.drop_zero, List.append_nil]; exact hI.ex⟩ ⟨[], by rw [List.drop_zero, List.append_nil]; exact hI.st⟩
  have hfs := elsF_fs fs 0 0
  have hfn := hI.fn
  rw [pF_els fs 0 0] at hfn
  rw [hL] at hat hfs hfn
  have hfl : S.fn.length = L.length := by have := congrArg List.length hfn; simpa using this
  have hL32 : L.length ≤ 32 := by have := hI.len; omega
  have hT : tP fs = L.flatMap fun p => tF p.2.2 := by rw [← hfs]; unfold tP; rw [List.flatMap_map]
  have hTl : (tP fs).length ≤ 100000000000 := by
    have := tP_len fs hI.wf
    have h1 := hI.px
    have h2 := hI.pz
    have h3 := hI.fl
    have h4 := hI.len
    rw [h1, h2] at this
    have h5 := Nat.mul_le_mul_right 400200000 (show fs.length ≤ 32 by omega)
    have h6 := Nat.mul_le_mul_right 20100 hn
    have h7 := Nat.mul_le_mul_right 21000 hn2
    omega
  have hin := tP_in hI.wf
  have hTne : tP fs ≠ [] := by
    cases fs with
    | nil => exact absurd rfl hne
    | cons f r => intro e; have := congrArg List.length e; simp [tP, tF, wFunc] at this
  obtain ⟨xa, sa, fa, xc, sc, fc, rfl, rfl, rfl⟩ := ht.val
  refine ret_enter Tryz.func9 rfl Tryz.ntmps9 rfl ?_
  (repeat refine Zr ?_)
  refine s_box (cs := [.slice xa S.ex.length xc, .slice sa S.st.length sc, .slice fa S.fn.length fc]) rfl rfl (fun b1 w1 n1 => ?_)
  have e1 : w1.heap[b1]? = some (.cells [.slice xa S.ex.length xc, .slice sa S.st.length sc, .slice fa S.fn.length fc].toArray 27 (0, 0)) := n1.blk
  (repeat refine Zr ?_)
  refine s_v (r_lwb rfl e1 rfl rfl) ?_
  refine s_v (r_bd rfl) ?_
  refine s_box (cs := [.slice xa S.ex.length xc, .slice sa S.st.length sc, .slice fa S.fn.length fc, .pointer none, .slice none 0 0]) rfl rfl (fun b w2 n2 => ?_)
  have e2 := n2.kp.get0 e1
  have k2 := n1.kp.no n2.kp
  have hW : Wr w (.slice xa S.ex.length xc) (.slice sa S.st.length sc) (.slice fa S.fn.length fc) b [] w2 :=
    ⟨Nat.le_trans n1.kp.size n2.ge, k2.mono fun _ _ h => h.elim, .pointer none, none, 0, .inl rfl, n2.blk, rfl, .inl ⟨rfl, rfl⟩⟩
  (repeat refine Zr ?_)
  refine k_loop (σ := Nat) (fun j => [(3, .pointer (some ⟨b, 0, none⟩)), (10, .slice fa S.fn.length fc), (11, .int .i64 (S.fn.length : Int)), (12, .int .i64 (j : Int))])
    (fun j m => j ≤ L.length ∧ Wr w (.slice xa S.ex.length xc) (.slice sa S.st.length sc) (.slice fa S.fn.length fc) b ((L.take j).flatMap fun p => tF p.2.2) m) (fun j => L.length - j) 0 ⟨rfl, rfl, rfl, rfl, trivial⟩ ⟨Nat.zero_le _, hW⟩ ?_
  rintro j lr m ⟨hj, hm⟩
  (repeat refine Zr ?_)
  refine c_dec rfl (fun hlt => ?_) (fun hge => ?_)
  · obtain ⟨p, hp⟩ : ∃ p, L[j]? = some p := ⟨_, List.getElem?_eq_getElem (by omega)⟩
    have hpm := List.mem_of_getElem? hp
    obtain ⟨p1, p2, p3⟩ := hat p hpm
    have hwf := hI.wf _ p1
    obtain ⟨x, hx⟩ : ∃ x, S.fn[j]? = some x := ⟨_, List.getElem?_eq_getElem (by omega)⟩
    have hbx : bf x = { nm := p.2.2.nm, ps := p.2.2.ps, ty := p.2.2.ty, bd := rys p.2.1 p.2.2.bd } := by
      have := congrArg (fun l => l[j]?) hfn
      simpa [hx, hp] using this
    have hnm : x.nm = p.2.2.nm := (congrArg Fn.nm hbx : (bf x).nm = _)
    have hps : x.ps = p.2.2.ps := (congrArg Fn.ps hbx : (bf x).ps = _)
    have hty : x.ty = p.2.2.ty := (congrArg Fn.ty hbx : (bf x).ty = _)
    have hbd : x.bd = rys p.2.1 p.2.2.bd := (congrArg Fn.bd hbx : (bf x).bd = _)
    obtain ⟨g, lv, mv, rfl, hls, hli, hc⟩ := ht.fn hx
    rw [hps] at hls
    rw [hbd] at hli
    obtain ⟨la, lc, rfl⟩ := Sy.LS.val hls
    obtain ⟨ma, mc, rfl⟩ := Sy.LI.val hli
    have hcw : ∀ (q : Nat) (u : Value), (fnC (x, .slice la p.2.2.ps.length lc, .slice ma (rys p.2.1 p.2.2.bd).length mc))[q]? = some u → m.cell? ⟨g, 0 + (j : Int).toNat * 6 + q, none⟩ = some u := fun q u hj => cellsW hm (hc q u hj)
    have hfs2 := flat_take_succ (fun p : Nat × Nat × F => tF p.2.2) L j p hp
    have hfl2 := flat_take_le (fun p : Nat × Nat × F => tF p.2.2) L (j + 1)
    rw [hfs2, List.length_append, ← hT] at hfl2
    obtain ⟨A, hA⟩ : ∃ A, (L.take j).flatMap (fun p : Nat × Nat × F => tF p.2.2) = A := ⟨_, rfl⟩
    rw [hA] at hm hfl2 hfs2
    have hFl : (tF p.2.2).length = 4 + 1 + p.2.2.nm.length + 1 + (jnP p.2.2.ps).length + 2 + (if p.2.2.ty = 1 then wInt ++ [32] else []).length + (blk 0 (tY p.2.2.bd false 1)).length + 1 := by
      simp only [tF, List.length_append, List.length_cons, List.length_nil, show wFunc.length = 4 from rfl]; omega
    obtain ⟨hnB, hnz⟩ := nmB hwf.nm
    obtain ⟨Z, hZ⟩ : ∃ Z, (if p.2.2.ty = 1 then wInt ++ [32] else []) = Z := ⟨_, rfl⟩
    rw [hZ] at hFl
    (repeat refine Zr ?_)
    refine s_v (r_ia (size := 6) (i := j) rfl rfl rfl rfl (by omega) (by omega)) ?_
    refine s_v (r_lda (vs := fnC (x, .slice la p.2.2.ps.length lc, .slice ma (rys p.2.1 p.2.2.bd).length mc)) rfl rfl rfl rfl (cellsOf rfl hcw)) ?_
    refine s_al rfl (fun b5 w5 n5 => ?_)
    have g5 := n5.ge
    refine s_st (vs := fnC (x, .slice la p.2.2.ps.length lc, .slice ma (rys p.2.1 p.2.2.bd).length mc)) rfl rfl rfl rfl rfl n5.blk (Nat.le_of_ble_eq_true rfl) (fun w6 s6 => ?_)
    have k6 : Kp No m w6 := n5.kp.trans s6.kp (fun _ _ e => by omega)
    have e6 : w6.heap[b5]? = some (.cells [.string (strOfNums p.2.2.nm), .int .i64 x.f, .int .i64 x.e, .slice la p.2.2.ps.length lc, .int .i64 p.2.2.ty, .slice ma (rys p.2.1 p.2.2.bd).length mc].toArray 62 (0, 0)) := by rw [← hnm, ← hty]; exact s6.blk
    have hm6 := hm.no k6
    have hb5 : b5 ≠ b := hm6.ne e6 rfl
    (repeat refine Zr ?_)
    refine k_h (fun w' => Kp No w6 w') [(0, false), (1, false), (2, false), (3, false), (4, false), (5, false), (6, false), (7, false), (8, false), (9, true), (10, false), (11, false), (12, true)] 12 (by kernel_rfl) (by exact waits_of_last (by kernel_rfl)) (by kernel_rfl) (by kernel_rfl) rfl rfl (fun m1 q1 _ => ?_)
    have hd := fun (w' : World) (hw : Kp No w6 w') => hw.get0 e6
    (repeat (first | refine Zhq ?_ | refine Zhgn ?_ | refine Zhgu ?_ | refine Zhgv ?_))
    obtain ⟨a', c', ej, hJ⟩ := JoinP ((hm6.no q1).ls hls) hwf.ps hwf.pl
    cases ej
    refine h_call (us := []) (zs := []) (by kernel_rfl) rfl rfl hJ ?_
    rintro _ m2 ⟨⟨s, rfl, hB⟩, q2⟩
    have q12 := q1.no q2
    have hsz := szB hB
    have hjl := jnF_len hwf
    refine ⟨fun _ => q12, ?_⟩
    (repeat (first | refine Zhq ?_ | refine Zhgn ?_ | refine Zhgu ?_ | refine Zhgv ?_))
    obtain ⟨s', hs', hB', hz'⟩ : ∃ s', ((ByteArray.mk #[102, 117, 110, 99, 32] ++ strOfNums p.2.2.nm ++ ByteArray.mk #[40]) ++ s) ++ ByteArray.mk #[41, 32] = s' ∧ B s' = wFunc ++ 32 :: (p.2.2.nm ++ 40 :: (jnP p.2.2.ps ++ [41, 32])) ∧ s'.size = 8 + p.2.2.nm.length + (jnP p.2.2.ps).length := by
      refine ⟨_, rfl, by simp only [B_append, hB, hnB]; simp [B, wFunc], ?_⟩
      simp only [ByteArray.size_append, lit_size, strOfNums_size, hsz]; simp; omega
    rw [hs']
    refine h_call (us := []) (zs := []) (by kernel_rfl) rfl rfl (WriteString w _ _ _ b A s' m2 (hm6.no q12) (by omega)) ?_
    rintro _ m3 ⟨h3, q3⟩
    refine ⟨fun h => (h rfl).elim, ?_⟩
    refine h_nil ?_
    rw [hB'] at h3
    have e3 := q3.get (q12.get0 e6) hb5 rfl
    (repeat refine Zr ?_)
    refine k_cutc (σ := Unit) (fun _ => [(3, .pointer (some ⟨b, 0, none⟩)), (5, .pointer (some ⟨b5, 0, none⟩)), (10, .slice (some ⟨g, 0, none⟩) S.fn.length fc), (11, .int .i64 (S.fn.length : Int)), (12, .int .i64 (j : Int))])
      (fun _ m' => Wr w (.slice xa S.ex.length xc) (.slice sa S.st.length sc) (.slice (some ⟨g, 0, none⟩) S.fn.length fc) b (A ++ (wFunc ++ 32 :: (p.2.2.nm ++ 40 :: (jnP p.2.2.ps ++ [41, 32]))) ++ Z) m' ∧ KB w.heap.size b m3 m') ?_ ?_
    · refine c_eq rfl (fun q => ?_) (fun q => ?_)
      · (repeat refine Zr ?_)
        refine s_call (us := []) (zs := []) (by kernel_rfl) rfl rfl (WriteString w _ _ _ b _ ⟨#[105, 110, 116, 32]⟩ m3 h3 (by simp only [List.length_append, List.length_cons, List.length_nil, show wFunc.length = 4 from rfl]; show _ + 4 ≤ _; omega)) ?_
        rintro _ m4 ⟨h4, q4⟩
        (repeat refine Zr ?_)
        refine l_cut () ⟨rfl, rfl, rfl, rfl, rfl, trivial⟩ ⟨?_, q4⟩
        rw [← hZ, if_pos q]; exact h4
      · (repeat refine Zr ?_)
        refine l_cut () ⟨rfl, rfl, rfl, rfl, rfl, trivial⟩ ⟨?_, KB.no (Kp.refl _ _)⟩
        rw [← hZ, if_neg q, List.append_nil]; exact h3
    rintro _ lr2 m4 ⟨h4, q4⟩
    have hl4 : (A ++ (wFunc ++ 32 :: (p.2.2.nm ++ 40 :: (jnP p.2.2.ps ++ [41, 32]))) ++ Z).length = A.length + (8 + p.2.2.nm.length + (jnP p.2.2.ps).length) + Z.length := by
      simp only [List.length_append, List.length_cons, List.length_nil, show wFunc.length = 4 from rfl]; omega
    have e4 := q4.get e3 hb5 rfl
    (repeat refine Zr ?_)
    refine s_call (us := []) (zs := []) (by kernel_rfl) rfl rfl (blockF p.1 p.2.1 (fun r hr => (stmtA p.2.2.bd).2 _ _ r hr) 0 b 0 1 _ _ _ _ _ w m4 hg ht hn h4 p2 p3 hwf.is hwf.wf hwf.ok rfl (by omega) (by omega) hli (by rw [hl4]; have e0 : (blk 0 (tY p.2.2.bd false (0 + 1))).length = (blk 0 (tY p.2.2.bd false 1)).length := rfl; omega)) ?_
    rintro _ m5 ⟨h5, q5⟩
    (repeat refine Zr ?_)
    refine s_call (us := []) (zs := []) (by kernel_rfl) rfl rfl (WriteByte w _ _ _ b _ 10 m5 h5 (by rw [List.length_append, hl4]; have e0 : (blk 0 (tY p.2.2.bd false (0 + 1))).length = (blk 0 (tY p.2.2.bd false 1)).length := rfl; omega)) ?_
    rintro _ m6 ⟨h6, q6⟩
    (repeat refine Zr ?_)
    refine l_next (j + 1) ⟨rfl, rfl, rfl, rfl, trivial⟩ ⟨by omega, ?_⟩ (by omega)
    rw [hfs2]
    have e : A ++ tF p.2.2 = A ++ (wFunc ++ 32 :: (p.2.2.nm ++ 40 :: (jnP p.2.2.ps ++ [41, 32]))) ++ Z ++ blk 0 (tY p.2.2.bd false (0 + 1)) ++ [10] := by rw [← hZ]; simp [tF]
    rw [e]; exact h6
  · obtain rfl : j = L.length := by omega
    rw [List.take_length, ← hT] at hm
    (repeat refine Zr ?_)
    refine s_call (us := []) (zs := []) (by kernel_rfl) rfl rfl (String_ w _ _ _ b _ m hm hTne hin (by omega)) ?_
    rintro _ m2 ⟨⟨s, rfl, hB⟩, k3⟩
    (repeat refine Zr ?_)
    exact ret_1 rfl rfl ⟨⟨_, rfl, hB⟩, k3.mono fun i hi hs => by have hs : w.heap.size ≤ i := hs; omega⟩
/-- An expression printed alone. -/
theorem ExprF {S : PS} {x : X} (lo : Nat) (ux us uf : Value) (w : World) (hg : Glob w) (ht : Tr w ux us uf S) (hn : S.ex.length ≤ 20001) (hs : Sg S.ex lo (fl lo x)) (hx : isX x = true) (hw : wf x) :
    Ret Tryz.prog 13 [.agg #[ux, us, uf], .int .i64 (rt lo x)] w fun v w1 => (∃ s, v = .string s ∧ B s = eT x) ∧ Kp No w w1 := by
  obtain ⟨xa, sa, fa, xc, sc, fc, rfl, rfl, rfl⟩ := ht.val
  refine ret_enter Tryz.func13 rfl Tryz.ntmps13 rfl ?_
  (repeat refine Zr ?_)
  refine s_box (cs := [.slice xa S.ex.length xc, .slice sa S.st.length sc, .slice fa S.fn.length fc]) rfl rfl (fun b1 w1 n1 => ?_)
  have e1 : w1.heap[b1]? = some (.cells [.slice xa S.ex.length xc, .slice sa S.st.length sc, .slice fa S.fn.length fc].toArray 27 (0, 0)) := n1.blk
  (repeat refine Zr ?_)
  refine s_v (r_lwb rfl e1 rfl rfl) ?_
  refine s_v (r_bd rfl) ?_
  refine s_box (cs := [.slice xa S.ex.length xc, .slice sa S.st.length sc, .slice fa S.fn.length fc, .pointer none, .slice none 0 0]) rfl rfl (fun b w2 n2 => ?_)
  have k2 := n1.kp.no n2.kp
  (repeat refine Zr ?_)
  refine s_call (us := []) (zs := []) (by kernel_rfl) rfl rfl ((exprA x).1 lo b _ _ _ _ _ w2 (hg.kp k2) (ht.kp k2) n2.blk hs hx hw (Nat.le_trans (Sg.le hs) hn)) ?_
  rintro _ w3 ⟨⟨s, rfl, hB⟩, k3⟩
  (repeat refine Zr ?_)
  exact ret_1 rfl rfl ⟨⟨_, rfl, hB⟩, k2.no k3⟩
end Pr
end Go.Proofs.YtfnbgbeinmekgaaGreatDoor
namespace Go.Proofs.YtfnbgbeinmekgaaGreatDoor.Sy
open Go Go.RowKit Fw
set_option linter.unusedVariables false
/-- Where a parser stands, its tokens and their texts. -/
structure Cx where
  p : Nat
  tv : Value
  wv : Value
  T : List Tk.T3
  wl : List ByteArray
def Cx.E (X : Cx) : Env := ⟨X.T, X.wl.map B⟩
/-- What may change. -/
def Sx (X : Cx) (V : VS) (b : Nat) : Prop := b = X.p ∨ V.x.ownBlock = some b ∨ V.s.ownBlock = some b ∨ V.f.ownBlock = some b
structure Gs (X : Cx) (w : World) (V : VS) (w' : World) (V' : VS) : Prop where
  kp : Kp (Sx X V) w w'
  fr : ∀ b, b < w.heap.size → Sx X V' b → Sx X V b
  fo : ∀ b, b < w.heap.size → V'.o b → V.o b
theorem Gs.refl (X : Cx) (w : World) (V : VS) : Gs X w V w V := ⟨Kp.refl _ _, fun _ _ h => h, fun _ _ h => h⟩
theorem Gs.trans {X : Cx} {w w1 w2 : World} {V V1 V2 : VS} (h : Gs X w V w1 V1) (k : Gs X w1 V1 w2 V2) : Gs X w V w2 V2 :=
  ⟨h.kp.trans k.kp fun i hi hs => h.fr i hi hs, fun b hb hs => h.fr b hb (k.fr b (Nat.lt_of_lt_of_le hb h.kp.size) hs), fun b hb hs => h.fo b hb (k.fo b (Nat.lt_of_lt_of_le hb h.kp.size) hs)⟩
theorem Gs.no {X : Cx} {w w1 w2 : World} {V V1 : VS} (h : Gs X w V w1 V1) (k : Kp No w1 w2) : Gs X w V w2 V1 := ⟨h.kp.no k, h.fr, h.fo⟩
/-- A store into memory of our own. -/
theorem Gs.own {X : Cx} {w w1 w2 : World} {V V1 : VS} {b : Nat} (h : Gs X w V w1 V1) (k : Kp (fun i => i = b) w1 w2) (hb : w.heap.size ≤ b) : Gs X w V w2 V1 :=
  ⟨h.kp.trans k fun i hi e => (by omega), h.fr, h.fo⟩
structure At (X : Cx) (w : World) (s : PS) (V : VS) : Prop where
  blk : w.heap[X.p]? = some (.cells [X.tv, X.wv, .int .i64 (s.i : Int), V.x, V.s, V.f].toArray 56 (0, 0))
  tk : w.ownsRow 0 64 3 X.tv X.T.length (Tk.tc X.T)
  wd : w.ownsRow 0 9 1 X.wv X.wl.length (X.wl.map Value.string)
  xs : RX w V s.ex
  ss : RS w V s.st
  fs : RF w V s.fn
  lt : s.i < X.T.length
  xl : s.ex.length ≤ s.i
  sl : s.st.length ≤ 1000
  fl : s.fn.length ≤ 32
  ob : ∀ b, V.o b → b < w.heap.size
/-- Types that the parser's own memory hasn't. -/
def okT (e : TypeId) : Bool := !(Nat.beq e 56 || Nat.beq e 67 || Nat.beq e 42 || Nat.beq e 62)
theorem At.nsx {X : Cx} {w : World} {s : PS} {V : VS} (h : At X w s V) {g : Nat} {cur : Array Value} {e : TypeId} {fz : Nat × Nat} (hg : w.heap[g]? = some (.cells cur e fz)) (he : okT e = true) : ¬ Sx X V g := by
  simp only [okT, Bool.not_eq_true', Bool.or_eq_false_iff] at he
  obtain ⟨⟨⟨h1, h2⟩, h3⟩, h4⟩ := he
  rintro (hs | hs | hs | hs)
  · exact ty_ne hg h.blk h1 hs
  · obtain ⟨rx, _, ho, _⟩ := h.xs
    obtain ⟨c, hc⟩ := own_ty ho hs
    exact ty_ne hg hc h2 rfl
  · obtain ⟨rx, _, ho, _⟩ := h.ss
    obtain ⟨c, hc⟩ := own_ty ho hs
    exact ty_ne hg hc h3 rfl
  · obtain ⟨rx, _, ho, _⟩ := h.fs
    obtain ⟨c, hc⟩ := own_ty ho hs
    exact ty_ne hg hc h4 rfl
theorem own_gs {X : Cx} {w w' : World} {s : PS} {V : VS} (hA : At X w s V) (k : Kp (Sx X V) w w') {base : Nat} {e : TypeId} {size : Nat} {v : Value} {n : Nat} {cs : List Value} (h : w.ownsRow base e size v n cs) (he : okT e = true) : w'.ownsRow base e size v n cs :=
  own_kp h k fun g hg => by
    obtain ⟨c, hc⟩ := own_ty h hg
    exact hA.nsx hc he
/-- All is kept where nothing of it changes. -/
theorem At.kp {X : Cx} {w w' : World} {s : PS} {V : VS} {S : Nat → Prop} (h : At X w s V) (k : Kp S w w') (h1 : ∀ b, Sx X V b → ¬ S b)
    (h2 : ∀ (g : Nat) (cur : Array Value) (e : TypeId) (fz : Nat × Nat), w.heap[g]? = some (.cells cur e fz) → (e = 3 ∨ e = 9 ∨ e = 64) → ¬ S g) : At X w' s V := by
  have hi : ∀ {v l}, LI w v l → LI w' v l := fun hv => own_kp hv k fun g hg => by
    obtain ⟨c, hc⟩ := own_ty hv hg
    exact h2 g c _ _ hc (.inl rfl)
  have ht : ∀ {v l}, LS w v l → LS w' v l := fun hv => own_kp hv k fun g hg => by
    obtain ⟨c, hc⟩ := own_ty hv hg
    exact h2 g c _ _ hc (.inr (.inl rfl))
  obtain ⟨rx, e1, o1, l1⟩ := h.xs
  obtain ⟨ry, e2, o2, l2⟩ := h.ss
  obtain ⟨rz, e3, o3, l3⟩ := h.fs
  refine ⟨k.get h.blk (h1 _ (.inl rfl)), own_kp h.tk k fun g hg => ?_, own_kp h.wd k fun g hg => ?_, ⟨rx, e1, own_kp o1 k fun g hg => h1 g (.inr (.inl hg)), fun r hr => ⟨hi (l1 r hr).1, (l1 r hr).2⟩⟩,
    ⟨ry, e2, own_kp o2 k fun g hg => h1 g (.inr (.inr (.inl hg))), fun r hr => ⟨⟨hi (l2 r hr).1.1, (l2 r hr).1.2⟩, hi (l2 r hr).2.1, (l2 r hr).2.2⟩⟩, ⟨rz, e3, own_kp o3 k fun g hg => h1 g (.inr (.inr (.inr hg))), fun r hr => ⟨⟨ht (l3 r hr).1.1, (l3 r hr).1.2⟩, hi (l3 r hr).2.1, (l3 r hr).2.2⟩⟩, h.lt, h.xl, h.sl, h.fl, fun b hb => Nat.lt_of_lt_of_le (h.ob b hb) k.size⟩
  · obtain ⟨c, hc⟩ := own_ty h.tk hg
    exact h2 g c _ _ hc (.inr (.inr rfl))
  · obtain ⟨c, hc⟩ := own_ty h.wd hg
    exact h2 g c _ _ hc (.inr (.inl rfl))
theorem At.no {X : Cx} {w w' : World} {s : PS} {V : VS} (h : At X w s V) (k : Kp No w w') : At X w' s V := h.kp k (fun _ _ h => h) fun _ _ _ _ _ _ h => h
/-- More blocks may be ours. -/
def VS.add (V : VS) (g : Option Nat) : VS := { V with o := fun b => V.o b ∨ g = some b }
theorem At.more {X : Cx} {w : World} {s : PS} {V : VS} (h : At X w s V) (g : Option Nat) (hg : ∀ b, g = some b → b < w.heap.size) : At X w s (V.add g) := by
  obtain ⟨rx, e1, o1, l1⟩ := h.xs
  obtain ⟨ry, e2, o2, l2⟩ := h.ss
  obtain ⟨rz, e3, o3, l3⟩ := h.fs
  exact ⟨h.blk, h.tk, h.wd, ⟨rx, e1, o1, fun r hr => ⟨(l1 r hr).1, fun g hg => .inl ((l1 r hr).2 g hg)⟩⟩, ⟨ry, e2, o2, fun r hr => ⟨⟨(l2 r hr).1.1, fun g hg => .inl ((l2 r hr).1.2 g hg)⟩, (l2 r hr).2.1, fun g hg => .inl ((l2 r hr).2.2 g hg)⟩⟩,
    ⟨rz, e3, o3, fun r hr => ⟨⟨(l3 r hr).1.1, fun g hg => .inl ((l3 r hr).1.2 g hg)⟩, (l3 r hr).2.1, fun g hg => .inl ((l3 r hr).2.2 g hg)⟩⟩, h.lt, h.xl, h.sl, h.fl, fun b hb => hb.elim (h.ob b) (hg b)⟩
/-- A change of a list that is none of ours. -/
theorem At.lst {X : Cx} {w0 w w' : World} {s0 s : PS} {V0 V : VS} (h : At X w s V) (h0 : At X w0 s0 V0) {v : Value} (k : Kp (fun i => some i = v.ownBlock) w w') {e : TypeId} (he : okT e = true)
    (hv : ∀ g, v.ownBlock = some g → w0.heap.size ≤ g ∧ ¬ V.o g ∧ ∃ cur, w.heap[g]? = some (.cells cur e (0, 0))) : At X w' s V := by
  have hn : ∀ g, some g = v.ownBlock → ¬ Sx X V g := fun g hg => by
    obtain ⟨_, _, c, hc⟩ := hv g hg.symm
    exact h.nsx hc he
  have ho : ∀ {u : Value}, Ow V u → ∀ g, u.ownBlock = some g → ¬ some g = v.ownBlock := fun hu g hg e => (hv g e.symm).2.1 (hu g hg)
  obtain ⟨rx, e1, o1, l1⟩ := h.xs
  obtain ⟨ry, e2, o2, l2⟩ := h.ss
  obtain ⟨rz, e3, o3, l3⟩ := h.fs
  have hold : ∀ {base : Nat} {e : TypeId} {size : Nat} {u : Value} {n : Nat} {cs : List Value}, w0.ownsRow base e size u n cs → ∀ g, u.ownBlock = some g → ¬ some g = v.ownBlock := fun hu g hg e => by
    obtain ⟨c, hc⟩ := own_ty hu hg
    have := lt_of_get hc
    have := (hv g e.symm).1
    omega
  exact ⟨k.get h.blk fun e => hn _ e (.inl rfl), own_kp h.tk k (hold h0.tk), own_kp h.wd k (hold h0.wd),
    ⟨rx, e1, own_kp o1 k fun g hg e => hn g e (.inr (.inl hg)), fun r hr => ⟨own_kp (l1 r hr).1 k (ho (l1 r hr).2), (l1 r hr).2⟩⟩,
    ⟨ry, e2, own_kp o2 k fun g hg e => hn g e (.inr (.inr (.inl hg))), fun r hr => ⟨⟨own_kp (l2 r hr).1.1 k (ho (l2 r hr).1.2), (l2 r hr).1.2⟩, own_kp (l2 r hr).2.1 k (ho (l2 r hr).2.2), (l2 r hr).2.2⟩⟩,
    ⟨rz, e3, own_kp o3 k fun g hg e => hn g e (.inr (.inr (.inr hg))), fun r hr => ⟨⟨own_kp (l3 r hr).1.1 k (ho (l3 r hr).1.2), (l3 r hr).1.2⟩, own_kp (l3 r hr).2.1 k (ho (l3 r hr).2.2), (l3 r hr).2.2⟩⟩, h.lt, h.xl, h.sl, h.fl, fun b hb => Nat.lt_of_lt_of_le (h.ob b hb) k.size⟩
/-- A store into a box of another kind. -/
theorem At.box {X : Cx} {w w' : World} {s : PS} {V : VS} {b : Nat} {cs : Array Value} {T : TypeId} (h : At X w s V) (k : Kp (fun i => i = b) w w') (hb : w.heap[b]? = some (.cells cs T (0, 0))) (hs : ¬ Sx X V b)
    (hT : (Nat.beq 3 T || Nat.beq 9 T || Nat.beq 64 T) = false) : At X w' s V := by
  simp only [Bool.or_eq_false_iff] at hT
  obtain ⟨⟨h1, h2⟩, h3⟩ := hT
  refine h.kp k (fun g hg e => hs (e ▸ hg)) fun g cur e fz hg he e' => ?_
  subst e'
  rcases he with rfl | rfl | rfl
  · exact ty_ne hg hb h1 rfl
  · exact ty_ne hg hb h2 rfl
  · exact ty_ne hg hb h3 rfl
/-- A box of our own. -/
structure Bx (X : Cx) (w0 : World) (w : World) (V : VS) (b : Nat) (cs : List Value) (T : TypeId) : Prop where
  ge : w0.heap.size ≤ b
  blk : w.heap[b]? = some (.cells cs.toArray T (0, 0))
  ns : ¬ Sx X V b
theorem Bx.gs {X : Cx} {w0 w w' : World} {V V' : VS} {b : Nat} {cs : List Value} {T : TypeId} (h : Bx X w0 w V b cs T) (k : Gs X w V w' V') : Bx X w0 w' V' b cs T :=
  ⟨h.ge, k.kp.get h.blk h.ns, fun hs => h.ns (k.fr b (lt_of_get h.blk) hs)⟩
theorem Bx.no {X : Cx} {w0 w w' : World} {V : VS} {b : Nat} {cs : List Value} {T : TypeId} (h : Bx X w0 w V b cs T) (k : Kp No w w') : Bx X w0 w' V b cs T :=
  ⟨h.ge, k.get0 h.blk, h.ns⟩
theorem Sx.lt {X : Cx} {w : World} {s : PS} {V : VS} (h : At X w s V) {b : Nat} (hs : Sx X V b) : b < w.heap.size := by
  rcases hs with rfl | hs | hs | hs
  · exact lt_of_get h.blk
  · obtain ⟨rx, _, ho, _⟩ := h.xs
    obtain ⟨c, hc⟩ := own_ty ho hs
    exact lt_of_get hc
  · obtain ⟨rx, _, ho, _⟩ := h.ss
    obtain ⟨c, hc⟩ := own_ty ho hs
    exact lt_of_get hc
  · obtain ⟨rx, _, ho, _⟩ := h.fs
    obtain ⟨c, hc⟩ := own_ty ho hs
    exact lt_of_get hc
theorem Bx.new {X : Cx} {w0 w w1 : World} {s : PS} {V : VS} {b : Nat} {cs : List Value} {T : TypeId} (h : At X w s V) (hw : w0.heap.size ≤ w.heap.size) (hb : Nb w b cs T w1) : Bx X w0 w1 V b cs T :=
  ⟨Nat.le_trans hw hb.ge, hb.blk, fun hs => by have := Sx.lt h hs; have := hb.ge; omega⟩
/-- The state, and what changed since the call began. -/
structure Sg (X : Cx) (w0 : World) (V0 : VS) (w : World) (s : PS) (V : VS) : Prop where
  at_ : At X w s V
  gs : Gs X w0 V0 w V
theorem Sg.start {X : Cx} {w : World} {s : PS} {V : VS} (h : At X w s V) : Sg X w V w s V := ⟨h, Gs.refl _ _ _⟩
theorem Sg.no {X : Cx} {w0 w w' : World} {s : PS} {V0 V : VS} (h : Sg X w0 V0 w s V) (k : Kp No w w') : Sg X w0 V0 w' s V := ⟨h.at_.no k, h.gs.no k⟩
theorem Sg.call {X : Cx} {w0 w w' : World} {s s' : PS} {V0 V V' : VS} (h : Sg X w0 V0 w s V) (k : Sg X w V w' s' V') : Sg X w0 V0 w' s' V' := ⟨k.at_, h.gs.trans k.gs⟩
theorem Sg.size {X : Cx} {w0 w : World} {s : PS} {V0 V : VS} (h : Sg X w0 V0 w s V) : w0.heap.size ≤ w.heap.size := h.gs.kp.size
/-- A store into a box. -/
theorem Sg.put {X : Cx} {w0 w w' : World} {s : PS} {V0 V : VS} {b : Nat} {cs cs' : List Value} {T : TypeId} (h : Sg X w0 V0 w s V) (hx : Bx X w0 w V b cs T) (k : Sb w b cs' T w') (hT : (Nat.beq 3 T || Nat.beq 9 T || Nat.beq 64 T) = false) :
    Sg X w0 V0 w' s V ∧ Bx X w0 w' V b cs' T := ⟨⟨h.at_.box k.kp hx.blk hx.ns hT, h.gs.own k.kp hx.ge⟩, ⟨hx.ge, k.blk, hx.ns⟩⟩
/-- A list of our own, that isn't among what was put. -/
structure Ls (w0 w : World) (V : VS) (e : TypeId) (v : Value) (n : Nat) (cs : List Value) : Prop where
  own : w.ownsRow 0 e 1 v n cs
  nw : ∀ g, v.ownBlock = some g → w0.heap.size ≤ g ∧ ¬ V.o g
theorem Ls.no {w0 w w' : World} {V : VS} {e : TypeId} {v : Value} {n : Nat} {cs : List Value} (h : Ls w0 w V e v n cs) (k : Kp No w w') : Ls w0 w' V e v n cs := ⟨own_kp h.own k fun _ _ h => h, h.nw⟩
theorem Ls.gs {X : Cx} {w0 w w' : World} {s : PS} {V V' : VS} {e : TypeId} {v : Value} {n : Nat} {cs : List Value} (h : Ls w0 w V e v n cs) (hA : At X w s V) (k : Gs X w V w' V') (he : okT e = true) : Ls w0 w' V' e v n cs :=
  ⟨own_gs hA k.kp h.own he, fun g hg => ⟨(h.nw g hg).1, fun ho => (h.nw g hg).2 (k.fo g (by obtain ⟨c, hc⟩ := own_ty h.own hg; exact lt_of_get hc) ho)⟩⟩
theorem Ls.nil {w0 w : World} {V : VS} {e : TypeId} : Ls w0 w V e (.slice none 0 0) 0 [] := ⟨⟨rfl, .inl ⟨rfl, rfl⟩⟩, fun g hg => by cases hg⟩
/-- What is owned by nobody is new. -/
theorem Sg.lst {X : Cx} {w0 w w' : World} {s0 s : PS} {V0 V : VS} (h : Sg X w0 V0 w s V) (h0 : At X w0 s0 V0) {e : TypeId} {v v' : Value} {n k : Nat} {cs xs : List Value} (hl : Ls w0 w V e v n cs) (a : Ap w 0 e 1 v k xs v' w') (he : okT e = true) :
    Sg X w0 V0 w' s V ∧ Ls w0 w' V e v' k xs := by
  refine ⟨⟨h.at_.lst h0 a.kp he fun g hg => ⟨(hl.nw g hg).1, (hl.nw g hg).2, own_ty hl.own hg⟩, ⟨h.gs.kp.trans a.kp fun i hi e => (by have := (hl.nw i e.symm).1; omega), h.gs.fr, h.gs.fo⟩⟩, a.own, fun g hg => ?_⟩
  rcases a.row g hg with h1 | h1
  · exact hl.nw g h1
  · exact ⟨Nat.le_trans h.gs.kp.size h1, fun ho => by have := h.at_.ob g ho; omega⟩
/-- What a parser's tokens are like. -/
structure Ok (X : Cx) : Prop where
  len : X.wl.length = X.T.length
  big : X.T.length ≤ 20001
  last : ∀ i t, X.T[i]? = some t → i + 1 = X.T.length → t.1 = 0
  lastw : ∀ i x, X.wl[i]? = some x → i + 1 = X.T.length → B x = []
  rng : ∀ (i : Nat) (t : Tk.T3), X.T[i]? = some t → (0 ≤ t.1 ∧ t.1 ≤ 4) ∧ (0 ≤ t.2.1 ∧ t.2.1 ≤ 20000) ∧ (0 ≤ t.2.2 ∧ t.2.2 ≤ 20000)
  num : ∀ (i : Nat) (t : Tk.T3) (x : ByteArray), X.T[i]? = some t → X.wl[i]? = some x → t.1 = 2 → x.size ≤ 18 ∧ ∀ c ∈ B x, 48 ≤ c ∧ c ≤ 57
  wz : ∀ (i : Nat) (x : ByteArray), X.wl[i]? = some x → x.size ≤ 20000
/-- The token, and its text, that is next. -/
theorem At.tok {X : Cx} {w : World} {s : PS} {V : VS} (h : At X w s V) (ok : Ok X) : ∃ t x, X.T[s.i]? = some t ∧ X.wl[s.i]? = some x ∧ kd X.E s = t.1 ∧ hr X.E s = t.2.1 ∧ Sy.wd X.E s = B x := by
  have h1 := h.lt
  have h2 : s.i < X.wl.length := by rw [ok.len]; exact h1
  refine ⟨X.T[s.i], X.wl[s.i], List.getElem?_eq_getElem h1, List.getElem?_eq_getElem h2, ?_, ?_, ?_⟩
  · simp [kd, Cx.E, h1]
  · simp [hr, Cx.E, h1]
  · simp [Sy.wd, Cx.E, h2]
/-- What is thrown. -/
def thrown (c p : Int) : List PanicEntry := [{ v := .iface 58 (.agg #[.int .i64 p, .int .i64 c]), recovered := false }]
/-- A call that does as told: its result; what it throws. -/
def okP {α : Type} (X : Cx) (w : World) (V : VS) (r : Rs α) (f : α → World → Value → Prop) (v : Value) (w' : World) : Prop := ∃ x s' V', r = .ok x s' ∧ f x w' v ∧ Sg X w V w' s' V'
def erP {α : Type} (X : Cx) (w : World) (V : VS) (r : Rs α) (c : List PanicEntry) (w' : World) : Prop := ∃ k p, r = .er k p ∧ c = thrown k p ∧ Kp (Sx X V) w w'
def Does {α : Type} (X : Cx) (fn : FuncId) (args : List Value) (w : World) (V : VS) (r : Rs α) (f : α → World → Value → Prop) : Prop := r ≠ .out → RetP Tryz.prog fn args w (okP X w V r f) (erP X w V r)
/-- What is thrown goes on. -/
theorem erP.up {α β : Type} {X : Cx} {w0 w : World} {s : PS} {V0 V : VS} {r : Rs α} {g : α → PS → Rs β} {r' : Rs β} (h : Sg X w0 V0 w s V) (hr : r' = r.bind g) : ∀ c w1, erP X w V r c w1 → erP X w0 V0 r' c w1 := by
  rintro c w1 ⟨k, p, rfl, rfl, hk⟩
  exact ⟨k, p, by rw [hr]; rfl, rfl, h.gs.kp.trans hk fun i hi hs => h.gs.fr i hi hs⟩
theorem bind_ne {α β : Type} {r : Rs α} {g : α → PS → Rs β} (h : r.bind g ≠ .out) : r ≠ .out := by
  rintro rfl; exact h rfl
end Go.Proofs.YtfnbgbeinmekgaaGreatDoor.Sy
namespace Go.Proofs.YtfnbgbeinmekgaaGreatDoor
open Go Go.RowKit Fw
set_option linter.unusedVariables false
set_option maxRecDepth 20000
namespace Tk
/-- The program's two tables. -/
structure Glob (w : World) : Prop where
  words : ∀ j s, wordsB[j]? = some s → w.cell? ⟨0, 0 + j, none⟩ = some (.string s)
  pairs : ∀ j s, pairsB[j]? = some s → w.cell? ⟨1, 0 + j, none⟩ = some (.string s)
theorem Glob.kp {w w' : World} (h : Glob w) (k : Kp No w w') : Glob w' := ⟨fun j s hj => k.cell0 (h.words j s hj), fun j s hj => k.cell0 (h.pairs j s hj)⟩
theorem letter (c : Int) (w : World) (h0 : 0 ≤ c ∧ c < 256) : Ret Tryz.prog 70 [.int .u8 c] w fun v w1 => v = .bool (lett c) ∧ w1 = w := by
  refine ret_enter Tryz.func70 rfl Tryz.ntmps70 rfl ?_
  (repeat refine Zr ?_)
  refine s_split 5 rfl (fun h5 => ?_) (fun h5 => ?_)
  · (repeat (first | refine Zr ?_ | refine Zn ?_ | refine Zu ?_ | refine Zg ?_))
    refine ret_1 rfl rfl ⟨congrArg Value.bool ?_, rfl⟩
    simp [lett, h5]
  · have ho := or32 c h0.1 h0.2
    have hc : c ≠ 95 := by simpa using h5
    (repeat (first | refine Zr ?_ | refine Zn ?_ | refine Zu ?_ | refine Zg ?_))
    refine s_split 9 rfl (fun h9 => ?_) (fun h9 => ?_)
    · have h9' := of_decide_eq_true h9
      (repeat (first | refine Zr ?_ | refine Zn ?_ | refine Zu ?_ | refine Zg ?_))
      refine ret_1 rfl rfl ⟨congrArg Value.bool ?_, rfl⟩
      rw [ho] at h9' ⊢
      rw [Bool.eq_iff_iff]
      simp only [lett, decide_eq_true_eq, Bool.or_eq_true, Bool.and_eq_true, beq_iff_eq]
      split <;> split at h9' <;> omega
    · have h9' := of_decide_eq_false h9
      (repeat (first | refine Zr ?_ | refine Zn ?_ | refine Zu ?_ | refine Zg ?_))
      refine ret_1 rfl rfl ⟨congrArg Value.bool ?_, rfl⟩
      rw [ho] at h9'
      symm
      rw [Bool.eq_false_iff]
      simp only [lett, ne_eq, decide_eq_true_eq, Bool.or_eq_true, Bool.and_eq_true, beq_iff_eq]
      split at h9' <;> omega
theorem digit (c : Int) (w : World) (h0 : 0 ≤ c ∧ c < 256) : Ret Tryz.prog 74 [.int .u8 c] w fun v w1 => v = .bool (digi c) ∧ w1 = w := by
  refine ret_enter Tryz.func74 rfl Tryz.ntmps74 rfl ?_
  (repeat refine Zr ?_)
  refine s_split 5 rfl (fun h5 => ?_) (fun h5 => ?_)
  · (repeat (first | refine Zr ?_ | refine Zn ?_ | refine Zu ?_ | refine Zg ?_))
    refine ret_1 rfl rfl ⟨congrArg Value.bool ?_, rfl⟩
    simp [digi, h5]
  · (repeat (first | refine Zr ?_ | refine Zn ?_ | refine Zu ?_ | refine Zg ?_))
    refine ret_1 rfl rfl ⟨congrArg Value.bool ?_, rfl⟩
    simp [digi, h5]
theorem either (c : Int) (w : World) (h0 : 0 ≤ c ∧ c < 256) : Ret Tryz.prog 72 [.int .u8 c] w fun v w1 => v = .bool (eith c) ∧ w1 = w := by
  refine ret_enter Tryz.func72 rfl Tryz.ntmps72 rfl ?_
  (repeat refine Zr ?_)
  refine s_call (us := []) (zs := []) (by kernel_rfl) rfl rfl (letter c w h0) ?_
  rintro _ w1 ⟨rfl, rfl⟩
  (repeat refine Zr ?_)
  refine s_split 5 rfl (fun h5 => ?_) (fun h5 => ?_)
  · (repeat (first | refine Zr ?_ | refine Zn ?_ | refine Zu ?_ | refine Zg ?_))
    refine ret_1 rfl rfl ⟨congrArg Value.bool ?_, rfl⟩
    simp [eith, h5]
  · (repeat (first | refine Zr ?_ | refine Zn ?_ | refine Zu ?_ | refine Zg ?_))
    refine s_gcall (us := []) (zs := []) rfl (by kernel_rfl) rfl rfl (digit c w1 h0) ?_
    rintro _ w2 ⟨rfl, rfl⟩
    (repeat (first | refine Zr ?_ | refine Zn ?_ | refine Zu ?_ | refine Zg ?_))
    refine ret_1 rfl rfl ⟨congrArg Value.bool ?_, rfl⟩
    simp [eith, h5]
theorem noline (c : Int) (w : World) : Ret Tryz.prog 96 [.int .u8 c] w fun v w1 => v = .bool (not10 c) ∧ w1 = w := by
  refine ret_enter Tryz.func96 rfl Tryz.ntmps96 rfl ?_
  (repeat refine Zr ?_)
  exact ret_1 rfl rfl ⟨rfl, rfl⟩
theorem run (s : ByteArray) (i : Nat) (f : FuncId) (p : Int → Bool) (w : World) (hs : s.size ≤ 1000000) (hi : i ≤ s.size) (hok : callOk Tryz.prog f = true)
    (hp : ∀ c w, 0 ≤ c ∧ c < 256 → Ret Tryz.prog f [.int .u8 c] w fun v w1 => v = .bool (p c) ∧ w1 = w) :
    Ret Tryz.prog 71 [.string s, .int .i64 i, .func (.func f) #[] #[]] w fun v w1 => v = .int .i64 ((i + rn p ((B s).drop i) : Nat) : Int) ∧ w1 = w := by
  refine ret_enter Tryz.func71 rfl Tryz.ntmps71 rfl ?_
  (repeat refine Zr ?_)
  refine k_loop (σ := Nat) (fun t => [(0, .string s), (1, .int .i64 t), (2, .func (.func f) #[] #[])]) (fun t w' => t ≤ s.size ∧ t + rn p ((B s).drop t) = i + rn p ((B s).drop i) ∧ w' = w) (fun t => s.size - t) i ⟨rfl, rfl, rfl, trivial⟩ ⟨hi, rfl, rfl⟩ ?_
  rintro t l w ⟨ht, he, rfl⟩
  (repeat refine Zr ?_)
  by_cases hlt : t < s.size
  · refine s_set 11 true rfl (by simp; omega) ?_
    have hd := drop_at s t hlt
    (repeat (first | refine Zr ?_ | refine Zn ?_ | refine Zu ?_ | refine Zg ?_))
    refine s_gv rfl (r_ix rfl rfl rfl (by omega) (by omega)) ?_
    refine s_gcall (us := []) (zs := []) rfl hok rfl rfl (hp _ w (bt_range s t)) ?_
    rintro _ w1 ⟨rfl, rfl⟩
    (repeat (first | refine Zr ?_ | refine Zn ?_ | refine Zu ?_ | refine Zg ?_))
    refine c_b rfl (fun hy => ?_) (fun hn => ?_)
    · (repeat refine Zr ?_)
      rw [hd, rn, if_pos hy] at he
      exact l_next (t + 1) ⟨rfl, rfl, rfl, trivial⟩ ⟨by omega, by omega, rfl⟩ (by omega)
    · (repeat refine Zr ?_)
      rw [hd, rn, if_neg (by rw [hn]; exact Bool.false_ne_true)] at he
      exact ret_1 rfl rfl ⟨by rw [← he]; rfl, rfl⟩
  · refine s_set 11 false rfl (by simp; omega) ?_
    (repeat (first | refine Zr ?_ | refine Zn ?_ | refine Zu ?_ | refine Zg ?_))
    refine c_f rfl ?_
    (repeat refine Zr ?_)
    rw [drop_end s t (by omega), rn] at he
    exact ret_1 rfl rfl ⟨by rw [← he]; rfl, rfl⟩
theorem ibs (s : ByteArray) (c : Int) (w : World) : Ret Tryz.prog 118 [.string s, .int .u8 c] w fun v w1 => v = .int .i64 (Lib.indexByte s.data.toList c.toNat.toUInt8) ∧ w1 = w := by
  refine ret_enter Tryz.func118 rfl Tryz.ntmps118 rfl ?_
  (repeat refine Zr ?_)
  refine s_v (r_xt (e := Extern.BytealgIndexByte.indexByte) Tryz.func132 (by kernel_rfl) (by kernel_rfl) (by kernel_rfl) (by kernel_rfl) rfl rfl (Lib.run_indexByteString s c w)) ?_
  (repeat refine Zr ?_)
  exact ret_1 rfl rfl ⟨rfl, rfl⟩
theorem indexByte (s : ByteArray) (c : Int) (w : World) : Ret Tryz.prog 95 [.string s, .int .u8 c] w fun v w1 => v = .int .i64 (Lib.indexByte s.data.toList c.toNat.toUInt8) ∧ w1 = w := by
  refine ret_enter Tryz.func95 rfl Tryz.ntmps95 rfl ?_
  (repeat refine Zr ?_)
  refine s_call (us := []) (zs := []) (by kernel_rfl) rfl rfl (ibs s c w) ?_
  rintro _ w1 ⟨rfl, rfl⟩
  (repeat refine Zr ?_)
  exact ret_1 rfl rfl ⟨rfl, rfl⟩
theorem skip (s : ByteArray) (i : Nat) (w : World) (hs : s.size ≤ 1000000) (hi : i ≤ s.size) :
    Ret Tryz.prog 68 [.string s, .int .i64 i] w fun v w1 => v = .int .i64 ((i + sk false ((B s).drop i) : Nat) : Int) ∧ w1 = w := by
  refine ret_enter Tryz.func68 rfl Tryz.ntmps68 rfl ?_
  (repeat refine Zr ?_)
  refine k_loop (σ := Nat) (fun t => [(0, .string s), (1, .int .i64 t)]) (fun t w' => t ≤ s.size ∧ t + sk false ((B s).drop t) = i + sk false ((B s).drop i) ∧ w' = w) (fun t => s.size - t) i ⟨rfl, rfl, trivial⟩ ⟨hi, rfl, rfl⟩ ?_
  rintro t l w ⟨ht, he, rfl⟩
  (repeat refine Zr ?_)
  refine c_dec rfl (fun hlt => ?_) (fun hge => ?_)
  · have hlt' : t < s.size := by omega
    have hd := drop_at s t hlt'
    have hr := bt_range s t
    (repeat refine Zr ?_)
    refine s_v (r_ix rfl rfl rfl (by omega) (by omega)) ?_
    refine s_call (us := []) (zs := []) (by kernel_rfl) rfl rfl (indexByte _ (bt s t) w) ?_
    rintro _ w1 ⟨rfl, rfl⟩
    (repeat refine Zr ?_)
    refine c_b rfl (fun hy => ?_) (fun hn => ?_)
    · rw [ib_blank _ hr.1 hr.2] at hy
      (repeat refine Zr ?_)
      rw [hd, sk, if_pos hy] at he
      exact l_next (t + 1) ⟨rfl, rfl, trivial⟩ ⟨by omega, by omega, rfl⟩ (by omega)
    · rw [ib_blank _ hr.1 hr.2] at hn
      (repeat refine Zr ?_)
      refine s_v (r_ix rfl rfl rfl (by omega) (by omega)) ?_
      (repeat refine Zr ?_)
      refine c_eq rfl (fun h35 => ?_) (fun h35 => ?_)
      · (repeat refine Zr ?_)
        refine s_call (us := []) (zs := []) (by kernel_rfl) rfl rfl (run s t 96 not10 w1 hs ht (by kernel_rfl) (fun c w _ => noline c w)) ?_
        rintro _ w2 ⟨rfl, rfl⟩
        (repeat refine Zr ?_)
        have h10 : not10 (bt s t) = true := by simp [not10, h35]
        have hle := rn_le not10 ((B s).drop t)
        rw [List.length_drop, B_len] at hle
        have hpos : 0 < rn not10 ((B s).drop t) := by rw [hd]; exact rn_pos h10
        refine l_next (t + rn not10 ((B s).drop t)) ⟨rfl, rfl, trivial⟩ ⟨by omega, ?_, rfl⟩ (by omega)
        rw [← he, ← List.drop_drop]
        have e1 : sk false ((B s).drop t) = sk true ((B s).drop t) := by
          rw [hd, sk, if_neg (by rw [hn]; exact Bool.false_ne_true), if_pos h35, sk, if_neg (by omega)]
        rw [e1, sk_true]
        omega
      · (repeat refine Zr ?_)
        rw [hd, sk, if_neg (by rw [hn]; exact Bool.false_ne_true), if_neg h35] at he
        exact ret_1 rfl rfl ⟨by rw [← he]; rfl, rfl⟩
  · (repeat refine Zr ?_)
    rw [drop_end s t (by omega), sk] at he
    exact ret_1 rfl rfl ⟨by rw [← he]; rfl, rfl⟩
theorem Index (ls : List ByteArray) (a : Option Addr) (c : Nat) (x : ByteArray) (w : World) (h : Rd w a ls) (hl : ls.length ≤ 1000) :
    Ret Tryz.prog 99 [.slice a ls.length c, .string x] w fun v w1 => v = .int .i64 (ixS (fun y => x.toList == y.toList) ls) ∧ w1 = w := by
  refine ret_enter Tryz.func99 rfl Tryz.ntmps99 rfl ?_
  (repeat refine Zr ?_)
  refine k_loop (σ := Nat) (fun t => [(0, .slice a ls.length c), (1, .string x), (7, .int .i64 ls.length), (8, .int .i64 t)]) (fun t w' => t ≤ ls.length ∧ (∀ j y, j < t → ls[j]? = some y → (x.toList == y.toList) = false) ∧ w' = w) (fun t => ls.length - t) 0 ⟨rfl, rfl, rfl, rfl, trivial⟩ ⟨by omega, fun j y hj => by omega, rfl⟩ ?_
  rintro t l w ⟨ht, hne, rfl⟩
  (repeat refine Zr ?_)
  refine c_dec rfl (fun hlt => ?_) (fun hge => ?_)
  · obtain ⟨y, hy⟩ : ∃ y, ls[t]? = some y := ⟨_, List.getElem?_eq_getElem (by omega)⟩
    obtain ⟨b, o, rfl, hcy⟩ := h.at hy
    (repeat refine Zr ?_)
    refine s_v (r_ia rfl rfl rfl rfl (by omega) (by omega)) ?_
    (repeat refine Zr ?_)
    refine c_b rfl (fun he => ?_) (fun he => ?_)
    · (repeat refine Zr ?_)
      exact ret_1 rfl rfl ⟨by rw [ixS_at _ ls t y hy he hne], rfl⟩
    · (repeat refine Zr ?_)
      refine l_next (t + 1) ⟨rfl, rfl, rfl, rfl, trivial⟩ ⟨by omega, fun j z hj hz => ?_, rfl⟩ (by omega)
      by_cases hjt : j = t
      · subst hjt; rw [hy] at hz; cases hz; exact he
      · exact hne j z (by omega) hz
  · (repeat refine Zr ?_)
    exact ret_1 rfl rfl ⟨by rw [ixS_none _ ls (fun j y hy => hne j y (by have := (List.getElem?_eq_some_iff.1 hy).1; omega) hy)], rfl⟩
theorem Contains (ls : List ByteArray) (a : Option Addr) (c : Nat) (x : ByteArray) (w : World) (h : Rd w a ls) (hl : ls.length ≤ 1000) :
    Ret Tryz.prog 73 [.slice a ls.length c, .string x] w fun v w1 => v = .bool (ls.any fun y => x.toList == y.toList) ∧ w1 = w := by
  refine ret_enter Tryz.func73 rfl Tryz.ntmps73 rfl ?_
  (repeat refine Zr ?_)
  refine s_call (us := []) (zs := []) (by kernel_rfl) rfl rfl (Index ls a c x w h hl) ?_
  rintro _ w1 ⟨rfl, rfl⟩
  (repeat refine Zr ?_)
  exact ret_1 rfl rfl ⟨by rw [ixS_any], rfl⟩
theorem IndexFunc (ls : List ByteArray) (a : Option Addr) (c : Nat) (f : FuncId) (us zs : List Value) (q : ByteArray → Bool) (w : World) (h : Rd w a ls) (hl : ls.length ≤ 1000) (hok : callOk Tryz.prog f = true)
    (hq : ∀ p ∈ ls, Ret Tryz.prog f (us ++ [.string p] ++ zs) w fun v w1 => v = .bool (q p) ∧ w1 = w) :
    Ret Tryz.prog 115 [.slice a ls.length c, .func (.func f) us.toArray zs.toArray] w fun v w1 => v = .int .i64 (ixS q ls) ∧ w1 = w := by
  refine ret_enter Tryz.func115 rfl Tryz.ntmps115 rfl ?_
  (repeat refine Zr ?_)
  refine k_loop (σ := Nat) (fun t => [(0, .slice a ls.length c), (1, .func (.func f) us.toArray zs.toArray), (7, .int .i64 ls.length), (8, .int .i64 t)]) (fun t w' => t ≤ ls.length ∧ (∀ j y, j < t → ls[j]? = some y → q y = false) ∧ w' = w) (fun t => ls.length - t) 0 ⟨rfl, rfl, rfl, rfl, trivial⟩ ⟨by omega, fun j y hj => by omega, rfl⟩ ?_
  rintro t l w ⟨ht, hne, rfl⟩
  (repeat refine Zr ?_)
  refine c_dec rfl (fun hlt => ?_) (fun hge => ?_)
  · obtain ⟨y, hy⟩ : ∃ y, ls[t]? = some y := ⟨_, List.getElem?_eq_getElem (by omega)⟩
    obtain ⟨b, o, rfl, hcy⟩ := h.at hy
    (repeat refine Zr ?_)
    refine s_v (r_ia rfl rfl rfl rfl (by omega) (by omega)) ?_
    (repeat refine Zr ?_)
    refine s_call (us := us) (zs := zs) hok rfl rfl (hq y (List.mem_of_getElem? hy)) ?_
    rintro _ w1 ⟨rfl, rfl⟩
    (repeat refine Zr ?_)
    refine c_b rfl (fun he => ?_) (fun he => ?_)
    · (repeat refine Zr ?_)
      exact ret_1 rfl rfl ⟨by rw [ixS_at _ ls t y hy he hne], rfl⟩
    · (repeat refine Zr ?_)
      refine l_next (t + 1) ⟨rfl, rfl, rfl, rfl, trivial⟩ ⟨by omega, fun j z hj hz => ?_, rfl⟩ (by omega)
      by_cases hjt : j = t
      · subst hjt; rw [hy] at hz; cases hz; exact he
      · exact hne j z (by omega) hz
  · (repeat refine Zr ?_)
    exact ret_1 rfl rfl ⟨by rw [ixS_none _ ls (fun j y hy => hne j y (by have := (List.getElem?_eq_some_iff.1 hy).1; omega) hy)], rfl⟩
theorem ContainsFunc (ls : List ByteArray) (a : Option Addr) (c : Nat) (f : FuncId) (us zs : List Value) (q : ByteArray → Bool) (w : World) (h : Rd w a ls) (hl : ls.length ≤ 1000) (hok : callOk Tryz.prog f = true)
    (hq : ∀ p ∈ ls, Ret Tryz.prog f (us ++ [.string p] ++ zs) w fun v w1 => v = .bool (q p) ∧ w1 = w) :
    Ret Tryz.prog 97 [.slice a ls.length c, .func (.func f) us.toArray zs.toArray] w fun v w1 => v = .bool (ls.any q) ∧ w1 = w := by
  refine ret_enter Tryz.func97 rfl Tryz.ntmps97 rfl ?_
  (repeat refine Zr ?_)
  refine s_call (us := []) (zs := []) (by kernel_rfl) rfl rfl (IndexFunc ls a c f us zs q w h hl hok hq) ?_
  rintro _ w1 ⟨rfl, rfl⟩
  (repeat refine Zr ?_)
  exact ret_1 rfl rfl ⟨by rw [ixS_any], rfl⟩
theorem hasp (s p : ByteArray) (w : World) (hs : s.size ≤ 1000000) (hp : p.size ≤ 1000000) : Ret Tryz.prog 108 [.string s, .string p] w fun v w1 => v = .bool ((B p).isPrefixOf (B s)) ∧ w1 = w := by
  refine ret_enter Tryz.func108 rfl Tryz.ntmps108 rfl ?_
  (repeat refine Zr ?_)
  by_cases h : p.size ≤ s.size
  · refine s_set 10 true rfl (by simp; omega) ?_
    (repeat (first | refine Zr ?_ | refine Zn ?_ | refine Zu ?_ | refine Zg ?_))
    refine s_gv rfl (r_sh rfl rfl rfl (by omega) (by omega)) ?_
    (repeat (first | refine Zr ?_ | refine Zn ?_ | refine Zu ?_ | refine Zg ?_))
    refine ret_1 rfl rfl ⟨congrArg Value.bool ?_, rfl⟩
    rw [← pref_eq, decide_eq_true h]; rfl
  · refine s_set 10 false rfl (by simp; omega) ?_
    (repeat (first | refine Zr ?_ | refine Zn ?_ | refine Zu ?_ | refine Zg ?_))
    refine ret_1 rfl rfl ⟨congrArg Value.bool ?_, rfl⟩
    rw [← pref_eq, decide_eq_false h]; rfl
theorem hasPrefix (s p : ByteArray) (w : World) (hs : s.size ≤ 1000000) (hp : p.size ≤ 1000000) : Ret Tryz.prog 81 [.string s, .string p] w fun v w1 => v = .bool ((B p).isPrefixOf (B s)) ∧ w1 = w := by
  refine ret_enter Tryz.func81 rfl Tryz.ntmps81 rfl ?_
  (repeat refine Zr ?_)
  refine s_call (us := []) (zs := []) (by kernel_rfl) rfl rfl (hasp s p w hs hp) ?_
  rintro _ w1 ⟨rfl, rfl⟩
  (repeat refine Zr ?_)
  exact ret_1 rfl rfl ⟨rfl, rfl⟩
theorem sign1 (s p : ByteArray) (b : Nat) (T : TypeId) (w : World) (hb : w.heap[b]? = some (.cells [.string s].toArray T (0, 0))) (hs : s.size ≤ 1000000) (hp : p.size ≤ 1000000) :
    Ret Tryz.prog 98 [.string p, .pointer (some ⟨b, 0, none⟩)] w fun v w1 => v = .bool ((B p).isPrefixOf (B s)) ∧ w1 = w := by
  refine ret_enter Tryz.func98 rfl Tryz.ntmps98 rfl ?_
  (repeat refine Zr ?_)
  refine s_call (us := []) (zs := []) (by kernel_rfl) rfl rfl (hasPrefix s p w hs hp) ?_
  rintro _ w1 ⟨rfl, rfl⟩
  (repeat refine Zr ?_)
  exact ret_1 rfl rfl ⟨rfl, rfl⟩
theorem sign (s : ByteArray) (w : World) (hg : Glob w) (hs : s.size ≤ 1000000) (h0 : 0 < s.size) :
    Ret Tryz.prog 69 [.string s] w fun v w1 => v = .int .i64 (sg (B s) : Int) ∧ Kp No w w1 := by
  have hh : B s = bt s 0 :: (B s).drop 1 := by have := drop_at s 0 h0; simpa using this
  have hr := bt_range s 0
  have hany : pairsB.any (fun p => (B p).isPrefixOf (B s)) = pairsL.any (fun p => p.isPrefixOf (B s)) := by
    rw [← B_pairs, List.any_map]; rfl
  refine ret_enter Tryz.func69 rfl Tryz.ntmps69 rfl ?_
  (repeat refine Zr ?_)
  refine s_box rfl rfl (fun b1 w1 n1 => ?_)
  have hb1 := n1.blk
  have hg1 := hg.kp n1.kp
  (repeat refine Zr ?_)
  refine s_v (r_slax (a' := some ⟨1, 0, none⟩) (n' := 6) (c' := 6) rfl rfl rfl rfl rfl (by omega) (by omega) (by omega) subA_0 rfl rfl) ?_
  (repeat refine Zr ?_)
  refine s_call (us := []) (zs := []) (by kernel_rfl) rfl rfl (ContainsFunc pairsB (some ⟨1, 0, none⟩) 6 98 [] [.pointer (some ⟨b1, 0, none⟩)] (fun p => (B p).isPrefixOf (B s)) w1 (.inr ⟨_, _, rfl, hg1.pairs⟩) (by decide +kernel) (by kernel_rfl) (fun p hp => sign1 s p b1 _ w1 hb1 hs (pairs_size p hp))) ?_
  rintro _ w2 ⟨rfl, rfl⟩
  rw [hany]
  refine k_nil ?_
  (repeat refine Zr ?_)
  refine c_b rfl (fun hy => ?_) (fun hn => ?_)
  · (repeat refine Zr ?_)
    exact ret_1 rfl rfl ⟨by rw [sg_2 hy]; rfl, n1.kp⟩
  · (repeat refine Zr ?_)
    refine s_v (r_ix rfl rfl rfl (by omega) (by omega)) ?_
    refine s_call (us := []) (zs := []) (by kernel_rfl) rfl rfl (indexByte _ (bt s 0) w2) ?_
    rintro _ w3 ⟨rfl, rfl⟩
    (repeat refine Zr ?_)
    refine c_b rfl (fun h1 => ?_) (fun h1 => ?_)
    · rw [ib_sign _ hr.1 hr.2] at h1
      (repeat refine Zr ?_)
      exact ret_1 rfl rfl ⟨by rw [hh] at hn ⊢; rw [sg_1 hn h1]; rfl, n1.kp⟩
    · rw [ib_sign _ hr.1 hr.2] at h1
      (repeat refine Zr ?_)
      exact ret_1 rfl rfl ⟨by rw [hh] at hn ⊢; rw [sg_0 hn h1]; rfl, n1.kp⟩
theorem number (s : ByteArray) (w : World) (hs : s.size ≤ 1000000) (h0 : 0 < s.size) :
    Ret Tryz.prog 75 [.string s] w fun v w1 => v = .bool (decide (s.size ≤ 18 ∧ (s.size = 1 ∨ bt s 0 ≠ 48))) ∧ w1 = w := by
  refine ret_enter Tryz.func75 rfl Tryz.ntmps75 rfl ?_
  (repeat refine Zr ?_)
  by_cases h : s.size ≤ 18
  · refine s_set 6 true rfl (by simp; omega) ?_
    (repeat (first | refine Zr ?_ | refine Zn ?_ | refine Zu ?_ | refine Zg ?_))
    by_cases h1 : s.size = 1
    · refine s_set 10 true rfl (by simp; omega) ?_
      (repeat (first | refine Zr ?_ | refine Zn ?_ | refine Zu ?_ | refine Zg ?_))
      refine ret_1 rfl rfl ⟨congrArg Value.bool ?_, rfl⟩
      rw [decide_eq_true ⟨h, .inl h1⟩]
    · refine s_set 10 false rfl (by simp; omega) ?_
      (repeat (first | refine Zr ?_ | refine Zn ?_ | refine Zu ?_ | refine Zg ?_))
      refine s_gv rfl (r_ix rfl rfl rfl (by omega) (by omega)) ?_
      (repeat (first | refine Zr ?_ | refine Zn ?_ | refine Zu ?_ | refine Zg ?_))
      refine ret_1 rfl rfl ⟨congrArg Value.bool ?_, rfl⟩
      by_cases h2 : bt s 0 = 48
      · rw [decide_eq_false (by rintro ⟨_, h | h⟩ <;> omega), h2]; rfl
      · rw [decide_eq_true ⟨h, .inr h2⟩]; simpa using h2
  · refine s_set 6 false rfl (by simp; omega) ?_
    (repeat (first | refine Zr ?_ | refine Zn ?_ | refine Zu ?_ | refine Zg ?_))
    refine ret_1 rfl rfl ⟨congrArg Value.bool ?_, rfl⟩
    rw [decide_eq_false (fun hh => h hh.1)]
set_option maxHeartbeats 1000000 in
theorem Next (s : ByteArray) (i : Nat) (w : World) (hg : Glob w) (hs : s.size ≤ 1000000) (hi : i ≤ s.size) :
    Ret Tryz.prog 37 [.string s, .int .i64 i] w fun v w1 => v = nxV s i ∧ Kp No w w1 := by
  refine ret_enter Tryz.func37 rfl Tryz.ntmps37 rfl ?_
  (repeat refine Zr ?_)
  refine s_al rfl (fun b4 w1 n1 => ?_)
  (repeat refine Zr ?_)
  refine s_call (us := []) (zs := []) (by kernel_rfl) rfl rfl (skip s i w1 hs hi) ?_
  rintro _ w2 ⟨rfl, rfl⟩
  obtain ⟨j, hj⟩ : ∃ j, j = i + sk false ((B s).drop i) := ⟨_, rfl⟩
  have hjl : j ≤ s.size := by
    have := sk_le ((B s).drop i) false
    rw [List.length_drop, B_len] at this; omega
  rw [← hj]
  (repeat refine Zr ?_)
  refine s_al rfl (fun b6 w3 n3 => ?_)
  refine s_st rfl rfl rfl rfl rfl n3.blk (Nat.le_of_ble_eq_true rfl) (fun w4 s4 => ?_)
  have y1 := n1.ge
  have x1 := n1.lt
  have z1 := n1.kp.size
  have y3 := n3.ge
  have x3 := n3.lt
  have z3 := n3.kp.size
  have z4 := s4.sz
  have b4' := s4.kp.get (n3.kp.get0 n1.blk) (by show ¬ b4 = b6; omega)
  have b6' := s4.blk
  have k4 : Kp No w w4 := (n1.kp.no n3.kp).trans s4.kp (fun _ _ e => by omega)
  have hg4 := hg.kp k4
  have ag : ∀ w', Kp No w4 w' → w'.heap[b4]? = some (.cells [.int .i64 0, .int .i64 0, .int .i64 0].toArray 64 (0, 0)) := fun w' k => k.get0 b4'
  clear b4' n1 n3 s4
  (repeat refine Zr ?_)
  refine c_eq rfl (fun hend => ?_) (fun hne => ?_)
  · (repeat refine Zr ?_)
    refine s_v (r_ldb (vs := [.int .i64 0, .int .i64 j, .int .i64 j]) rfl rfl rfl b6' rfl rfl) ?_
    refine s_st rfl rfl rfl rfl rfl (ag w4 (Kp.refl _ _)) (Nat.le_of_ble_eq_true rfl) (fun w5 s5 => ?_)
    (repeat refine Zr ?_)
    refine ret_c2 rfl (rv_ag (vs := [.int .i64 0, .int .i64 j, .int .i64 j]) rfl rfl rfl s5.blk rfl rfl) (rv_t rfl) ⟨nxV_of (ok := true) (m := 0) hj ?_ rfl rfl (by simp), k4.trans s5.kp (fun _ _ e => by omega)⟩
    rw [drop_end s j (by omega)]; rfl
  · have hlt : j < s.size := by omega
    have hd := drop_at s j hlt
    have hr := bt_range s j
    have hsz : (s.extract j s.size).size = s.size - j := by rw [← B_len, B_extract, List.length_drop, List.length_take, B_len]; omega
    have hB : B (s.extract j s.size) = (B s).drop j := by rw [B_extract, List.take_of_length_le (by rw [B_len]; omega)]
    (repeat refine Zr ?_)
    refine s_v (r_sl rfl rfl rfl (by omega) (by omega)) ?_
    rw [Int.toNat_natCast]
    refine s_call (us := []) (zs := []) (by kernel_rfl) rfl rfl (sign (s.extract j s.size) w4 hg4 (by omega) (by omega)) ?_
    rintro _ w5 ⟨rfl, k5⟩
    rw [hB]
    have hsg := sg_le ((B s).drop j)
    rw [List.length_drop, B_len] at hsg
    have hg5 := hg4.kp k5
    have z5 := k5.size
    have b6_5 := k5.get0 b6'
    have kw5 := k4.no k5
    (repeat refine Zr ?_)
    refine s_v (r_ix rfl rfl rfl (by omega) (by omega)) ?_
    (repeat refine Zr ?_)
    refine s_call (us := []) (zs := []) (by kernel_rfl) rfl rfl (letter (bt s j) w5 hr) ?_
    rintro _ w6 ⟨rfl, rfl⟩
    (repeat refine Zr ?_)
    refine c_b rfl (fun hl => ?_) (fun hl => ?_)
    · obtain ⟨m, hm⟩ : ∃ m, rn eith ((B s).drop j) = m := ⟨_, rfl⟩
      have hm0 : 0 < m := by rw [← hm, hd]; exact rn_pos (by simp [eith, hl])
      have hml : j + m ≤ s.size := by
        have := rn_le eith ((B s).drop j)
        rw [List.length_drop, B_len, hm] at this; omega
      have hx : B (s.extract j (j + m)) = ((B s).drop j).take m := by rw [B_extract, List.drop_take]; congr 1; omega
      (repeat refine Zr ?_)
      refine s_call (us := []) (zs := []) (by kernel_rfl) rfl rfl (run s j 72 eith w6 hs hjl (by kernel_rfl) (fun c w h => either c w h)) ?_
      rintro _ w7 ⟨rfl, rfl⟩
      rw [hm]
      (repeat refine Zr ?_)
      refine k_q (by kernel_rfl) (by kernel_rfl) ?_
      refine q_v (fun w' hw => r_slax (a' := some ⟨0, 0, none⟩) (n' := 13) (c' := 13) rfl rfl rfl rfl rfl (by omega) (by omega) (by omega) subA_0 rfl rfl) ?_
      refine q_v (fun w' hw => r_mv rfl) ?_
      refine q_v (fun w' hw => r_mv rfl) ?_
      refine q_v (fun w' hw => r_mv rfl) ?_
      refine q_v (fun w' hw => r_ss rfl rfl rfl rfl (by omega) (by omega) (by omega)) ?_
      refine q_call (us := []) (zs := []) (v := .bool (wordsL.contains (((B s).drop j).take m))) (by kernel_rfl) rfl rfl (fun w' hw => ?_) ?_
      · refine (Contains wordsB (some ⟨0, 0, none⟩) 13 _ w' (.inr ⟨_, _, rfl, (hg5.kp hw).words⟩) (by decide +kernel)).mono ?_
        rintro _ _ ⟨rfl, rfl⟩
        refine ⟨?_, hw⟩
        rw [words_any, Int.toNat_natCast, Int.toNat_natCast, hx]
      refine q_nil (fun w8 k8 => ?_)
      have kw8 := kw5.no k8
      have z8 := k8.size
      (repeat refine Zr ?_)
      refine c_b rfl (fun hw => ?_) (fun hw => ?_)
      · (repeat refine Zr ?_)
        refine c_eq rfl (fun he => by omega) (fun _ => ?_)
        (repeat refine Zr ?_)
        refine s_st rfl rfl rfl rfl rfl (ag w8 (k5.no k8)) (Nat.le_of_ble_eq_true rfl) (fun w9 s9 => ?_)
        (repeat refine Zr ?_)
        refine ret_c2 rfl (rv_ag (vs := [.int .i64 3, .int .i64 j, .int .i64 ((j + m : Nat) : Int)]) rfl rfl rfl s9.blk rfl rfl) (rv_t rfl) ⟨nxV_of (ok := true) (m := m) hj ?_ rfl rfl rfl, kw8.trans s9.kp (fun _ _ e => by omega)⟩
        rw [← hm] at hw ⊢
        rw [hd] at hw ⊢
        rw [body, if_pos hl, if_pos hw]
      · (repeat refine Zr ?_)
        refine c_eq rfl (fun he => by omega) (fun _ => ?_)
        (repeat refine Zr ?_)
        refine s_st rfl rfl rfl rfl rfl (ag w8 (k5.no k8)) (Nat.le_of_ble_eq_true rfl) (fun w9 s9 => ?_)
        (repeat refine Zr ?_)
        refine ret_c2 rfl (rv_ag (vs := [.int .i64 1, .int .i64 j, .int .i64 ((j + m : Nat) : Int)]) rfl rfl rfl s9.blk rfl rfl) (rv_t rfl) ⟨nxV_of (ok := true) (m := m) hj ?_ rfl rfl rfl, kw8.trans s9.kp (fun _ _ e => by omega)⟩
        rw [← hm] at hw ⊢
        rw [hd] at hw ⊢
        rw [body, if_pos hl, if_neg (by rw [hw]; exact Bool.false_ne_true)]
    · (repeat refine Zr ?_)
      refine s_call (us := []) (zs := []) (by kernel_rfl) rfl rfl (digit (bt s j) w6 hr) ?_
      rintro _ w7 ⟨rfl, rfl⟩
      have hl' : ¬ lett (bt s j) = true := by rw [hl]; exact Bool.false_ne_true
      (repeat refine Zr ?_)
      refine c_b rfl (fun hg => ?_) (fun hg => ?_)
      · obtain ⟨m, hm⟩ : ∃ m, rn digi ((B s).drop j) = m := ⟨_, rfl⟩
        have hm0 : 0 < m := by rw [← hm, hd]; exact rn_pos hg
        have hml : j + m ≤ s.size := by
          have := rn_le digi ((B s).drop j)
          rw [List.length_drop, B_len, hm] at this; omega
        have hx : B (s.extract j (j + m)) = ((B s).drop j).take m := by rw [B_extract, List.drop_take]; congr 1; omega
        have hxs : (s.extract j (j + m)).size = m := by rw [← B_len, hx, List.length_take, List.length_drop, B_len]; omega
        have hx0 : bt (s.extract j (j + m)) 0 = bt s j := by
          have h1 : (B (s.extract j (j + m)))[0]? = some (bt s j) := by rw [hx, List.getElem?_take, if_pos hm0, hd]; rfl
          exact B_get h1
        (repeat refine Zr ?_)
        refine s_call (us := []) (zs := []) (by kernel_rfl) rfl rfl (run s j 74 digi w7 hs hjl (by kernel_rfl) (fun c w h => digit c w h)) ?_
        rintro _ w8 ⟨rfl, rfl⟩
        rw [hm]
        (repeat refine Zr ?_)
        refine s_v (r_ss rfl rfl rfl rfl (by omega) (by omega) (by omega)) ?_
        rw [Int.toNat_natCast, Int.toNat_natCast]
        refine s_call (us := []) (zs := []) (by kernel_rfl) rfl rfl (number (s.extract j (j + m)) w8 (by omega) (by omega)) ?_
        rintro _ w9 ⟨rfl, rfl⟩
        rw [hxs, hx0]
        have hbody : body ((B s).drop j) = if m ≤ 18 ∧ (m = 1 ∨ bt s j ≠ 48) ∧ rn lett (((B s).drop j).drop m) = 0 then (true, 2, m) else (false, 0, 0) := by
          rw [← hm, hd, body, if_neg hl', if_pos hg]
        rw [List.drop_drop] at hbody
        (repeat refine Zr ?_)
        by_cases hok : m ≤ 18 ∧ (m = 1 ∨ bt s j ≠ 48)
        · refine s_set 55 false rfl (by rw [decide_eq_true hok]; rfl) ?_
          (repeat (first | refine Zr ?_ | refine Zn ?_ | refine Zu ?_ | refine Zg ?_))
          refine s_gcall (us := []) (zs := []) rfl (by kernel_rfl) rfl rfl (run s (j + m) 70 lett w9 hs hml (by kernel_rfl) (fun c w h => letter c w h)) ?_
          rintro _ w10 ⟨rfl, rfl⟩
          (repeat (first | refine Zr ?_ | refine Zn ?_ | refine Zu ?_ | refine Zg ?_))
          refine c_dec rfl (fun hgt => ?_) (fun hgt => ?_)
          · (repeat refine Zr ?_)
            refine c_eq rfl (fun _ => ?_) (fun he => absurd rfl he)
            (repeat refine Zr ?_)
            refine s_v (r_ldb (vs := [.int .i64 0, .int .i64 j, .int .i64 j]) rfl rfl rfl b6_5 rfl rfl) ?_
            refine s_st rfl rfl rfl rfl rfl (ag w10 k5) (Nat.le_of_ble_eq_true rfl) (fun w11 s11 => ?_)
            (repeat refine Zr ?_)
            refine ret_c2 rfl (rv_ag (vs := [.int .i64 0, .int .i64 j, .int .i64 j]) rfl rfl rfl s11.blk rfl rfl) (rv_t rfl) ⟨nxV_of (ok := false) (m := 0) hj ?_ rfl rfl (by simp), kw5.trans s11.kp (fun _ _ e => by omega)⟩
            rw [hbody, if_neg (by rintro ⟨_, _, h⟩; omega)]
          · (repeat refine Zr ?_)
            refine c_eq rfl (fun he => by omega) (fun _ => ?_)
            (repeat refine Zr ?_)
            refine s_st rfl rfl rfl rfl rfl (ag w10 k5) (Nat.le_of_ble_eq_true rfl) (fun w11 s11 => ?_)
            (repeat refine Zr ?_)
            refine ret_c2 rfl (rv_ag (vs := [.int .i64 2, .int .i64 j, .int .i64 ((j + m : Nat) : Int)]) rfl rfl rfl s11.blk rfl rfl) (rv_t rfl) ⟨nxV_of (ok := true) (m := m) hj ?_ rfl rfl rfl, kw5.trans s11.kp (fun _ _ e => by omega)⟩
            rw [hbody, if_pos ⟨hok.1, hok.2, by omega⟩]
        · refine s_set 55 true rfl (by rw [decide_eq_false hok]; rfl) ?_
          (repeat (first | refine Zr ?_ | refine Zn ?_ | refine Zu ?_ | refine Zg ?_))
          refine c_t rfl ?_
          (repeat refine Zr ?_)
          refine c_eq rfl (fun _ => ?_) (fun he => absurd rfl he)
          (repeat refine Zr ?_)
          refine s_v (r_ldb (vs := [.int .i64 0, .int .i64 j, .int .i64 j]) rfl rfl rfl b6_5 rfl rfl) ?_
          refine s_st rfl rfl rfl rfl rfl (ag w9 k5) (Nat.le_of_ble_eq_true rfl) (fun w11 s11 => ?_)
          (repeat refine Zr ?_)
          refine ret_c2 rfl (rv_ag (vs := [.int .i64 0, .int .i64 j, .int .i64 j]) rfl rfl rfl s11.blk rfl rfl) (rv_t rfl) ⟨nxV_of (ok := false) (m := 0) hj ?_ rfl rfl (by simp), kw5.trans s11.kp (fun _ _ e => by omega)⟩
          rw [hbody, if_neg (by rintro ⟨h1, h2, _⟩; exact hok ⟨h1, h2⟩)]
      · have hg' : ¬ digi (bt s j) = true := by rw [hg]; exact Bool.false_ne_true
        obtain ⟨m, hm⟩ : ∃ m, sg ((B s).drop j) = m := ⟨_, rfl⟩
        rw [hm]
        have hbody : body ((B s).drop j) = if m = 0 then (false, 0, 0) else (true, 4, m) := by
          rw [← hm, hd, body, if_neg hl', if_neg hg']
        (repeat refine Zr ?_)
        refine c_eq rfl (fun h0 => ?_) (fun h0 => ?_)
        · (repeat refine Zr ?_)
          refine s_v (r_ldb (vs := [.int .i64 0, .int .i64 j, .int .i64 j]) rfl rfl rfl b6_5 rfl rfl) ?_
          refine s_st rfl rfl rfl rfl rfl (ag w7 k5) (Nat.le_of_ble_eq_true rfl) (fun w11 s11 => ?_)
          (repeat refine Zr ?_)
          refine ret_c2 rfl (rv_ag (vs := [.int .i64 0, .int .i64 j, .int .i64 j]) rfl rfl rfl s11.blk rfl rfl) (rv_t rfl) ⟨nxV_of (ok := false) (m := 0) hj ?_ rfl rfl (by simp), kw5.trans s11.kp (fun _ _ e => by omega)⟩
          rw [hbody, if_pos (by omega)]
        · (repeat refine Zr ?_)
          refine s_st rfl rfl rfl rfl rfl (ag w7 k5) (Nat.le_of_ble_eq_true rfl) (fun w11 s11 => ?_)
          (repeat refine Zr ?_)
          refine ret_c2 rfl (rv_ag (vs := [.int .i64 4, .int .i64 j, .int .i64 ((j : Int) + (m : Int))]) rfl rfl rfl s11.blk rfl rfl) (rv_t rfl) ⟨nxV_of (ok := true) (m := m) hj ?_ rfl rfl (by omega), kw5.trans s11.kp (fun _ _ e => by omega)⟩
          rw [hbody, if_neg (by omega)]
set_option maxHeartbeats 1000000 in
theorem All (s : ByteArray) (w : World) (hg : Glob w) (hs : s.size ≤ 1000000) :
    Ret Tryz.prog 16 [.string s] w fun v w1 => ∃ u, v = .tuple #[u, .int .i64 (allT (B s)).2.1, .int .i64 (allT (B s)).2.2] ∧ w1.ownsRow w.heap.size 64 3 u (allT (B s)).1.length (tc (allT (B s)).1) ∧ Kp No w w1 := by
  have hlen := B_len s
  refine ret_enter Tryz.func16 rfl Tryz.ntmps16 rfl ?_
  (repeat refine Zr ?_)
  refine c_dec rfl (fun hbig => ?_) (fun hsm => ?_)
  · have hall : allT (B s) = ([], 0, 1) := by rw [allT, if_pos (by omega)]
    (repeat refine Zr ?_)
    refine ret_3 rfl rfl rfl rfl ⟨.slice none 0 0, by rw [hall], ?_, Kp.refl _ _⟩
    rw [hall]
    exact ⟨by simp [tc], .inl ⟨rfl, rfl⟩⟩
  · obtain ⟨R, hR⟩ : ∃ R, als (s.size + 1) 0 (B s) = R := ⟨_, rfl⟩
    (repeat refine Zr ?_)
    refine k_loop (σ := Nat × Value × List T3 × Nat) (fun t => [(0, .string s), (5, t.2.1), (6, .int .i64 t.1)])
      (fun t w' => t.1 ≤ s.size ∧ t.2.2.2 = s.size - t.1 + 1 ∧ w'.ownsRow w.heap.size 64 3 t.2.1 t.2.2.1.length (tc t.2.2.1) ∧ t.2.2.1.length ≤ t.1 ∧ Kp No w w' ∧
        (∃ f', s.size - t.1 + 1 ≤ f' ∧ R = (t.2.2.1 ++ (als f' t.1 ((B s).drop t.1)).1, (als f' t.1 ((B s).drop t.1)).2))) (fun t => s.size - t.1 + 1) (0, .slice none 0 0, [], s.size + 1) ⟨rfl, rfl, rfl, trivial⟩
      ⟨Nat.zero_le _, by simp, ⟨by simp [tc], .inl ⟨rfl, rfl⟩⟩, by simp, Kp.refl _ _, s.size + 1, by simp, by simp [hR]⟩ ?_
    rintro ⟨a, v, ts, fu⟩ l w1 ⟨ha, hfu, hown, htl, k1, f', hf', hals⟩
    simp only at ha hfu hown htl k1 hf' hals
    dsimp only
    have hnl := nx_le ((B s).drop a)
    rw [List.length_drop, B_len] at hnl
    obtain ⟨g, rfl⟩ : ∃ g, f' = g + 1 := ⟨f' - 1, by omega⟩
    obtain ⟨ok, k, n, m, hnx⟩ : ∃ ok k n m, nx ((B s).drop a) = ⟨ok, k, n, m⟩ := ⟨_, _, _, _, rfl⟩
    have hpos : ok = true → k ≠ 0 → 0 < m := fun h hk => by have := nx_pos (L := (B s).drop a) (by rw [hnx]; exact h) (by rw [hnx]; exact hk); rw [hnx] at this; exact this
    rw [hnx] at hnl
    simp only at hnl
    rw [als, hnx] at hals
    simp only at hals
    obtain ⟨av, cv, rfl, _, _, _⟩ := own_read hown
    (repeat refine Zr ?_)
    refine s_call (us := []) (zs := []) (by kernel_rfl) rfl rfl (Next s a w1 (hg.kp k1) hs ha) ?_
    rintro _ w2 ⟨rfl, k2⟩
    rw [nxV, tokV, hnx]
    (repeat refine Zr ?_)
    refine s_al rfl (fun b7 w3 n3 => ?_)
    refine s_st rfl rfl rfl rfl rfl n3.blk (Nat.le_of_ble_eq_true rfl) (fun w4 s4 => ?_)
    have y3 := n3.ge
    have z2 := k2.size
    have z3 := n3.kp.size
    have z4 := s4.sz
    have z1 := k1.size
    have hb7 := s4.blk
    have k4 : Kp No w1 w4 := (k2.no n3.kp).trans s4.kp (fun _ _ e => by omega)
    have kw4 := k1.no k4
    have own4 := own_kp hown k4 (fun _ _ => id)
    (repeat refine Zr ?_)
    cases ok with
    | false =>
      refine k_re 19 (v' := .bool true) rfl rfl ?_
      refine c_t rfl ?_
      have hall : allT (B s) = ([], ((a + n : Nat) : Int), 2) := by
        rw [allT, if_neg (by omega), hlen, hR, hals]; rfl
      (repeat refine Zr ?_)
      refine k_q (by kernel_rfl) (by kernel_rfl) ?_
      refine q_v (fun w' hw => r_fa rfl rfl) ?_
      refine q_v (fun w' hw => r_fa rfl rfl) ?_
      refine q_v (fun w' hw => r_ld rfl rfl (cell_of_blk (hw.get0 hb7) (by rfl))) ?_
      refine q_v (fun w' hw => r_mv rfl) ?_
      refine q_v (fun w' hw => r_as rfl) ?_
      refine q_v (fun w' hw => r_as rfl) ?_
      refine q_v (fun w' hw => r_as rfl) ?_
      refine q_nil (fun w5 k5 => ?_)
      (repeat refine Zr ?_)
      refine ret_3 rfl rfl rfl rfl ⟨.slice none 0 0, by rw [hall]; rfl, ?_, kw4.no k5⟩
      rw [hall]
      exact ⟨by simp [tc], .inl ⟨rfl, rfl⟩⟩
    | true =>
      refine k_re 19 (v' := .bool false) rfl rfl ?_
      refine c_f rfl ?_
      (repeat refine Zr ?_)
      refine s_v (r_ldb (vs := [.int .i64 k, .int .i64 ((a + n : Nat) : Int), .int .i64 ((a + n + m : Nat) : Int)]) rfl rfl rfl hb7 rfl rfl) ?_
      refine s_bs (cs := [.int .i64 k, .int .i64 ((a + n : Nat) : Int), .int .i64 ((a + n + m : Nat) : Int)]) rfl (fun b8 w5 n5 => ?_)
      have own5 := own_kp own4 n5.kp (fun _ _ => id)
      have z5 := n5.kp.size
      refine s_app (size := 3) (bytes := 24) (base := w.heap.size) (news := [.int .i64 k, .int .i64 ((a + n : Nat) : Int), .int .i64 ((a + n + m : Nat) : Int)]) rfl rfl rfl rfl rfl rfl rfl rfl own5 rfl (blk_cells n5.blk) rfl rfl (by omega) (by omega) (by omega) ?_
      intro v6 w6 a6
      have hbs : ∀ g, (Value.slice av ts.length cv).ownBlock = some g → w.heap.size ≤ g ∧ g < w1.heap.size := fun g e => own_lt hown e
      have hb7' := a6.kp.get (n5.kp.get0 hb7) (fun e => by have := hbs b7 e.symm; omega)
      have k6 : Kp No w w6 := (kw4.no n5.kp).trans a6.kp (fun i hi e => by have := hbs i e.symm; omega)
      have own6 : w6.ownsRow w.heap.size 64 3 v6 (ts ++ [(k, ((a + n : Nat) : Int), ((a + n + m : Nat) : Int))]).length (tc (ts ++ [(k, ((a + n : Nat) : Int), ((a + n + m : Nat) : Int))])) := by
        have := a6.own
        have e1 : tc (ts ++ [(k, ((a + n : Nat) : Int), ((a + n + m : Nat) : Int))]) = tc ts ++ [.int .i64 k, .int .i64 ((a + n : Nat) : Int), .int .i64 ((a + n + m : Nat) : Int)] := by simp [tc]
        rw [e1, List.length_append, List.length_singleton]
        exact this
      obtain ⟨a6', c6, rfl, _, _, _⟩ := own_read a6.own
      (repeat refine Zr ?_)
      refine c_eq rfl (fun hk => ?_) (fun hk => ?_)
      · subst hk
        have hall : allT (B s) = (ts ++ [(0, ((a + n : Nat) : Int), ((a + n + m : Nat) : Int))], 0, 0) := by
          rw [allT, if_neg (by omega), hlen, hR, hals]; rfl
        (repeat refine Zr ?_)
        refine ret_3 rfl rfl rfl rfl ⟨.slice a6' (ts.length + 1) c6, by rw [hall], ?_, k6⟩
        rw [hall]
        exact own6
      · have hm := hpos rfl hk
        (repeat refine Zr ?_)
        refine l_next (a + n + m, .slice a6' (ts.length + 1) c6, ts ++ [(k, ((a + n : Nat) : Int), ((a + n + m : Nat) : Int))], s.size - (a + n + m) + 1) ⟨rfl, rfl, rfl, trivial⟩
          ⟨by show a + n + m ≤ s.size; omega, rfl, own6, by simp only [List.length_append, List.length_singleton]; omega, k6, g, by show s.size - (a + n + m) + 1 ≤ g; omega, ?_⟩ (by show s.size - (a + n + m) + 1 < s.size - a + 1; omega)
        show R = (ts ++ [(k, ((a + n : Nat) : Int), ((a + n + m : Nat) : Int))] ++ (als g (a + n + m) ((B s).drop (a + n + m))).1, (als g (a + n + m) ((B s).drop (a + n + m))).2)
        rw [hals]
        simp only [if_true, if_neg hk, List.drop_drop]
        rw [show a + (n + m) = a + n + m from by omega]
        simp
end Tk
end Go.Proofs.YtfnbgbeinmekgaaGreatDoor
namespace Go.Proofs.YtfnbgbeinmekgaaGreatDoor.Sy
open Go Go.RowKit Fw
set_option linter.unusedVariables false
set_option maxRecDepth 20000
/-- Where the tokens, and the texts, lie. -/
theorem At.tokens {X : Cx} {w : World} {s : PS} {V : VS} (h : At X w s V) : ∃ g c, X.tv = .slice (some ⟨g, 0, none⟩) X.T.length c ∧ ∀ (i : Nat) (t : Tk.T3), X.T[i]? = some t →
    w.cell? ⟨g, 0 + (i : Int).toNat * 3, none⟩ = some (.int .i64 t.1) ∧ w.cell? ⟨g, 0 + (i : Int).toNat * 3 + 1, none⟩ = some (.int .i64 t.2.1) ∧ w.cell? ⟨g, 0 + (i : Int).toNat * 3 + 2, none⟩ = some (.int .i64 t.2.2) := by
  obtain ⟨a, c, e, hnc, h0, hr⟩ := own_read h.tk
  cases a with
  | none => have := h0 rfl; have := h.lt; omega
  | some ad =>
    obtain ⟨g, rfl, _, _, hc⟩ := hr _ rfl
    refine ⟨g, c, e, fun i t ht => ?_⟩
    obtain ⟨h1, h2, h3⟩ := Tk.tc_get ht
    exact ⟨hc _ _ h1, hc _ _ h2, hc _ _ h3⟩
theorem At.texts {X : Cx} {w : World} {s : PS} {V : VS} (h : At X w s V) (ok : Ok X) : ∃ g c, X.wv = .slice (some ⟨g, 0, none⟩) X.wl.length c ∧ ∀ (i : Nat) (x : ByteArray), X.wl[i]? = some x → w.cell? ⟨g, 0 + (i : Int).toNat * 1, none⟩ = some (.string x) := by
  obtain ⟨a, c, e, hnc, h0, hr⟩ := own_read h.wd
  cases a with
  | none => have := h0 rfl; have := h.lt; have := ok.len; omega
  | some ad =>
    obtain ⟨g, rfl, _, _, hc⟩ := hr _ rfl
    refine ⟨g, c, e, fun i x hx => ?_⟩
    have := hc i (.string x) (by rw [List.getElem?_map, hx]; rfl)
    simpa using this
theorem hereF {X : Cx} {w : World} {s : PS} {V : VS} (h : At X w s V) (ok : Ok X) : Ret Tryz.prog 39 [.pointer (some ⟨X.p, 0, none⟩)] w fun v w1 => v = .int .i64 (hr X.E s) ∧ Kp No w w1 := by
  obtain ⟨t, x, ht, hx, e1, e2, e3⟩ := h.tok ok
  obtain ⟨g, c, e, hc⟩ := h.tokens
  obtain ⟨c1, c2, c3⟩ := hc _ _ ht
  have hb := h.blk
  rw [e] at hb
  have hl := h.lt
  refine ret_enter Tryz.func39 rfl Tryz.ntmps39 rfl ?_
  (repeat refine Zr ?_)
  refine k_q (by kernel_rfl) (by kernel_rfl) ?_
  (repeat (first | refine Zq ?_ | refine Zqn ?_ | refine Zqu ?_ | refine Zqg ?_))
  refine q_nil (fun w1 k1 => ?_)
  (repeat refine Zr ?_)
  exact ret_1 rfl rfl ⟨by rw [e2], k1⟩
theorem any_eq (ls : List ByteArray) (x : ByteArray) : (ls.any fun y => x.toList == y.toList) = decide (B x ∈ ls.map B) := by
  simp only [str_eq]
  rw [Bool.eq_iff_iff, List.any_eq_true, decide_eq_true_eq, List.mem_map]
  constructor
  · rintro ⟨y, hy, h⟩; exact ⟨y, hy, (of_decide_eq_true h).symm⟩
  · rintro ⟨y, hy, h⟩; exact ⟨y, hy, decide_eq_true h.symm⟩
theorem nz {x : ByteArray} (h : B x ≠ []) : (x.toList == (⟨#[]⟩ : ByteArray).toList) = false := by
  rw [str_eq]; exact decide_eq_false h
theorem ez : ((⟨#[]⟩ : ByteArray).toList == (⟨#[]⟩ : ByteArray).toList) = true := by rw [str_eq]; exact decide_eq_true rfl
theorem isF {X : Cx} {w : World} {s : PS} {V : VS} (h : At X w s V) (ok : Ok X) (ls : List ByteArray) (a : Option Addr) (c : Nat) (hr : Tk.Rd w a ls) (hl : ls.length ≤ 1000) (hn : [] ∉ ls.map B) :
    Ret Tryz.prog 40 [.pointer (some ⟨X.p, 0, none⟩), .slice a ls.length c] w fun v w1 => v = .bool (decide (Sy.wd X.E s ∈ ls.map B)) ∧ Kp No w w1 := by
  obtain ⟨t, x, ht, hx, e1, e2, e3⟩ := h.tok ok
  obtain ⟨g, cw, e, hc⟩ := h.texts ok
  have c1 := hc _ _ hx
  have hb := h.blk
  rw [e] at hb
  have hlt := h.lt
  have hll := ok.len
  rw [e3]
  refine ret_enter Tryz.func40 rfl Tryz.ntmps40 rfl ?_
  (repeat refine Zr ?_)
  refine k_q (by kernel_rfl) (by kernel_rfl) ?_
  (repeat (first | refine Zq ?_ | refine Zqn ?_ | refine Zqu ?_ | refine Zqg ?_))
  refine q_call (us := []) (zs := []) (v := .bool (ls.any fun y => x.toList == y.toList)) (by kernel_rfl) rfl rfl (fun w' hw => (Tk.Contains ls a c x w' (hr.kp hw) hl).mono (by rintro _ _ ⟨rfl, rfl⟩; exact ⟨rfl, hw⟩)) ?_
  (repeat (first | refine Zq ?_ | refine Zqn ?_ | refine Zqu ?_ | refine Zqg ?_))
  by_cases q : B x ∈ ls.map B
  · refine q_set 17 true rfl (by rw [any_eq]; exact decide_eq_true q) ?_
    (repeat (first | refine Zq ?_ | refine Zqn ?_ | refine Zqu ?_ | refine Zqg ?_))
    refine q_nil (fun w1 k1 => ?_)
    (repeat refine Zr ?_)
    refine ret_1 rfl rfl ⟨?_, k1⟩
    have hz := nz (x := x) (fun e => hn (e ▸ q))
    show Value.bool (!(x.toList == _)) = _
    rw [hz, decide_eq_true q]; rfl
  · refine q_set 17 false rfl (by rw [any_eq]; exact decide_eq_false q) ?_
    (repeat (first | refine Zq ?_ | refine Zqn ?_ | refine Zqu ?_ | refine Zqg ?_))
    refine q_nil (fun w1 k1 => ?_)
    (repeat refine Zr ?_)
    exact ret_1 rfl rfl ⟨by rw [decide_eq_false q], k1⟩
theorem failF {X : Cx} {w : World} {s : PS} {V : VS} (h : At X w s V) (ok : Ok X) (k : Int) :
    RetP Tryz.prog 41 [.pointer (some ⟨X.p, 0, none⟩), .int .i64 k] w (fun _ _ => False) fun c w1 => c = thrown k (hr X.E s) ∧ Kp No w w1 := by
  refine retP_enter Tryz.func41 rfl Tryz.ntmps41 rfl ?_
  (repeat refine Zr ?_)
  refine s_call (us := []) (zs := []) (by kernel_rfl) rfl rfl (hereF h ok) ?_
  rintro v w1 ⟨rfl, k1⟩
  (repeat refine Zr ?_)
  refine s_v (r_mi rfl rfl rfl) ?_
  exact s_panic rfl ⟨rfl, k1⟩
/-- The parser's place, one on. -/
theorem At.adv {X : Cx} {w w1 : World} {s : PS} {V : VS} (h : At X w s V) (ok : Ok X) (hne : Sy.wd X.E s ≠ [] ∨ kd X.E s ≠ 0) (k : Sb w X.p [X.tv, X.wv, .int .i64 ((s.i + 1 : Nat) : Int), V.x, V.s, V.f] 56 w1) : Sg X w V w1 (adv s) V := by
  obtain ⟨t, x, ht, hx, e1, e2, e3⟩ := h.tok ok
  have hlt : s.i + 1 < X.T.length := by
    rcases Nat.lt_or_ge (s.i + 1) X.T.length with h1 | h1
    · exact h1
    · have h2 : s.i + 1 = X.T.length := by have := h.lt; omega
      rcases hne with hne | hne
      · exact (hne (by rw [e3]; exact ok.lastw _ _ hx h2)).elim
      · exact (hne (by rw [e1]; exact ok.last _ _ ht h2)).elim
  have hk : ∀ {base : Nat} {e : TypeId} {size : Nat} {v : Value} {n : Nat} {cs : List Value}, w.ownsRow base e size v n cs → Nat.beq e 56 = false → w1.ownsRow base e size v n cs := fun ho he => own_kp ho k.kp fun g hg => by
    obtain ⟨c, hc⟩ := own_ty ho hg
    exact ty_ne hc h.blk he
  obtain ⟨rx, a1, o1, l1⟩ := h.xs
  obtain ⟨ry, a2, o2, l2⟩ := h.ss
  obtain ⟨rz, a3, o3, l3⟩ := h.fs
  exact ⟨⟨k.blk, hk h.tk rfl, hk h.wd rfl, ⟨rx, a1, hk o1 rfl, fun r hr => ⟨hk (l1 r hr).1 rfl, (l1 r hr).2⟩⟩, ⟨ry, a2, hk o2 rfl, fun r hr => ⟨⟨hk (l2 r hr).1.1 rfl, (l2 r hr).1.2⟩, hk (l2 r hr).2.1 rfl, (l2 r hr).2.2⟩⟩, ⟨rz, a3, hk o3 rfl, fun r hr => ⟨⟨hk (l3 r hr).1.1 rfl, (l3 r hr).1.2⟩, hk (l3 r hr).2.1 rfl, (l3 r hr).2.2⟩⟩,
    hlt, by have := h.xl; show s.ex.length ≤ s.i + 1; omega, h.sl, h.fl, fun b hb => Nat.lt_of_lt_of_le (h.ob b hb) k.kp.size⟩, ⟨k.kp.mono fun i _ e => .inl e, fun b _ hs => hs, fun b _ hs => hs⟩⟩
theorem takeF {X : Cx} {w : World} {s : PS} {V : VS} (h : At X w s V) (ok : Ok X) (ls : List ByteArray) (a : Option Addr) (c : Nat) (hr : Tk.Rd w a ls) (hl : ls.length ≤ 1000) (hn : [] ∉ ls.map B) :
    Ret Tryz.prog 44 [.pointer (some ⟨X.p, 0, none⟩), .slice a ls.length c] w fun v w1 => ∃ x, B x = Sy.wd X.E s ∧
      ((Sy.wd X.E s ∈ ls.map B ∧ v = .string x ∧ (x.toList == (⟨#[]⟩ : ByteArray).toList) = false ∧ Sg X w V w1 (adv s) V) ∨ (Sy.wd X.E s ∉ ls.map B ∧ v = .string ⟨#[]⟩ ∧ Kp No w w1)) := by
  obtain ⟨t, x, ht, hx, e1, e2, e3⟩ := h.tok ok
  have hlt := h.lt
  have hll := ok.len
  have hbig := ok.big
  refine ret_enter Tryz.func44 rfl Tryz.ntmps44 rfl ?_
  (repeat refine Zr ?_)
  refine s_call (us := []) (zs := []) (by kernel_rfl) rfl rfl (isF h ok ls a c hr hl hn) ?_
  rintro v w1 ⟨rfl, k1⟩
  have h1 := h.no k1
  obtain ⟨g, cw, e, hc⟩ := h1.texts ok
  have c1 := hc _ _ hx
  have hb := h1.blk
  rw [e] at hb
  (repeat refine Zr ?_)
  refine c_b rfl (fun q => ?_) (fun q => ?_)
  · have q : (!decide (Sy.wd X.E s ∈ ls.map B)) = true := q
    have q : Sy.wd X.E s ∉ ls.map B := by simpa using q
    (repeat refine Zr ?_)
    exact ret_1 rfl rfl ⟨x, e3.symm, .inr ⟨q, rfl, k1⟩⟩
  · have q : (!decide (Sy.wd X.E s ∈ ls.map B)) = false := q
    have q : Sy.wd X.E s ∈ ls.map B := by simpa using q
    have hne : Sy.wd X.E s ≠ [] := fun e => hn (e ▸ q)
    (repeat refine Zr ?_)
    refine s_st (vs := [.int .i64 ((s.i : Int) + 1)]) rfl rfl rfl rfl rfl hb (Nat.le_of_ble_eq_true rfl) (fun w2 s2 => ?_)
    have s2' : Sb w1 X.p [X.tv, X.wv, .int .i64 ((s.i + 1 : Nat) : Int), V.x, V.s, V.f] 56 w2 := ⟨s2.kp, s2.sz, by rw [e]; exact s2.blk⟩
    have g2 := h1.adv ok (.inl hne) s2'
    have hb2 : w2.heap[X.p]? = some (.cells [X.tv, .slice (some ⟨g, 0, none⟩) X.wl.length cw, .int .i64 ((s.i : Int) + 1), V.x, V.s, V.f].toArray 56 (0, 0)) := s2.blk
    obtain ⟨g', cw', e', hc'⟩ := g2.at_.texts ok
    rw [e] at e'
    cases e'
    have c2 : w2.cell? ⟨g, 0 + ((s.i : Int) + 1 - 1).toNat * 1, none⟩ = some (.string x) := by
      have := hc' _ _ hx
      have e4 : ((s.i : Int) + 1 - 1).toNat = (s.i : Int).toNat := by omega
      rw [e4]; exact this
    (repeat refine Zr ?_)
    refine k_q (by kernel_rfl) (by kernel_rfl) ?_
    (repeat (first | refine Zq ?_ | refine Zqn ?_ | refine Zqu ?_ | refine Zqg ?_))
    refine q_nil (fun w3 k3 => ?_)
    (repeat refine Zr ?_)
    exact ret_1 rfl rfl ⟨x, e3.symm, .inl ⟨q, rfl, nz (by rw [← e3]; exact hne), (Sg.no ⟨g2.at_, ⟨Kp.trans (k1.mono fun _ _ h => h.elim) g2.gs.kp (fun _ _ h => h), fun b hb hs => hs, fun b hb hs => hs⟩⟩ k3)⟩⟩
end Go.Proofs.YtfnbgbeinmekgaaGreatDoor.Sy
