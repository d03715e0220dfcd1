/- Code: rows of procedures and instructions; form; effect. -/
import Derived.Test.YtpamkidcmjfieaaDoorCw
namespace Go.Proofs.YtpamkidcmjfieaaDoor
open Go Go.RowKit Fw Nu
set_option linter.unusedVariables false
set_option maxRecDepth 20000
namespace Cd
/-- Procedures in a row. -/
def RP (w : World) (a : Option Addr) (ps : List Prc) : Prop := ps = [] ∨ ∃ b o, a = some ⟨b, o, none⟩ ∧ b < w.heap.size ∧ ∀ (j : Nat) p, ps[j]? = some p → ∀ k, k < 6 → w.cell? ⟨b, o + j * 6 + k, none⟩ = (pc p)[k]?
/-- Instructions in a row. -/
def RI (w : World) (a : Option Addr) (is : List Ins) : Prop := is = [] ∨ ∃ b o, a = some ⟨b, o, none⟩ ∧ b < w.heap.size ∧ ∀ (j : Nat) i, is[j]? = some i → ∀ k, k < 3 → w.cell? ⟨b, o + j * 3 + k, none⟩ = (ic i)[k]?
theorem cell_some {w w' : World} {S : Nat → Prop} {a : Addr} {l : List Value} {k n : Nat} (hn : l.length = n) (hk : k < n) (h : w.cell? a = l[k]?) (kp : Kp S w w') (hS : ¬ S a.block) : w'.cell? a = l[k]? := by
  obtain ⟨v, hv⟩ : ∃ v, l[k]? = some v := ⟨_, List.getElem?_eq_getElem (by omega)⟩
  rw [hv] at h ⊢
  exact kp.cell h hS
theorem RP.kp {S : Nat → Prop} {w w' : World} {a : Option Addr} {ps : List Prc} (h : RP w a ps) (k : Kp S w w') (hS : ∀ q, q < w.heap.size → ¬ S q) : RP w' a ps := by
  rcases h with h | ⟨b, o, rfl, hb, h⟩
  · exact .inl h
  · exact .inr ⟨b, o, rfl, Nat.lt_of_lt_of_le hb k.size, fun j p hj q hq => cell_some (n := 6) rfl hq (h j p hj q hq) k (hS _ hb)⟩
theorem RI.kp {S : Nat → Prop} {w w' : World} {a : Option Addr} {is : List Ins} (h : RI w a is) (k : Kp S w w') (hS : ∀ q, q < w.heap.size → ¬ S q) : RI w' a is := by
  rcases h with h | ⟨b, o, rfl, hb, h⟩
  · exact .inl h
  · exact .inr ⟨b, o, rfl, Nat.lt_of_lt_of_le hb k.size, fun j p hj q hq => cell_some (n := 3) rfl hq (h j p hj q hq) k (hS _ hb)⟩
theorem RP.kp0 {w w' : World} {a : Option Addr} {ps : List Prc} (h : RP w a ps) (k : Kp No w w') : RP w' a ps := h.kp k fun _ _ h => h
theorem RI.kp0 {w w' : World} {a : Option Addr} {is : List Ins} (h : RI w a is) (k : Kp No w w') : RI w' a is := h.kp k fun _ _ h => h
theorem RP.at {w : World} {a : Option Addr} {ps : List Prc} (h : RP w a ps) {j : Nat} {p : Prc} (hj : ps[j]? = some p) : ∃ b o, a = some ⟨b, o, none⟩ ∧ b < w.heap.size ∧ ∀ k, k < 6 → w.cell? ⟨b, (o + (j : Int).toNat * 6) + k, none⟩ = (pc p)[k]? := by
  rcases h with rfl | ⟨b, o, rfl, hb, h⟩
  · cases hj
  · exact ⟨b, o, rfl, hb, fun k hk => by rw [Int.toNat_natCast]; exact h j p hj k hk⟩
theorem RI.at {w : World} {a : Option Addr} {is : List Ins} (h : RI w a is) {j : Nat} {i : Ins} (hj : is[j]? = some i) : ∃ b o, a = some ⟨b, o, none⟩ ∧ b < w.heap.size ∧ ∀ k, k < 3 → w.cell? ⟨b, (o + (j : Int).toNat * 3) + k, none⟩ = (ic i)[k]? := by
  rcases h with rfl | ⟨b, o, rfl, hb, h⟩
  · cases hj
  · exact ⟨b, o, rfl, hb, fun k hk => by rw [Int.toNat_natCast]; exact h j i hj k hk⟩
/-- The closure of form: an instruction that may not be. -/
theorem form1 (c : Cde) (ap al : Option Addr) (cp nl cl : Nat) (p : Prc) (i : Ins) (b1 b7 : Nat) (w : World) (hs : Shp w) (hb1 : w.heap[b1]? = some (.cells [Value.slice ap c.ps.length cp, .slice al nl cl].toArray 25 (0, 0)))
    (hb7 : w.heap[b7]? = some (.cells [Value.string p.nm, .int .i64 p.fr, .int .i64 p.to, .int .i64 p.pa, .int .i64 p.sl, .int .i64 p.ty].toArray 32 (0, 0))) (hr : 0 ≤ p.sl ∧ p.sl ≤ 64) (ht : 0 ≤ p.to ∧ p.to ≤ 9223372036854775807) (hn : c.ps.length ≤ 1000000) :
    Ret Tryd.prog 16 [.agg (ic i).toArray, .pointer (some ⟨b1, 0, none⟩), .pointer (some ⟨b7, 0, none⟩)] w fun v w1 => v = .bool (!decide (fit c p i)) ∧ Kp No w w1 := by
  refine ret_enter Tryd.func16 rfl Tryd.ntmps16 rfl ?_
  (repeat (first | refine k_nil ?_ | refine k_n ?_ | refine k_r ?_ | refine k_x ?_ | refine b_n ?_ | refine b_r ?_ | refine b_y rfl ?_ | refine b_z rfl ?_ | refine l_r ?_ | refine l_x ?_ | refine k_seq ?_ | refine k_blk ?_ | refine k_reg ?_ | refine k_ret ?_ | refine k_exit ?_ | refine k_skip ?_ | refine Zs ?_))
  refine s_box (cs := ic i) rfl rfl (fun b3 w1 n1 => ?_)
  have e3 : w1.heap[b3]? = some (.cells [Value.int .i64 i.op, .int .i64 i.arg, .int .i64 i.more].toArray 34 (0, 0)) := n1.blk
  have e1 := n1.kp.get0 hb1
  have e7 := n1.kp.get0 hb7
  (repeat (first | refine k_nil ?_ | refine k_n ?_ | refine k_r ?_ | refine k_x ?_ | refine b_n ?_ | refine b_r ?_ | refine b_y rfl ?_ | refine b_z rfl ?_ | refine l_r ?_ | refine l_x ?_ | refine k_seq ?_ | refine k_blk ?_ | refine k_reg ?_ | refine k_ret ?_ | refine k_exit ?_ | refine k_skip ?_ | refine Zs ?_))
  refine s_call (us := []) (zs := []) (by kernel_rfl) rfl rfl (within i.op 1 29 w1) ?_
  rintro _ w2 ⟨rfl, rfl⟩
  (repeat (first | refine k_nil ?_ | refine k_n ?_ | refine k_r ?_ | refine k_x ?_ | refine b_n ?_ | refine b_r ?_ | refine b_y rfl ?_ | refine b_z rfl ?_ | refine l_r ?_ | refine l_x ?_ | refine k_seq ?_ | refine k_blk ?_ | refine k_reg ?_ | refine k_ret ?_ | refine k_exit ?_ | refine k_skip ?_ | refine Zs ?_))
  by_cases h1 : 1 ≤ i.op ∧ i.op ≤ 29
  case neg =>
    refine s_set 9 true rfl (by rw [decide_eq_false h1]; rfl) ?_
    (repeat (first | refine k_nil ?_ | refine k_n ?_ | refine k_r ?_ | refine k_x ?_ | refine b_n ?_ | refine b_r ?_ | refine b_y rfl ?_ | refine b_z rfl ?_ | refine l_r ?_ | refine l_x ?_ | refine k_seq ?_ | refine k_blk ?_ | refine k_reg ?_ | refine k_ret ?_ | refine k_exit ?_ | refine k_skip ?_ | refine Zs ?_ | refine Zn ?_ | refine Zu ?_ | refine Zg ?_))
    exact ret_1 rfl rfl ⟨by rw [decide_eq_false (show ¬ fit c p i from fun h => h1 h.1)]; rfl, n1.kp⟩
  refine s_set 9 false rfl (by rw [decide_eq_true h1]; rfl) ?_
  (repeat (first | refine k_nil ?_ | refine k_n ?_ | refine k_r ?_ | refine k_x ?_ | refine b_n ?_ | refine b_r ?_ | refine b_y rfl ?_ | refine b_z rfl ?_ | refine l_r ?_ | refine l_x ?_ | refine k_seq ?_ | refine k_blk ?_ | refine k_reg ?_ | refine k_ret ?_ | refine k_exit ?_ | refine k_skip ?_ | refine Zs ?_ | refine Zn ?_ | refine Zu ?_ | refine Zg ?_))
  refine s_gv rfl (r_ldb (vs := [.slice ap c.ps.length cp, .slice al nl cl]) rfl rfl rfl e1 rfl rfl) ?_
  (repeat (first | refine k_nil ?_ | refine k_n ?_ | refine k_r ?_ | refine k_x ?_ | refine b_n ?_ | refine b_r ?_ | refine b_y rfl ?_ | refine b_z rfl ?_ | refine l_r ?_ | refine l_x ?_ | refine k_seq ?_ | refine k_blk ?_ | refine k_reg ?_ | refine k_ret ?_ | refine k_exit ?_ | refine k_skip ?_ | refine Zs ?_ | refine Zn ?_ | refine Zu ?_ | refine Zg ?_))
  refine s_gv rfl (r_ldb (vs := pc p) rfl rfl rfl e7 rfl rfl) ?_
  (repeat (first | refine k_nil ?_ | refine k_n ?_ | refine k_r ?_ | refine k_x ?_ | refine b_n ?_ | refine b_r ?_ | refine b_y rfl ?_ | refine b_z rfl ?_ | refine l_r ?_ | refine l_x ?_ | refine k_seq ?_ | refine k_blk ?_ | refine k_reg ?_ | refine k_ret ?_ | refine k_exit ?_ | refine k_skip ?_ | refine Zs ?_ | refine Zn ?_ | refine Zu ?_ | refine Zg ?_))
  refine s_gv rfl (r_ldb (vs := ic i) rfl rfl rfl e3 rfl rfl) ?_
  (repeat (first | refine k_nil ?_ | refine k_n ?_ | refine k_r ?_ | refine k_x ?_ | refine b_n ?_ | refine b_r ?_ | refine b_y rfl ?_ | refine b_z rfl ?_ | refine l_r ?_ | refine l_x ?_ | refine k_seq ?_ | refine k_blk ?_ | refine k_reg ?_ | refine k_ret ?_ | refine k_exit ?_ | refine k_skip ?_ | refine Zs ?_ | refine Zn ?_ | refine Zu ?_ | refine Zg ?_))
  refine s_gcall (us := []) (zs := []) rfl (by kernel_rfl) rfl rfl (argF c ap al cp nl cl p i w2 (hs.kp n1.kp) (by omega) h1.2 hr ht hn) ?_
  rintro _ w3 ⟨rfl, k3⟩
  have e33 := k3.get0 e3
  (repeat (first | refine k_nil ?_ | refine k_n ?_ | refine k_r ?_ | refine k_x ?_ | refine b_n ?_ | refine b_r ?_ | refine b_y rfl ?_ | refine b_z rfl ?_ | refine l_r ?_ | refine l_x ?_ | refine k_seq ?_ | refine k_blk ?_ | refine k_reg ?_ | refine k_ret ?_ | refine k_exit ?_ | refine k_skip ?_ | refine Zs ?_ | refine Zn ?_ | refine Zu ?_ | refine Zg ?_))
  by_cases h2 : fitA c p i
  case neg =>
    refine s_set 16 true rfl (by rw [decide_eq_false h2]; rfl) ?_
    (repeat (first | refine k_nil ?_ | refine k_n ?_ | refine k_r ?_ | refine k_x ?_ | refine b_n ?_ | refine b_r ?_ | refine b_y rfl ?_ | refine b_z rfl ?_ | refine l_r ?_ | refine l_x ?_ | refine k_seq ?_ | refine k_blk ?_ | refine k_reg ?_ | refine k_ret ?_ | refine k_exit ?_ | refine k_skip ?_ | refine Zs ?_ | refine Zn ?_ | refine Zu ?_ | refine Zg ?_))
    exact ret_1 rfl rfl ⟨by rw [decide_eq_false (show ¬ fit c p i from fun h => h2 h.2.1)]; rfl, n1.kp.no k3⟩
  refine s_set 16 false rfl (by rw [decide_eq_true h2]; rfl) ?_
  (repeat (first | refine k_nil ?_ | refine k_n ?_ | refine k_r ?_ | refine k_x ?_ | refine b_n ?_ | refine b_r ?_ | refine b_y rfl ?_ | refine b_z rfl ?_ | refine l_r ?_ | refine l_x ?_ | refine k_seq ?_ | refine k_blk ?_ | refine k_reg ?_ | refine k_ret ?_ | refine k_exit ?_ | refine k_skip ?_ | refine Zs ?_ | refine Zn ?_ | refine Zu ?_ | refine Zg ?_))
  refine s_gv rfl (r_ldb (vs := ic i) rfl rfl rfl e33 rfl rfl) ?_
  (repeat (first | refine k_nil ?_ | refine k_n ?_ | refine k_r ?_ | refine k_x ?_ | refine b_n ?_ | refine b_r ?_ | refine b_y rfl ?_ | refine b_z rfl ?_ | refine l_r ?_ | refine l_x ?_ | refine k_seq ?_ | refine k_blk ?_ | refine k_reg ?_ | refine k_ret ?_ | refine k_exit ?_ | refine k_skip ?_ | refine Zs ?_ | refine Zn ?_ | refine Zu ?_ | refine Zg ?_))
  refine s_gcall (us := []) (zs := []) rfl (by kernel_rfl) rfl rfl (more i w3) ?_
  rintro _ w4 ⟨rfl, k4⟩
  (repeat (first | refine k_nil ?_ | refine k_n ?_ | refine k_r ?_ | refine k_x ?_ | refine b_n ?_ | refine b_r ?_ | refine b_y rfl ?_ | refine b_z rfl ?_ | refine l_r ?_ | refine l_x ?_ | refine k_seq ?_ | refine k_blk ?_ | refine k_reg ?_ | refine k_ret ?_ | refine k_exit ?_ | refine k_skip ?_ | refine Zs ?_ | refine Zn ?_ | refine Zu ?_ | refine Zg ?_))
  refine ret_1 rfl rfl ⟨congrArg Value.bool ?_, (n1.kp.no k3).no k4⟩
  congr 1
  exact decide_eq_decide.2 ⟨fun h => ⟨h1, h2, h⟩, fun h => h.2.2⟩
theorem idxI (c : Cde) (ap al : Option Addr) (cp nl cl : Nat) (p : Prc) (b1 b7 : Nat) (is : List Ins) (a : Option Addr) (ca : Nat) (w : World) (hi : RI w a is) (hli : is.length ≤ 1000000) (hs : Shp w) (hb1 : w.heap[b1]? = some (.cells [Value.slice ap c.ps.length cp, .slice al nl cl].toArray 25 (0, 0)))
    (hb7 : w.heap[b7]? = some (.cells [Value.string p.nm, .int .i64 p.fr, .int .i64 p.to, .int .i64 p.pa, .int .i64 p.sl, .int .i64 p.ty].toArray 32 (0, 0))) (hr : 0 ≤ p.sl ∧ p.sl ≤ 64) (ht : 0 ≤ p.to ∧ p.to ≤ 9223372036854775807) (hn : c.ps.length ≤ 1000000) :
    Ret Tryd.prog 31 [.slice a is.length ca, .func (.func 16) #[] #[.pointer (some ⟨b1, 0, none⟩), .pointer (some ⟨b7, 0, none⟩)]] w fun v w1 => (∃ i : Int, v = .int .i64 i ∧ ((0 ≤ i ∧ ¬ ∀ i ∈ is, fit c p i) ∨ (i = -1 ∧ ∀ i ∈ is, fit c p i))) ∧ Kp No w w1 := by
  refine ret_enter Tryd.func31 rfl Tryd.ntmps31 rfl ?_
  (repeat (first | refine k_nil ?_ | refine k_n ?_ | refine k_r ?_ | refine k_x ?_ | refine b_n ?_ | refine b_r ?_ | refine b_y rfl ?_ | refine b_z rfl ?_ | refine l_r ?_ | refine l_x ?_ | refine k_seq ?_ | refine k_blk ?_ | refine k_reg ?_ | refine k_ret ?_ | refine k_exit ?_ | refine k_skip ?_ | refine Zs ?_))
  refine k_loop (σ := Nat) (fun j => [(0, .slice a is.length ca), (1, .func (.func 16) #[] #[.pointer (some ⟨b1, 0, none⟩), .pointer (some ⟨b7, 0, none⟩)]), (7, .int .i64 is.length), (8, .int .i64 j)]) (fun j m => j ≤ is.length ∧ Kp No w m ∧ ∀ (q : Nat) i, q < j → is[q]? = some i → fit c p i) (fun j => is.length - j) 0 ⟨rfl, rfl, rfl, rfl, trivial⟩ ⟨Nat.zero_le _, Kp.refl _ _, fun q i hq => by omega⟩ ?_
  rintro j l m ⟨hj, km, hg⟩
  (repeat (first | refine k_nil ?_ | refine k_n ?_ | refine k_r ?_ | refine k_x ?_ | refine b_n ?_ | refine b_r ?_ | refine b_y rfl ?_ | refine b_z rfl ?_ | refine l_r ?_ | refine l_x ?_ | refine k_seq ?_ | refine k_blk ?_ | refine k_reg ?_ | refine k_ret ?_ | refine k_exit ?_ | refine k_skip ?_ | refine Zs ?_))
  refine c_dec rfl (fun hlt => ?_) (fun hge => ?_)
  · obtain ⟨i, hx⟩ : ∃ i, is[j]? = some i := ⟨_, List.getElem?_eq_getElem (by omega)⟩
    obtain ⟨b, o, rfl, _, hc⟩ := (hi.kp0 km).at hx
    (repeat (first | refine k_nil ?_ | refine k_n ?_ | refine k_r ?_ | refine k_x ?_ | refine b_n ?_ | refine b_r ?_ | refine b_y rfl ?_ | refine b_z rfl ?_ | refine l_r ?_ | refine l_x ?_ | refine k_seq ?_ | refine k_blk ?_ | refine k_reg ?_ | refine k_ret ?_ | refine k_exit ?_ | refine k_skip ?_ | refine Zs ?_))
    refine s_v (r_ia rfl rfl rfl rfl (by omega) (by omega)) ?_
    refine s_v (r_lda (vs := ic i) rfl rfl rfl rfl hc) ?_
    refine s_call (us := []) (zs := [.pointer (some ⟨b1, 0, none⟩), .pointer (some ⟨b7, 0, none⟩)]) (by kernel_rfl) rfl rfl (form1 c ap al cp nl cl p i b1 b7 m (hs.kp km) (km.get0 hb1) (km.get0 hb7) hr ht hn) ?_
    rintro _ m2 ⟨rfl, k2⟩
    (repeat (first | refine k_nil ?_ | refine k_n ?_ | refine k_r ?_ | refine k_x ?_ | refine b_n ?_ | refine b_r ?_ | refine b_y rfl ?_ | refine b_z rfl ?_ | refine l_r ?_ | refine l_x ?_ | refine k_seq ?_ | refine k_blk ?_ | refine k_reg ?_ | refine k_ret ?_ | refine k_exit ?_ | refine k_skip ?_ | refine Zs ?_))
    by_cases hf : fit c p i
    · rw [decide_eq_true hf]
      refine c_f rfl ?_
      (repeat (first | refine k_nil ?_ | refine k_n ?_ | refine k_r ?_ | refine k_x ?_ | refine b_n ?_ | refine b_r ?_ | refine b_y rfl ?_ | refine b_z rfl ?_ | refine l_r ?_ | refine l_x ?_ | refine k_seq ?_ | refine k_blk ?_ | refine k_reg ?_ | refine k_ret ?_ | refine k_exit ?_ | refine k_skip ?_ | refine Zs ?_))
      refine l_next (j + 1) ⟨rfl, rfl, rfl, rfl, trivial⟩ ⟨by omega, km.no k2, fun q x hq hx2 => ?_⟩ (by omega)
      by_cases e : q = j
      · subst e; rw [hx] at hx2; cases hx2; exact hf
      · exact hg q x (by omega) hx2
    · rw [decide_eq_false hf]
      refine c_t rfl ?_
      (repeat (first | refine k_nil ?_ | refine k_n ?_ | refine k_r ?_ | refine k_x ?_ | refine b_n ?_ | refine b_r ?_ | refine b_y rfl ?_ | refine b_z rfl ?_ | refine l_r ?_ | refine l_x ?_ | refine k_seq ?_ | refine k_blk ?_ | refine k_reg ?_ | refine k_ret ?_ | refine k_exit ?_ | refine k_skip ?_ | refine Zs ?_))
      exact ret_1 rfl rfl ⟨⟨j, rfl, .inl ⟨by omega, fun h => hf (h i (List.mem_of_getElem? hx))⟩⟩, km.no k2⟩
  · (repeat (first | refine k_nil ?_ | refine k_n ?_ | refine k_r ?_ | refine k_x ?_ | refine b_n ?_ | refine b_r ?_ | refine b_y rfl ?_ | refine b_z rfl ?_ | refine l_r ?_ | refine l_x ?_ | refine k_seq ?_ | refine k_blk ?_ | refine k_reg ?_ | refine k_ret ?_ | refine k_exit ?_ | refine k_skip ?_ | refine Zs ?_))
    refine ret_1 rfl rfl ⟨⟨-1, rfl, .inr ⟨rfl, fun i hi => ?_⟩⟩, km⟩
    obtain ⟨q, hq⟩ := List.mem_iff_getElem?.1 hi
    exact hg q i (by have := (List.getElem?_eq_some_iff.1 hq).1; omega) hq
theorem conI (c : Cde) (ap al : Option Addr) (cp nl cl : Nat) (p : Prc) (b1 b7 : Nat) (is : List Ins) (a : Option Addr) (ca : Nat) (w : World) (hi : RI w a is) (hli : is.length ≤ 1000000) (hs : Shp w) (hb1 : w.heap[b1]? = some (.cells [Value.slice ap c.ps.length cp, .slice al nl cl].toArray 25 (0, 0)))
    (hb7 : w.heap[b7]? = some (.cells [Value.string p.nm, .int .i64 p.fr, .int .i64 p.to, .int .i64 p.pa, .int .i64 p.sl, .int .i64 p.ty].toArray 32 (0, 0))) (hr : 0 ≤ p.sl ∧ p.sl ≤ 64) (ht : 0 ≤ p.to ∧ p.to ≤ 9223372036854775807) (hn : c.ps.length ≤ 1000000) :
    Ret Tryd.prog 15 [.slice a is.length ca, .func (.func 16) #[] #[.pointer (some ⟨b1, 0, none⟩), .pointer (some ⟨b7, 0, none⟩)]] w fun v w1 => ((v = .bool true ∧ ¬ ∀ i ∈ is, fit c p i) ∨ (v = .bool false ∧ ∀ i ∈ is, fit c p i)) ∧ Kp No w w1 := by
  refine ret_enter Tryd.func15 rfl Tryd.ntmps15 rfl ?_
  (repeat (first | refine k_nil ?_ | refine k_n ?_ | refine k_r ?_ | refine k_x ?_ | refine b_n ?_ | refine b_r ?_ | refine b_y rfl ?_ | refine b_z rfl ?_ | refine l_r ?_ | refine l_x ?_ | refine k_seq ?_ | refine k_blk ?_ | refine k_reg ?_ | refine k_ret ?_ | refine k_exit ?_ | refine k_skip ?_ | refine Zs ?_))
  refine s_call (us := []) (zs := []) (by kernel_rfl) rfl rfl (idxI c ap al cp nl cl p b1 b7 is a ca w hi hli hs hb1 hb7 hr ht hn) ?_
  rintro _ w1 ⟨⟨i, rfl, ⟨h1, h2⟩ | ⟨rfl, h2⟩⟩, k1⟩
  · (repeat (first | refine k_nil ?_ | refine k_n ?_ | refine k_r ?_ | refine k_x ?_ | refine b_n ?_ | refine b_r ?_ | refine b_y rfl ?_ | refine b_z rfl ?_ | refine l_r ?_ | refine l_x ?_ | refine k_seq ?_ | refine k_blk ?_ | refine k_reg ?_ | refine k_ret ?_ | refine k_exit ?_ | refine k_skip ?_ | refine Zs ?_))
    exact ret_1 rfl rfl ⟨.inl ⟨by rw [decide_eq_true h1], h2⟩, k1⟩
  · (repeat (first | refine k_nil ?_ | refine k_n ?_ | refine k_r ?_ | refine k_x ?_ | refine b_n ?_ | refine b_r ?_ | refine b_y rfl ?_ | refine b_z rfl ?_ | refine l_r ?_ | refine l_x ?_ | refine k_seq ?_ | refine k_blk ?_ | refine k_reg ?_ | refine k_ret ?_ | refine k_exit ?_ | refine k_skip ?_ | refine Zs ?_))
    exact ret_1 rfl rfl ⟨.inr ⟨rfl, h2⟩, k1⟩
end Cd
end Go.Proofs.YtpamkidcmjfieaaDoor
