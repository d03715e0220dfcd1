/- Code: an instruction's fields; which Op a word is; are two rows of texts alike. -/
import Derived.Test.YtpamkidcmjfieaaDoorCx
namespace Go.Proofs.YtpamkidcmjfieaaDoor
open Go Go.RowKit Fw Nu
set_option linter.unusedVariables false
set_option maxRecDepth 20000
namespace Fw
theorem own_lit {w w1 : World} {b base : Nat} {e size n : Nat} {cs : List Value} (h : Nb w b cs e w1) (hb : base ≤ b) (hl : cs.length = n * size) (hn : n ≤ 1000000) : w1.ownsRow base e size (.slice (some ⟨b, 0, none⟩) n n) n cs :=
  ⟨hl, .inr ⟨b, n, cs.toArray, rfl, hb, h.blk, Nat.le_refl _, by unfold maxLen; omega, by simpa using hl, by simp [← hl]⟩⟩
end Fw
namespace Cd
theorem empty_B : B ⟨#[]⟩ = [] := by simp [B]
theorem strOf_nums (L : List Int) : Tk.strOf L = strOfNums L := rfl
/-- An instruction's fields. -/
def fld (i : Ins) : List (List Int) := (sh i.op).1 :: ((if (sh i.op).2.1 = 0 then [] else [dc i.arg]) ++ (if i.op = 7 then [dc i.more] else []))
theorem sv_dc {d : ByteArray} {n : Int} (h : B d = dc n) : Value.string d = sv (dc n) := by rw [sv, ← h, nums_B]
set_option maxHeartbeats 4000000 in
theorem fields (i : Ins) (w : World) (hs : Shp w) (hg : Lb.Glob w) (h0 : 0 ≤ i.op) (h1 : i.op ≤ 29) (ha : I64 i.arg) (hm : I64 i.more) :
    Ret Tryd.prog 30 [.agg (ic i).toArray] w fun v w1 => Kp No w w1 ∧ ∃ a c, v = .slice a (fld i).length c ∧ w1.ownsRow w.heap.size 9 1 (.slice a (fld i).length c) (fld i).length ((fld i).map sv) := by
  refine ret_enter Tryd.func30 rfl Tryd.ntmps30 rfl ?_
  (repeat (first | refine k_nil ?_ | refine k_n ?_ | refine k_r ?_ | refine k_x ?_ | refine b_n ?_ | refine b_r ?_ | refine b_y rfl ?_ | refine b_z rfl ?_ | refine l_r ?_ | refine l_x ?_ | refine k_seq ?_ | refine k_blk ?_ | refine k_reg ?_ | refine k_ret ?_ | refine k_exit ?_ | refine k_skip ?_ | refine Zs ?_))
  refine s_box (cs := ic i) rfl rfl (fun b1 w1 n1 => ?_)
  have e1 : w1.heap[b1]? = some (.cells [Value.int .i64 i.op, .int .i64 i.arg, .int .i64 i.more].toArray 34 (0, 0)) := n1.blk
  have kw1 := n1.kp
  obtain ⟨c1, c0, c2, c3⟩ := (hs.kp kw1).at h0 h1
  (repeat (first | refine k_nil ?_ | refine k_n ?_ | refine k_r ?_ | refine k_x ?_ | refine b_n ?_ | refine b_r ?_ | refine b_y rfl ?_ | refine b_z rfl ?_ | refine l_r ?_ | refine l_x ?_ | refine k_seq ?_ | refine k_blk ?_ | refine k_reg ?_ | refine k_ret ?_ | refine k_exit ?_ | refine k_skip ?_ | refine Zs ?_))
  refine s_v (r_iaa rfl rfl rfl rfl h0 (by omega)) ?_
  refine s_v (r_lda (vs := [.string (Tk.strOf (sh i.op).1), .int .i64 (sh i.op).2.1, .int .i64 (sh i.op).2.2.1, .int .i64 (sh i.op).2.2.2]) rfl rfl rfl rfl (fun k hk => by
    match k, hk with
    | 0, _ => exact c0
    | 1, _ => exact c1
    | 2, _ => exact c2
    | 3, _ => exact c3)) ?_
  refine s_al rfl (fun b3 w2 n2 => ?_)
  have g2 := n2.ge
  refine s_st rfl rfl rfl rfl rfl n2.blk (Nat.le_of_ble_eq_true rfl) (fun w3 s3 => ?_)
  have k13 : Kp No w1 w3 := n2.kp.trans s3.kp (fun _ _ e => by omega)
  have e3 : w3.heap[b3]? = some (.cells [Value.string (Tk.strOf (sh i.op).1), .int .i64 (sh i.op).2.1, .int .i64 (sh i.op).2.2.1, .int .i64 (sh i.op).2.2.2].toArray 63 (0, 0)) := s3.blk
  have e13 := k13.get0 e1
  have kw3 := kw1.no k13
  (repeat (first | refine k_nil ?_ | refine k_n ?_ | refine k_r ?_ | refine k_x ?_ | refine b_n ?_ | refine b_r ?_ | refine b_y rfl ?_ | refine b_z rfl ?_ | refine l_r ?_ | refine l_x ?_ | refine k_seq ?_ | refine k_blk ?_ | refine k_reg ?_ | refine k_ret ?_ | refine k_exit ?_ | refine k_skip ?_ | refine Zs ?_))
  refine s_bs (cs := [.string (Tk.strOf (sh i.op).1)]) (e := 9) rfl (fun b4 w4 n4 => ?_)
  have z3 := kw3.size
  have g4 := n4.ge
  have own4 := own_lit (size := 1) (n := 1) n4 (base := w.heap.size) (by omega) rfl (by omega)
  have e34 := n4.kp.get0 e3
  have e14 := n4.kp.get0 e13
  have kw4 := kw3.no n4.kp
  have z4 := kw4.size
  obtain ⟨K, hK⟩ : ∃ K, (sh i.op).2.1 = K := ⟨_, rfl⟩
  rw [hK] at e34
  (repeat (first | refine k_nil ?_ | refine k_n ?_ | refine k_r ?_ | refine k_x ?_ | refine b_n ?_ | refine b_r ?_ | refine b_y rfl ?_ | refine b_z rfl ?_ | refine l_r ?_ | refine l_x ?_ | refine k_seq ?_ | refine k_blk ?_ | refine k_reg ?_ | refine k_ret ?_ | refine k_exit ?_ | refine k_skip ?_ | refine Zs ?_))
  refine c_ne rfl (fun hk0 => ?_) (fun hk0 => ?_)
  · (repeat (first | refine k_nil ?_ | refine k_n ?_ | refine k_r ?_ | refine k_x ?_ | refine b_n ?_ | refine b_r ?_ | refine b_y rfl ?_ | refine b_z rfl ?_ | refine l_r ?_ | refine l_x ?_ | refine k_seq ?_ | refine k_blk ?_ | refine k_reg ?_ | refine k_ret ?_ | refine k_exit ?_ | refine k_skip ?_ | refine Zs ?_))
    refine s_call (us := []) (zs := []) (by kernel_rfl) rfl rfl (Lb.Itoa i.arg w4 (hg.kp kw4) ha) ?_
    rintro _ w5 ⟨⟨d, rfl, hd⟩, k5⟩
    have hdv := sv_dc hd
    have z5 := k5.size
    (repeat (first | refine k_nil ?_ | refine k_n ?_ | refine k_r ?_ | refine k_x ?_ | refine b_n ?_ | refine b_r ?_ | refine b_y rfl ?_ | refine b_z rfl ?_ | refine l_r ?_ | refine l_x ?_ | refine k_seq ?_ | refine k_blk ?_ | refine k_reg ?_ | refine k_ret ?_ | refine k_exit ?_ | refine k_skip ?_ | refine Zs ?_))
    refine s_bs (cs := [.string d]) (e := 9) rfl (fun b6 w6 n6 => ?_)
    have own6 := own_kp (own_kp own4 k5 (fun _ _ => id)) n6.kp (fun _ _ => id)
    have z6 := n6.kp.size
    refine s_app (size := 1) (bytes := 16) (base := w.heap.size) (news := [.string d]) rfl rfl rfl rfl rfl rfl rfl rfl own6 rfl (blk_cells n6.blk) rfl rfl (by omega) (by omega) (by omega) ?_
    rintro v w7 ⟨own7, k7, _, hrow⟩
    have own8 := own7
    obtain ⟨a', c', rfl, hc, hnn, hcell⟩ := own_read own7
    have kw7 : Kp No w w7 := (((kw4.no k5).no n6.kp).trans k7 (fun g hgw e => by have e : some g = some b4 := e; cases e; omega))
    have hb14 : b1 ≠ b4 := fun e => by have := lt_of_get e13; omega
    have e17 := k7.get (n6.kp.get0 (k5.get0 e14)) (fun e => hb14 (by have e : some b1 = some b4 := e; cases e; rfl))
    (repeat (first | refine k_nil ?_ | refine k_n ?_ | refine k_r ?_ | refine k_x ?_ | refine b_n ?_ | refine b_r ?_ | refine b_y rfl ?_ | refine b_z rfl ?_ | refine l_r ?_ | refine l_x ?_ | refine k_seq ?_ | refine k_blk ?_ | refine k_reg ?_ | refine k_ret ?_ | refine k_exit ?_ | refine k_skip ?_ | refine Zs ?_))
    refine c_eq rfl (fun q7 => ?_) (fun q7 => ?_)
    · have hf : fld i = [(sh i.op).1, dc i.arg, dc i.more] := by unfold fld; rw [hK, if_neg hk0, if_pos q7]; rfl
      (repeat (first | refine k_nil ?_ | refine k_n ?_ | refine k_r ?_ | refine k_x ?_ | refine b_n ?_ | refine b_r ?_ | refine b_y rfl ?_ | refine b_z rfl ?_ | refine l_r ?_ | refine l_x ?_ | refine k_seq ?_ | refine k_blk ?_ | refine k_reg ?_ | refine k_ret ?_ | refine k_exit ?_ | refine k_skip ?_ | refine Zs ?_))
      refine s_call (us := []) (zs := []) (by kernel_rfl) rfl rfl (Lb.Itoa i.more w7 (hg.kp kw7) hm) ?_
      rintro _ w8 ⟨⟨d2, rfl, hd2⟩, k8⟩
      have hdv2 := sv_dc hd2
      have z8 := k8.size
      have z7 := kw7.size
      (repeat (first | refine k_nil ?_ | refine k_n ?_ | refine k_r ?_ | refine k_x ?_ | refine b_n ?_ | refine b_r ?_ | refine b_y rfl ?_ | refine b_z rfl ?_ | refine l_r ?_ | refine l_x ?_ | refine k_seq ?_ | refine k_blk ?_ | refine k_reg ?_ | refine k_ret ?_ | refine k_exit ?_ | refine k_skip ?_ | refine Zs ?_))
      refine s_bs (cs := [.string d2]) (e := 9) rfl (fun b9 w9 n9 => ?_)
      have own9 := own_kp (own_kp own8 k8 (fun _ _ => id)) n9.kp (fun _ _ => id)
      have z9 := n9.kp.size
      refine s_app (size := 1) (bytes := 16) (base := w.heap.size) (news := [.string d2]) rfl rfl rfl rfl rfl rfl rfl rfl own9 rfl (blk_cells n9.blk) rfl rfl (by omega) (by omega) (by omega) ?_
      rintro v w10 ⟨own10, k10, _, hrow10⟩
      have own11 := own10
      obtain ⟨a'', c'', rfl, hc2, hnn2, hcell2⟩ := own_read own10
      (repeat (first | refine k_nil ?_ | refine k_n ?_ | refine k_r ?_ | refine k_x ?_ | refine b_n ?_ | refine b_r ?_ | refine b_y rfl ?_ | refine b_z rfl ?_ | refine l_r ?_ | refine l_x ?_ | refine k_seq ?_ | refine k_blk ?_ | refine k_reg ?_ | refine k_ret ?_ | refine k_exit ?_ | refine k_skip ?_ | refine Zs ?_))
      refine ret_1 rfl rfl ⟨((kw7.no k8).no n9.kp).trans k10 (fun g hgw e => by have := (own_lt own9 e.symm).1; omega), a'', c'', by rw [hf]; rfl, ?_⟩
      rw [hf]
      have : (([(sh i.op).1, dc i.arg, dc i.more] : List (List Int)).map sv) = [Value.string (Tk.strOf (sh i.op).1)] ++ [.string d] ++ [.string d2] := by rw [hdv, hdv2]; rfl
      rw [this]
      exact own11
    · have hf : fld i = [(sh i.op).1, dc i.arg] := by unfold fld; rw [hK, if_neg hk0, if_neg q7]; rfl
      (repeat (first | refine k_nil ?_ | refine k_n ?_ | refine k_r ?_ | refine k_x ?_ | refine b_n ?_ | refine b_r ?_ | refine b_y rfl ?_ | refine b_z rfl ?_ | refine l_r ?_ | refine l_x ?_ | refine k_seq ?_ | refine k_blk ?_ | refine k_reg ?_ | refine k_ret ?_ | refine k_exit ?_ | refine k_skip ?_ | refine Zs ?_))
      refine ret_1 rfl rfl ⟨kw7, a', c', by rw [hf]; rfl, ?_⟩
      rw [hf]
      have : (([(sh i.op).1, dc i.arg] : List (List Int)).map sv) = [Value.string (Tk.strOf (sh i.op).1)] ++ [.string d] := by rw [hdv]; rfl
      rw [this]
      exact own8
  · (repeat (first | refine k_nil ?_ | refine k_n ?_ | refine k_r ?_ | refine k_x ?_ | refine b_n ?_ | refine b_r ?_ | refine b_y rfl ?_ | refine b_z rfl ?_ | refine l_r ?_ | refine l_x ?_ | refine k_seq ?_ | refine k_blk ?_ | refine k_reg ?_ | refine k_ret ?_ | refine k_exit ?_ | refine k_skip ?_ | refine Zs ?_))
    refine c_eq rfl (fun q7 => ?_) (fun q7 => ?_)
    · exfalso
      rw [q7] at hK
      have h3 : (sh 7).2.1 = 3 := rfl
      omega
    · have hf : fld i = [(sh i.op).1] := by unfold fld; rw [hK, if_pos hk0, if_neg q7]; rfl
      (repeat (first | refine k_nil ?_ | refine k_n ?_ | refine k_r ?_ | refine k_x ?_ | refine b_n ?_ | refine b_r ?_ | refine b_y rfl ?_ | refine b_z rfl ?_ | refine l_r ?_ | refine l_x ?_ | refine k_seq ?_ | refine k_blk ?_ | refine k_reg ?_ | refine k_ret ?_ | refine k_exit ?_ | refine k_skip ?_ | refine Zs ?_))
      refine ret_1 rfl rfl ⟨kw4, _, _, by rw [hf]; rfl, ?_⟩
      rw [hf]
      exact own4
/-- The closure of add: is an Op's word that of a line? -/
theorem isOp (x : List Int × Int × Int × Int) (b : Nat) (ga : Option Addr) (gl gc : Nat) (h : List Int) (r : List (List Int)) (w : World) (hb : w.heap[b]? = some (.cells [Value.slice ga gl gc].toArray 56 (0, 0))) (hl : gl = r.length + 1) (hR : RS w ga (h :: r)) (hh : InB h) (hx : InB x.1) :
    Ret Tryd.prog 28 [.agg [Value.string (Tk.strOf x.1), .int .i64 x.2.1, .int .i64 x.2.2.1, .int .i64 x.2.2.2].toArray, .pointer (some ⟨b, 0, none⟩)] w fun v w1 => v = .bool (decide (x.1 = h ∧ x.1 ≠ [])) ∧ Kp No w w1 := by
  refine ret_enter Tryd.func28 rfl Tryd.ntmps28 rfl ?_
  (repeat (first | refine k_nil ?_ | refine k_n ?_ | refine k_r ?_ | refine k_x ?_ | refine b_n ?_ | refine b_r ?_ | refine b_y rfl ?_ | refine b_z rfl ?_ | refine l_r ?_ | refine l_x ?_ | refine k_seq ?_ | refine k_blk ?_ | refine k_reg ?_ | refine k_ret ?_ | refine k_exit ?_ | refine k_skip ?_ | refine Zs ?_))
  refine s_box (cs := [Value.string (Tk.strOf x.1), .int .i64 x.2.1, .int .i64 x.2.2.1, .int .i64 x.2.2.2]) rfl rfl (fun b2 w1 n1 => ?_)
  have e2 := n1.blk
  have eb := n1.kp.get0 hb
  obtain ⟨bo, oo, rfl, _, hc⟩ := (hR.kp0 n1.kp).at (j := 0) (p := h) rfl
  have hc' : w1.cell? ⟨bo, oo + (0 : Int).toNat * 1, none⟩ = some (.string (strOfNums h)) := hc
  (repeat (first | refine k_nil ?_ | refine k_n ?_ | refine k_r ?_ | refine k_x ?_ | refine b_n ?_ | refine b_r ?_ | refine b_y rfl ?_ | refine b_z rfl ?_ | refine l_r ?_ | refine l_x ?_ | refine k_seq ?_ | refine k_blk ?_ | refine k_reg ?_ | refine k_ret ?_ | refine k_exit ?_ | refine k_skip ?_ | refine Zs ?_))
  refine k_q (by kernel_rfl) (by kernel_rfl) ?_
  (repeat (first | refine Zq ?_ | refine Zqn ?_ | refine Zqu ?_ | refine Zqg ?_))
  by_cases q : x.1 = h
  · refine q_set 10 true rfl (by rw [str_eq, strOf_nums, B_str hx, B_str hh]; exact decide_eq_true q) ?_
    (repeat (first | refine Zq ?_ | refine Zqn ?_ | refine Zqu ?_ | refine Zqg ?_))
    refine q_nil (fun m2 k2 => ?_)
    (repeat (first | refine k_nil ?_ | refine k_n ?_ | refine k_r ?_ | refine k_x ?_ | refine b_n ?_ | refine b_r ?_ | refine b_y rfl ?_ | refine b_z rfl ?_ | refine l_r ?_ | refine l_x ?_ | refine k_seq ?_ | refine k_blk ?_ | refine k_reg ?_ | refine k_ret ?_ | refine k_exit ?_ | refine k_skip ?_ | refine Zs ?_))
    refine ret_1 rfl rfl ⟨congrArg Value.bool ?_, n1.kp.no k2⟩
    rw [str_eq, strOf_nums, B_str hx, empty_B]
    simp [q]
  · refine q_set 10 false rfl (by rw [str_eq, strOf_nums, B_str hx, B_str hh]; exact decide_eq_false q) ?_
    (repeat (first | refine Zq ?_ | refine Zqn ?_ | refine Zqu ?_ | refine Zqg ?_))
    refine q_nil (fun m2 k2 => ?_)
    (repeat (first | refine k_nil ?_ | refine k_n ?_ | refine k_r ?_ | refine k_x ?_ | refine b_n ?_ | refine b_r ?_ | refine b_y rfl ?_ | refine b_z rfl ?_ | refine l_r ?_ | refine l_x ?_ | refine k_seq ?_ | refine k_blk ?_ | refine k_reg ?_ | refine k_ret ?_ | refine k_exit ?_ | refine k_skip ?_ | refine Zs ?_))
    refine ret_1 rfl rfl ⟨congrArg Value.bool ?_, n1.kp.no k2⟩
    simp [q]
/-- Which Op a word is. -/
def opOf (h : List Int) : Option Nat := shL.findIdx? (fun x => decide (x.1 = h ∧ x.1 ≠ []))
theorem shL_inB : ∀ x ∈ shL, InB x.1 := by unfold InB; decide
theorem idxS (b : Nat) (ga : Option Addr) (gl gc : Nat) (h : List Int) (r : List (List Int)) (w : World) (hs : Shp w) (hb : w.heap[b]? = some (.cells [Value.slice ga gl gc].toArray 56 (0, 0))) (hl : gl = r.length + 1) (hR : RS w ga (h :: r)) (hh : InB h) :
    Ret Tryd.prog 27 [.slice (some ⟨0, 0, none⟩) 30 30, .func (.func 28) #[] #[.pointer (some ⟨b, 0, none⟩)]] w fun v w1 => v = .int .i64 (match opOf h with | some i => (i : Int) | none => -1) ∧ Kp No w w1 := by
  refine ret_enter Tryd.func27 rfl Tryd.ntmps27 rfl ?_
  (repeat (first | refine k_nil ?_ | refine k_n ?_ | refine k_r ?_ | refine k_x ?_ | refine b_n ?_ | refine b_r ?_ | refine b_y rfl ?_ | refine b_z rfl ?_ | refine l_r ?_ | refine l_x ?_ | refine k_seq ?_ | refine k_blk ?_ | refine k_reg ?_ | refine k_ret ?_ | refine k_exit ?_ | refine k_skip ?_ | refine Zs ?_))
  refine k_loop (σ := Nat) (fun j => [(0, .slice (some ⟨0, 0, none⟩) 30 30), (1, .func (.func 28) #[] #[.pointer (some ⟨b, 0, none⟩)]), (7, .int .i64 30), (8, .int .i64 j)]) (fun j m => j ≤ 30 ∧ Kp No w m ∧ ∀ (q : Nat) x, q < j → shL[q]? = some x → ¬ (x.1 = h ∧ x.1 ≠ [])) (fun j => 30 - j) 0 ⟨rfl, rfl, rfl, rfl, trivial⟩ ⟨Nat.zero_le _, Kp.refl _ _, fun q i hq => by omega⟩ ?_
  rintro j l m ⟨hj, km, hg⟩
  have hlen : shL.length = 30 := rfl
  (repeat (first | refine k_nil ?_ | refine k_n ?_ | refine k_r ?_ | refine k_x ?_ | refine b_n ?_ | refine b_r ?_ | refine b_y rfl ?_ | refine b_z rfl ?_ | refine l_r ?_ | refine l_x ?_ | refine k_seq ?_ | refine k_blk ?_ | refine k_reg ?_ | refine k_ret ?_ | refine k_exit ?_ | refine k_skip ?_ | refine Zs ?_))
  refine c_dec rfl (fun hlt => ?_) (fun hge => ?_)
  · obtain ⟨x, hx⟩ : ∃ x, shL[j]? = some x := ⟨_, List.getElem?_eq_getElem (by omega)⟩
    have hc := hs.cells j x hx
    have hj0 : (j : Int).toNat = j := Int.toNat_natCast j
    (repeat (first | refine k_nil ?_ | refine k_n ?_ | refine k_r ?_ | refine k_x ?_ | refine b_n ?_ | refine b_r ?_ | refine b_y rfl ?_ | refine b_z rfl ?_ | refine l_r ?_ | refine l_x ?_ | refine k_seq ?_ | refine k_blk ?_ | refine k_reg ?_ | refine k_ret ?_ | refine k_exit ?_ | refine k_skip ?_ | refine Zs ?_))
    refine s_v (r_ia (i := j) rfl rfl rfl rfl (by omega) (by omega)) ?_
    refine s_v (r_lda (vs := [.string (Tk.strOf x.1), .int .i64 x.2.1, .int .i64 x.2.2.1, .int .i64 x.2.2.2]) rfl rfl rfl rfl (fun k hk => by
      rw [hj0]
      match k, hk with
      | 0, _ => exact km.cell0 hc.1
      | 1, _ => exact km.cell0 hc.2.1
      | 2, _ => exact km.cell0 hc.2.2.1
      | 3, _ => exact km.cell0 hc.2.2.2)) ?_
    refine s_call (us := []) (zs := [.pointer (some ⟨b, 0, none⟩)]) (by kernel_rfl) rfl rfl (isOp x b ga gl gc h r m (km.get0 hb) hl (hR.kp0 km) hh (shL_inB x (List.mem_of_getElem? hx))) ?_
    rintro _ m2 ⟨rfl, k2⟩
    (repeat (first | refine k_nil ?_ | refine k_n ?_ | refine k_r ?_ | refine k_x ?_ | refine b_n ?_ | refine b_r ?_ | refine b_y rfl ?_ | refine b_z rfl ?_ | refine l_r ?_ | refine l_x ?_ | refine k_seq ?_ | refine k_blk ?_ | refine k_reg ?_ | refine k_ret ?_ | refine k_exit ?_ | refine k_skip ?_ | refine Zs ?_))
    by_cases hf : x.1 = h ∧ x.1 ≠ []
    · rw [decide_eq_true hf]
      refine c_t rfl ?_
      (repeat (first | refine k_nil ?_ | refine k_n ?_ | refine k_r ?_ | refine k_x ?_ | refine b_n ?_ | refine b_r ?_ | refine b_y rfl ?_ | refine b_z rfl ?_ | refine l_r ?_ | refine l_x ?_ | refine k_seq ?_ | refine k_blk ?_ | refine k_reg ?_ | refine k_ret ?_ | refine k_exit ?_ | refine k_skip ?_ | refine Zs ?_))
      have : opOf h = some j := by
        unfold opOf
        rw [List.findIdx?_eq_some_iff_getElem]
        obtain ⟨hjl, he⟩ := List.getElem?_eq_some_iff.1 hx
        refine ⟨hjl, by rw [he]; exact decide_eq_true hf, fun q hq => ?_⟩
        have := hg q _ hq (List.getElem?_eq_getElem (by omega))
        simpa using this
      exact ret_1 rfl rfl ⟨by rw [this], km.no k2⟩
    · rw [decide_eq_false hf]
      refine c_f rfl ?_
      (repeat (first | refine k_nil ?_ | refine k_n ?_ | refine k_r ?_ | refine k_x ?_ | refine b_n ?_ | refine b_r ?_ | refine b_y rfl ?_ | refine b_z rfl ?_ | refine l_r ?_ | refine l_x ?_ | refine k_seq ?_ | refine k_blk ?_ | refine k_reg ?_ | refine k_ret ?_ | refine k_exit ?_ | refine k_skip ?_ | refine Zs ?_))
      refine l_next (j + 1) ⟨rfl, rfl, rfl, rfl, trivial⟩ ⟨by omega, km.no k2, fun q y hq hx2 => ?_⟩ (by omega)
      by_cases e : q = j
      · subst e; rw [hx] at hx2; cases hx2; exact hf
      · exact hg q y (by omega) hx2
  · (repeat (first | refine k_nil ?_ | refine k_n ?_ | refine k_r ?_ | refine k_x ?_ | refine b_n ?_ | refine b_r ?_ | refine b_y rfl ?_ | refine b_z rfl ?_ | refine l_r ?_ | refine l_x ?_ | refine k_seq ?_ | refine k_blk ?_ | refine k_reg ?_ | refine k_ret ?_ | refine k_exit ?_ | refine k_skip ?_ | refine Zs ?_))
    have : opOf h = none := by
      unfold opOf
      rw [List.findIdx?_eq_none_iff]
      intro x hx
      obtain ⟨q, hq⟩ := List.mem_iff_getElem?.1 hx
      exact decide_eq_false (hg q x (by have := (List.getElem?_eq_some_iff.1 hq).1; omega) hq)
    exact ret_1 rfl rfl ⟨by rw [this], km⟩
theorem equalS (xs ys : List (List Int)) (a b : Option Addr) (ca cb : Nat) (w : World) (ha : RS w a xs) (hb : RS w b ys) (hx : ∀ p ∈ xs, InB p) (hy : ∀ p ∈ ys, InB p) (hl : xs.length ≤ 1000000) (hl2 : ys.length ≤ 1000000) :
    Ret Tryd.prog 29 [.slice a xs.length ca, .slice b ys.length cb] w fun v w1 => v = .bool (decide (xs = ys)) ∧ Kp No w w1 := by
  refine ret_enter Tryd.func29 rfl Tryd.ntmps29 rfl ?_
  (repeat (first | refine k_nil ?_ | refine k_n ?_ | refine k_r ?_ | refine k_x ?_ | refine b_n ?_ | refine b_r ?_ | refine b_y rfl ?_ | refine b_z rfl ?_ | refine l_r ?_ | refine l_x ?_ | refine k_seq ?_ | refine k_blk ?_ | refine k_reg ?_ | refine k_ret ?_ | refine k_exit ?_ | refine k_skip ?_ | refine Zs ?_))
  refine c_ne rfl (fun hne => ?_) (fun he => ?_)
  · (repeat (first | refine k_nil ?_ | refine k_n ?_ | refine k_r ?_ | refine k_x ?_ | refine b_n ?_ | refine b_r ?_ | refine b_y rfl ?_ | refine b_z rfl ?_ | refine l_r ?_ | refine l_x ?_ | refine k_seq ?_ | refine k_blk ?_ | refine k_reg ?_ | refine k_ret ?_ | refine k_exit ?_ | refine k_skip ?_ | refine Zs ?_))
    exact ret_1 rfl rfl ⟨by rw [decide_eq_false (fun e => hne (by rw [e]))], Kp.refl _ _⟩
  (repeat (first | refine k_nil ?_ | refine k_n ?_ | refine k_r ?_ | refine k_x ?_ | refine b_n ?_ | refine b_r ?_ | refine b_y rfl ?_ | refine b_z rfl ?_ | refine l_r ?_ | refine l_x ?_ | refine k_seq ?_ | refine k_blk ?_ | refine k_reg ?_ | refine k_ret ?_ | refine k_exit ?_ | refine k_skip ?_ | refine Zs ?_))
  refine k_loop (σ := Nat) (fun j => [(0, .slice a xs.length ca), (1, .slice b ys.length cb), (12, .int .i64 xs.length), (13, .int .i64 j)]) (fun j m => j ≤ xs.length ∧ Kp No w m ∧ ∀ (q : Nat), q < j → xs[q]? = ys[q]?) (fun j => xs.length - j) 0 ⟨rfl, rfl, rfl, rfl, trivial⟩ ⟨Nat.zero_le _, Kp.refl _ _, fun q hq => by omega⟩ ?_
  rintro j l m ⟨hj, km, hg⟩
  have hle : xs.length = ys.length := by omega
  (repeat (first | refine k_nil ?_ | refine k_n ?_ | refine k_r ?_ | refine k_x ?_ | refine b_n ?_ | refine b_r ?_ | refine b_y rfl ?_ | refine b_z rfl ?_ | refine l_r ?_ | refine l_x ?_ | refine k_seq ?_ | refine k_blk ?_ | refine k_reg ?_ | refine k_ret ?_ | refine k_exit ?_ | refine k_skip ?_ | refine Zs ?_))
  refine c_dec rfl (fun hlt => ?_) (fun hge => ?_)
  · obtain ⟨x, hxj⟩ : ∃ x, xs[j]? = some x := ⟨_, List.getElem?_eq_getElem (by omega)⟩
    obtain ⟨y, hyj⟩ : ∃ y, ys[j]? = some y := ⟨_, List.getElem?_eq_getElem (by omega)⟩
    obtain ⟨b1, o1, rfl, _, hc1⟩ := (ha.kp0 km).at hxj
    obtain ⟨b2, o2, rfl, _, hc2⟩ := (hb.kp0 km).at hyj
    have hc1' : m.cell? ⟨b1, o1 + (j : Int).toNat * 1, none⟩ = some (.string (strOfNums x)) := hc1
    have hc2' : m.cell? ⟨b2, o2 + (j : Int).toNat * 1, none⟩ = some (.string (strOfNums y)) := hc2
    (repeat (first | refine k_nil ?_ | refine k_n ?_ | refine k_r ?_ | refine k_x ?_ | refine b_n ?_ | refine b_r ?_ | refine b_y rfl ?_ | refine b_z rfl ?_ | refine l_r ?_ | refine l_x ?_ | refine k_seq ?_ | refine k_blk ?_ | refine k_reg ?_ | refine k_ret ?_ | refine k_exit ?_ | refine k_skip ?_ | refine Zs ?_))
    refine k_q (by kernel_rfl) (by kernel_rfl) ?_
    (repeat (first | refine Zq ?_ | refine Zqn ?_ | refine Zqu ?_ | refine Zqg ?_))
    refine q_nil (fun m2 k2 => ?_)
    (repeat (first | refine k_nil ?_ | refine k_n ?_ | refine k_r ?_ | refine k_x ?_ | refine b_n ?_ | refine b_r ?_ | refine b_y rfl ?_ | refine b_z rfl ?_ | refine l_r ?_ | refine l_x ?_ | refine k_seq ?_ | refine k_blk ?_ | refine k_reg ?_ | refine k_ret ?_ | refine k_exit ?_ | refine k_skip ?_ | refine Zs ?_))
    refine c_b rfl (fun hb => ?_) (fun hb => ?_)
    · have hne : ¬ x = y := fun e => by
        have hb : (!((strOfNums x).toList == (strOfNums y).toList)) = true := hb
        rw [str_eq, e] at hb
        simp at hb
      (repeat (first | refine k_nil ?_ | refine k_n ?_ | refine k_r ?_ | refine k_x ?_ | refine b_n ?_ | refine b_r ?_ | refine b_y rfl ?_ | refine b_z rfl ?_ | refine l_r ?_ | refine l_x ?_ | refine k_seq ?_ | refine k_blk ?_ | refine k_reg ?_ | refine k_ret ?_ | refine k_exit ?_ | refine k_skip ?_ | refine Zs ?_))
      refine ret_1 rfl rfl ⟨by rw [decide_eq_false (fun e => hne (by rw [e, hyj] at hxj; exact (Option.some.inj hxj).symm))], km.no k2⟩
    · have heq : x = y := by
        have hb : (!((strOfNums x).toList == (strOfNums y).toList)) = false := hb
        rw [str_eq, B_str (hx x (List.mem_of_getElem? hxj)), B_str (hy y (List.mem_of_getElem? hyj))] at hb
        simpa using hb
      (repeat (first | refine k_nil ?_ | refine k_n ?_ | refine k_r ?_ | refine k_x ?_ | refine b_n ?_ | refine b_r ?_ | refine b_y rfl ?_ | refine b_z rfl ?_ | refine l_r ?_ | refine l_x ?_ | refine k_seq ?_ | refine k_blk ?_ | refine k_reg ?_ | refine k_ret ?_ | refine k_exit ?_ | refine k_skip ?_ | refine Zs ?_))
      refine l_next (j + 1) ⟨rfl, rfl, rfl, rfl, trivial⟩ ⟨by omega, km.no k2, fun q hq => ?_⟩ (by omega)
      by_cases e : q = j
      · subst e; rw [hxj, hyj, heq]
      · exact hg q (by omega)
  · (repeat (first | refine k_nil ?_ | refine k_n ?_ | refine k_r ?_ | refine k_x ?_ | refine b_n ?_ | refine b_r ?_ | refine b_y rfl ?_ | refine b_z rfl ?_ | refine l_r ?_ | refine l_x ?_ | refine k_seq ?_ | refine k_blk ?_ | refine k_reg ?_ | refine k_ret ?_ | refine k_exit ?_ | refine k_skip ?_ | refine Zs ?_))
    refine ret_1 rfl rfl ⟨?_, km⟩
    rw [decide_eq_true]
    refine List.ext_getElem? (fun q => ?_)
    by_cases h : q < xs.length
    · exact hg q (by omega)
    · rw [List.getElem?_eq_none (by omega), List.getElem?_eq_none (by omega)]
end Cd
end Go.Proofs.YtpamkidcmjfieaaDoor
