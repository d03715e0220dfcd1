/- Code: the document's Line. -/
import Derived.Test.YtpamkidcmjfieaaGreatDoorDe
import Derived.Test.YtpamkidcmjfieaaGreatDoorDc
namespace Go.Proofs.YtpamkidcmjfieaaGreatDoor
open Go Go.RowKit Fw Nu
set_option linter.unusedVariables false
set_option maxRecDepth 20000
namespace Fw
section
variable {P : Program} {w : World} {S : World → Prop} {n : Nat} {l : Slots} {ds : List Deferred} {q : Pst P} {z : Nat} {ty : TypeId} {pos : String} {af : Array Edge} {v : Value} {rest : List (Nat × Bool × Oper)} {os : List Oper} {d i : Nat} {op : Op}
theorem h_gv {j : Nat} {b : Bool} (hy : ylk os n l j = some (.bool b)) (hS : S w) (hr : ∀ w, S w → Rn P (ev n l) ⟨some d, op, ty, pos, af, some (j, b)⟩ w (.ok (.value v) w)) (h : Wo P os.toArray q S z rest n ((d, v) :: l) ds w) :
    Wo P os.toArray q S z ((i, false, ⟨some d, op, ty, pos, af, some (j, b)⟩) :: rest) n l ds w := by
  refine ⟨hS, v, .inl ⟨by simp [Region.wanted, A, ylk_eq hy], fun w hw => by rw [eval_A]; exact (hr w hw).eq⟩, ?_⟩
  rw [put_A]; exact h.up
theorem h_gn {j : Nat} {b b' : Bool} (hy : ylk os n l j = some (.bool b')) (hb : (b' == b) = false) (hS : S w) (h : Wo P os.toArray q S z rest n ((d, undef) :: l) ds w) :
    Wo P os.toArray q S z ((i, false, ⟨some d, op, ty, pos, af, some (j, b)⟩) :: rest) n l ds w := by
  have hb2 : ¬ b' = b := by simpa using hb
  refine ⟨hS, undef, .inr ⟨by simp [Region.wanted, A, ylk_eq hy, hb2], rfl⟩, ?_⟩
  rw [put_A]; exact h.up
theorem h_gnn {j : Nat} {b b' : Bool} (hy : ylk os n l j = some (.bool b')) (hb : (b' == b) = false) (hS : S w) (h : Wo P os.toArray q S z rest n ((d, undef) :: l) ds w) :
    Wo P os.toArray q S z ((i, true, ⟨some d, op, ty, pos, af, some (j, b)⟩) :: rest) n l ds w := by
  have hb2 : ¬ b' = b := by simpa using hb
  refine ⟨?_⟩
  unfold wpO
  rw [if_neg (by simp [Region.wanted, A, ylk_eq hy, hb2]), put_A]
  exact ⟨hS, h.up⟩
theorem h_gcall {j : Nat} {b : Bool} {f : FuncId} {c : Operand} {xs : List Operand} {vs us zs : List Value} {ats : Array TypeId} {R : Value → World → Prop} (hy : ylk os n l j = some (.bool b)) (hf : callOk P f = true) (hcv : ev n l c = .func (.func f) us.toArray zs.toArray) (hxs : evs (ev n l) xs = some vs)
    (hc : Ret P f (us ++ vs ++ zs) w R) (h : ∀ v w1, R v w1 → (i ≠ z → S w1) ∧ Wo P os.toArray q S z rest n ((d, v) :: l) ds w1) :
    Wo P os.toArray q S z ((i, true, ⟨some d, .call ⟨.value c, xs.toArray, ats⟩, ty, pos, af, some (j, b)⟩) :: rest) n l ds w := by
  refine ⟨?_⟩
  unfold wpO
  rw [if_pos (by simp [Region.wanted, A, ylk_eq hy])]
  unfold Oper.wp
  rw [eval_A, (run_call hf hcv hxs).eq, Oper.upon_enter]
  refine Calls.mono hc ?_
  rintro e w1 ⟨v, rfl, hR⟩
  simp only [put_A]
  exact ⟨(h _ _ hR).1, (h _ _ hR).2.up⟩
end
end Fw
namespace Cd
/-- A code of the document's, at hand; its rows lie from base on. -/
def CR (base : Nat) (c : Cde) (v : Value) (w : World) : Prop := ∃ ap cp al cl, v = .agg #[.slice ap c.ps.length cp, .slice al c.is.length cl] ∧ w.ownsRow base 57 6 (.slice ap c.ps.length cp) c.ps.length (c.ps.flatMap pc) ∧
  w.ownsRow base 58 3 (.slice al c.is.length cl) c.is.length (c.is.flatMap ic) ∧ ∀ g, (Value.slice ap c.ps.length cp).ownBlock = some g → (Value.slice al c.is.length cl).ownBlock ≠ some g
theorem num_of {s : ByteArray} {n : Int} {b : Bool} (h1 : b = true → B s = dc n) (hI : I64 n) (h2 : ∀ m, I64 m → B s = dc m → n = m ∧ b = true) : (b = true → num (B s) = some n) ∧ (b = false → num (B s) = none) := by
  refine ⟨fun h => by rw [h1 h]; exact num_dc hI, fun h => ?_⟩
  cases hn : num (B s) with
  | none => rfl
  | some m =>
    have := (h2 m (Lb.num_I64 hn) (num_eq hn)).2
    rw [h] at this; cases this
theorem fld_len (i : Ins) (h : 1 ≤ i.op ∧ i.op ≤ 29) : ((fld i).length : Int) = 1 + hs i.op := by
  unfold fld hs
  by_cases k0 : (sh i.op).2.1 = 0
  · have n7 : ¬ i.op = 7 := fun e => by rw [e] at k0; exact absurd k0 (by decide)
    rw [if_pos k0, if_pos k0, if_neg n7]; rfl
  · rw [if_neg k0, if_neg k0]
    by_cases n7 : i.op = 7
    · rw [if_pos n7, if_pos n7]; rfl
    · rw [if_neg n7, if_neg n7]; rfl
theorem opOf_at {op : Int} (h : 1 ≤ op ∧ op ≤ 29) {W : List Int} (e : (sh op).1 = W) : opOf W = some op.toNat := by rw [← e]; exact (sh_ok h).2.1
theorem addI_ok {c : Cde} {h : List Int} {r : List (List Int)} {zs : List Int} {op : Int} (h1 : 1 ≤ op ∧ op ≤ 29) (hW : (sh op).1 = h) (hn : nms r = some zs) (hp : 0 < c.ps.length) (hl : (zs.length : Int) = hs op) :
    addI c h r = some ⟨c.ps, c.is ++ [⟨op, zs.getD 0 0, zs.getD 1 0⟩]⟩ := by
  unfold addI
  rw [hn, opOf_at h1 hW]
  obtain ⟨er, _⟩ := nms_eq hn
  have hop : ((op.toNat : Nat) : Int) = op := by omega
  have hl2 : hs op ≤ 2 := by unfold hs; split <;> (try split) <;> omega
  simp only
  rw [if_neg (by omega), hop]
  have g0 : ∀ k, (zs ++ [0, 0]).getD k 0 = zs.getD k 0 := fun k => by
    rw [List.getD_eq_getElem?_getD, List.getD_eq_getElem?_getD]
    by_cases hk : k < zs.length
    · rw [List.getElem?_append_left hk]
    · rw [List.getElem?_append_right (by omega), List.getElem?_eq_none (l := zs) (by omega)]
      match k - zs.length with
      | 0 => rfl
      | 1 => rfl
      | n + 2 => rfl
  rw [g0, g0, if_pos]
  unfold fld
  rw [hW, er]
  congr 1
  unfold hs at hl
  by_cases k0 : (sh op).2.1 = 0
  · have n7 : ¬ op = 7 := fun e => by rw [e] at k0; exact absurd k0 (by decide)
    rw [if_pos k0] at hl
    rw [if_pos k0, if_neg n7]
    match zs, hl with
    | [], _ => rfl
    | a :: l, hl => exfalso; rw [List.length_cons] at hl; omega
  · rw [if_neg k0] at hl
    rw [if_neg k0]
    by_cases n7 : op = 7
    · rw [if_pos n7] at hl
      rw [if_pos n7]
      match zs, hl with
      | [a, b], _ => rfl
      | [], hl => simp at hl
      | [a], hl => simp at hl
      | a :: b :: d :: l, hl => exfalso; simp only [List.length_cons] at hl; omega
    · rw [if_neg n7] at hl
      rw [if_neg n7]
      match zs, hl with
      | [a], _ => rfl
      | [], hl => simp at hl
      | a :: b :: l, hl => exfalso; simp only [List.length_cons] at hl; omega
theorem addI_no {c : Cde} {h : List Int} {r : List (List Int)} {zs : List Int} (hn : nms r = some zs) (hno : ∀ op : Int, 1 ≤ op → op ≤ 29 → ¬ ((sh op).1 = h ∧ 0 < c.ps.length ∧ (zs.length : Int) = hs op)) : addI c h r = none := by
  unfold addI
  rw [hn]
  cases hop : opOf h with
  | none => rfl
  | some op =>
    obtain ⟨o1, o2, o3⟩ := opOf_some hop
    obtain ⟨er, _⟩ := nms_eq hn
    simp only
    by_cases hc : c.ps.length = 0 ∨ 2 < zs.length
    · rw [if_pos hc]
    · rw [if_neg hc, if_neg]
      intro hf
      have hop1 : 1 ≤ op := by
        rcases Nat.eq_zero_or_pos op with e | e
        · subst e; exact absurd (show (sh 0).1 = [] from rfl) (by rw [show ((0 : Nat) : Int) = 0 from rfl] at o2; rw [o2]; exact o3)
        · exact e
      have hl := fld_len ⟨op, (zs ++ [0, 0]).getD 0 0, (zs ++ [0, 0]).getD 1 0⟩ ⟨by show (1 : Int) ≤ (op : Int); omega, by show (op : Int) ≤ 29; omega⟩
      rw [hf, er, List.length_cons, List.length_map] at hl
      exact hno op (by omega) (by omega) ⟨o2, by omega, by have : hs ((op : Nat) : Int) = hs (⟨op, (zs ++ [0, 0]).getD 0 0, (zs ++ [0, 0]).getD 1 0⟩ : Ins).op := rfl; omega⟩
/-- The blocks of a code's rows. -/
def Own2 (v0 : Value) (k : Nat) : Prop := ∃ x y, v0 = .agg #[x, y] ∧ (x.ownBlock = some k ∨ y.ownBlock = some k)
set_option maxHeartbeats 16000000 in
theorem rLine (base : Nat) (c : Cde) (v0 : Value) (s : ByteArray) (w : World) (hC : CR base c v0 w) (hbw : base ≤ w.heap.size) (hsz : s.size ≤ 200000) (hn : c.ps.length ≤ 200000) (hm : c.is.length ≤ 200000) :
    Ret Tryz.prog 21 [v0, .string s] w fun v w1 => (∃ u r, v = .tuple #[u, .bool r] ∧ (∃ (xa ya : Option Addr) (xn xc yn yc : Nat), u = .agg #[.slice xa xn xc, .slice ya yn yc]) ∧ ((r = true ∧ ∃ d, addL c (B s) = some d ∧ CR base d u w1) ∨ (r = false ∧ addL c (B s) = none))) ∧ Kp (Own2 v0) w w1 := by
  obtain ⟨ap, cp, al, cl, rfl, ownp, owni, hne⟩ := hC
  refine ret_enter Tryz.func21 rfl Tryz.ntmps21 rfl ?_
  (repeat (first | refine k_nil ?_ | refine k_n ?_ | refine k_r ?_ | refine k_x ?_ | refine b_n ?_ | refine b_r ?_ | refine b_y rfl ?_ | refine b_z rfl ?_ | refine l_r ?_ | refine l_x ?_ | refine k_seq ?_ | refine k_blk ?_ | refine k_reg ?_ | refine k_ret ?_ | refine k_exit ?_ | refine k_skip ?_ | refine Zs ?_))
  refine s_box (cs := [.slice ap c.ps.length cp, .slice al c.is.length cl]) rfl rfl (fun b2 w1 n1 => ?_)
  refine s_al (cs := [.slice none 0 0, .slice none 0 0]) rfl (fun b4 w2 n2 => ?_)
  have g1 := n1.ge
  have g2 := n2.ge
  have l1 := n1.lt
  have l2 := n2.lt
  have kw2 := n1.kp.no n2.kp
  have e2 := n2.kp.get0 n1.blk
  have e4 := n2.blk
  have hinB := spl_inB (inB_B s) 32
  have hsub := Sp.spl_sub 32 (B s)
  have hslen := Sp.spl_length 32 (B s)
  rw [B_len] at hsub hslen
  (repeat (first | refine k_nil ?_ | refine k_n ?_ | refine k_r ?_ | refine k_x ?_ | refine b_n ?_ | refine b_r ?_ | refine b_y rfl ?_ | refine b_z rfl ?_ | refine l_r ?_ | refine l_x ?_ | refine k_seq ?_ | refine k_blk ?_ | refine k_reg ?_ | refine k_ret ?_ | refine k_exit ?_ | refine k_skip ?_ | refine Zs ?_))
  refine s_call (us := []) (zs := []) (by kernel_rfl) rfl rfl (rsplit s w2 (by omega)) ?_
  rintro _ w3 ⟨⟨sa, sc, rfl, hR, hsa⟩, k3⟩
  obtain ⟨h, r, hsp⟩ : ∃ h r, Sp.spl 32 (B s) = h :: r := by
    cases e : Sp.spl 32 (B s) with
    | nil => exact (Sp.spl_ne _ _ e).elim
    | cons h r => exact ⟨h, r, rfl⟩
  have hadd : addL c (B s) = if h = procL then addP c r else addI c h r := by unfold addL; rw [hsp]
  rw [hsp] at hR hinB hsub hslen ⊢
  rw [hadd]
  have hrl : (h :: r).length = r.length + 1 := rfl
  rw [hrl] at hslen ⊢
  have e23 := k3.get0 e2
  have e43 := k3.get0 e4
  have kw3 := kw2.no k3
  have z3 := kw3.size
  have hh := hinB h (by simp)
  have lb2 := lt_of_get e23
  have lb4 := lt_of_get e43
  have zw2 := kw2.size
  obtain ⟨sb, so, rfl, _, hc0⟩ := hR.at (j := 0) (p := h) rfl
  have hsb := hsa sb so rfl
  have hc0 : w3.cell? ⟨sb, so + (0 : Int).toNat * 1, none⟩ = some (.string (strOfNums h)) := hc0
  have ownp3 := own_kp ownp kw3 (fun _ _ => id)
  have owni3 := own_kp owni kw3 (fun _ _ => id)
  have no : ∀ {m : World} {r' : Option Cde}, Kp (Own2 (.agg #[.slice ap c.ps.length cp, .slice al c.is.length cl])) w m → r' = none → (∃ u r0, Value.tuple #[.agg #[.slice ap c.ps.length cp, .slice al c.is.length cl], .bool false] = .tuple #[u, .bool r0] ∧ (∃ (xa ya : Option Addr) (xn xc yn yc : Nat), u = .agg #[.slice xa xn xc, .slice ya yn yc]) ∧ ((r0 = true ∧ ∃ d, r' = some d ∧ CR base d u m) ∨ (r0 = false ∧ r' = none))) ∧ Kp (Own2 (.agg #[.slice ap c.ps.length cp, .slice al c.is.length cl])) w m :=
    fun k h => ⟨⟨_, false, rfl, ⟨_, _, _, _, _, _, rfl⟩, .inr ⟨rfl, h⟩⟩, k⟩
  have kb : ∀ {m : World}, Kp No w m → Kp (Own2 (.agg #[.slice ap c.ps.length cp, .slice al c.is.length cl])) w m := fun k => k.mono (fun _ _ e => e.elim)
  (repeat (first | refine k_nil ?_ | refine k_n ?_ | refine k_r ?_ | refine k_x ?_ | refine b_n ?_ | refine b_r ?_ | refine b_y rfl ?_ | refine b_z rfl ?_ | refine l_r ?_ | refine l_x ?_ | refine k_seq ?_ | refine k_blk ?_ | refine k_reg ?_ | refine k_ret ?_ | refine k_exit ?_ | refine k_skip ?_ | refine Zs ?_))
  refine s_v (r_ia (i := 0) rfl rfl rfl rfl (by omega) (by omega)) ?_
  (repeat (first | refine k_nil ?_ | refine k_n ?_ | refine k_r ?_ | refine k_x ?_ | refine b_n ?_ | refine b_r ?_ | refine b_y rfl ?_ | refine b_z rfl ?_ | refine l_r ?_ | refine l_x ?_ | refine k_seq ?_ | refine k_blk ?_ | refine k_reg ?_ | refine k_ret ?_ | refine k_exit ?_ | refine k_skip ?_ | refine Zs ?_))
  refine k_cutc (σ := Int) (fun F => [(2, .pointer (some ⟨b2, 0, none⟩)), (4, .pointer (some ⟨b4, 0, none⟩)), (6, .slice (some ⟨sb, so, none⟩) (r.length + 1) sc), (7, .slice none 0 0), (8, .int .i64 F)])
    (fun F m => Kp No w3 m ∧ ((F = 2 ∧ h = procL ∧ r.length = 4 ∧ nm (r.getD 0 []) = true) ∨ (F = 1 ∧ h ≠ procL))) ?_ ?_
  · refine c_b rfl (fun hq => ?_) (fun hq => ?_)
    · have hproc : h = procL := by
        rw [str_eq, B_str hh] at hq
        exact of_decide_eq_true hq
      rw [if_pos hproc]
      (repeat (first | refine k_nil ?_ | refine k_n ?_ | refine k_r ?_ | refine k_x ?_ | refine b_n ?_ | refine b_r ?_ | refine b_y rfl ?_ | refine b_z rfl ?_ | refine l_r ?_ | refine l_x ?_ | refine k_seq ?_ | refine k_blk ?_ | refine k_reg ?_ | refine k_ret ?_ | refine k_exit ?_ | refine k_skip ?_ | refine Zs ?_))
      by_cases hl : r.length = 4
      case neg =>
        refine s_set 23 true rfl (by simp; omega) ?_
        (repeat (first | refine k_nil ?_ | refine k_n ?_ | refine k_r ?_ | refine k_x ?_ | refine b_n ?_ | refine b_r ?_ | refine b_y rfl ?_ | refine b_z rfl ?_ | refine l_r ?_ | refine l_x ?_ | refine k_seq ?_ | refine k_blk ?_ | refine k_reg ?_ | refine k_ret ?_ | refine k_exit ?_ | refine k_skip ?_ | refine Zs ?_ | refine Zn ?_ | refine Zu ?_ | refine Zg ?_))
        refine c_t rfl ?_
        (repeat (first | refine k_nil ?_ | refine k_n ?_ | refine k_r ?_ | refine k_x ?_ | refine b_n ?_ | refine b_r ?_ | refine b_y rfl ?_ | refine b_z rfl ?_ | refine l_r ?_ | refine l_x ?_ | refine k_seq ?_ | refine k_blk ?_ | refine k_reg ?_ | refine k_ret ?_ | refine k_exit ?_ | refine k_skip ?_ | refine Zs ?_))
        refine s_v (r_ldb (vs := [.slice ap c.ps.length cp, .slice al c.is.length cl]) rfl rfl rfl e23 rfl rfl) ?_
        refine s_st (vs := [.slice ap c.ps.length cp, .slice al c.is.length cl]) rfl rfl rfl rfl rfl e43 (Nat.le_of_ble_eq_true rfl) (fun m5 s5 => ?_)
        (repeat (first | refine k_nil ?_ | refine k_n ?_ | refine k_r ?_ | refine k_x ?_ | refine b_n ?_ | refine b_r ?_ | refine b_y rfl ?_ | refine b_z rfl ?_ | refine l_r ?_ | refine l_x ?_ | refine k_seq ?_ | refine k_blk ?_ | refine k_reg ?_ | refine k_ret ?_ | refine k_exit ?_ | refine k_skip ?_ | refine Zs ?_))
        exact ret_c2 rfl (rv_ag rfl rfl rfl s5.blk rfl rfl) (rv_t rfl) (no (kb (kw3.trans s5.kp (fun q hq e => by have e : q = b4 := e; omega))) (by unfold addP; rw [if_neg hl]))
      refine s_set 23 false rfl (by simp; omega) ?_
      obtain ⟨n1', hn1⟩ : ∃ n1', r[0]? = some n1' := ⟨_, List.getElem?_eq_getElem (by omega)⟩
      have hn1' : (h :: r)[1]? = some n1' := hn1
      have hgd : r.getD 0 [] = n1' := by rw [List.getD_eq_getElem?_getD, hn1]; rfl
      have hn1B := hinB n1' (List.mem_of_getElem? hn1')
      obtain ⟨_, _, he, _, hc1⟩ := hR.at hn1'
      cases he
      have hc1 : w3.cell? ⟨sb, so + (1 : Int).toNat * 1, none⟩ = some (.string (strOfNums n1')) := hc1
      (repeat (first | refine k_nil ?_ | refine k_n ?_ | refine k_r ?_ | refine k_x ?_ | refine b_n ?_ | refine b_r ?_ | refine b_y rfl ?_ | refine b_z rfl ?_ | refine l_r ?_ | refine l_x ?_ | refine k_seq ?_ | refine k_blk ?_ | refine k_reg ?_ | refine k_ret ?_ | refine k_exit ?_ | refine k_skip ?_ | refine Zs ?_ | refine Zn ?_ | refine Zu ?_ | refine Zg ?_))
      refine s_gv rfl (r_ia (i := 1) rfl rfl rfl rfl (by omega) (by omega)) ?_
      (repeat (first | refine k_nil ?_ | refine k_n ?_ | refine k_r ?_ | refine k_x ?_ | refine b_n ?_ | refine b_r ?_ | refine b_y rfl ?_ | refine b_z rfl ?_ | refine l_r ?_ | refine l_x ?_ | refine k_seq ?_ | refine k_blk ?_ | refine k_reg ?_ | refine k_ret ?_ | refine k_exit ?_ | refine k_skip ?_ | refine Zs ?_ | refine Zn ?_ | refine Zu ?_ | refine Zg ?_))
      refine s_gcall (us := []) (zs := []) rfl (by kernel_rfl) rfl rfl (rname (strOfNums n1') w3 (by rw [sv_size hn1B]; have := (hsub n1' (List.mem_of_getElem? hn1')).1; omega)) ?_
      rintro _ w5 ⟨rfl, k5⟩
      have e25 := k5.get0 e23
      have e45 := k5.get0 e43
      (repeat (first | refine k_nil ?_ | refine k_n ?_ | refine k_r ?_ | refine k_x ?_ | refine b_n ?_ | refine b_r ?_ | refine b_y rfl ?_ | refine b_z rfl ?_ | refine l_r ?_ | refine l_x ?_ | refine k_seq ?_ | refine k_blk ?_ | refine k_reg ?_ | refine k_ret ?_ | refine k_exit ?_ | refine k_skip ?_ | refine Zs ?_ | refine Zn ?_ | refine Zu ?_ | refine Zg ?_))
      refine c_b rfl (fun hq2 => ?_) (fun hq2 => ?_)
      · rw [B_str hn1B] at hq2
        have hnn : nm n1' = false := by simpa using hq2
        (repeat (first | refine k_nil ?_ | refine k_n ?_ | refine k_r ?_ | refine k_x ?_ | refine b_n ?_ | refine b_r ?_ | refine b_y rfl ?_ | refine b_z rfl ?_ | refine l_r ?_ | refine l_x ?_ | refine k_seq ?_ | refine k_blk ?_ | refine k_reg ?_ | refine k_ret ?_ | refine k_exit ?_ | refine k_skip ?_ | refine Zs ?_))
        refine s_v (r_ldb (vs := [.slice ap c.ps.length cp, .slice al c.is.length cl]) rfl rfl rfl e25 rfl rfl) ?_
        refine s_st (vs := [.slice ap c.ps.length cp, .slice al c.is.length cl]) rfl rfl rfl rfl rfl e45 (Nat.le_of_ble_eq_true rfl) (fun m5 s5 => ?_)
        (repeat (first | refine k_nil ?_ | refine k_n ?_ | refine k_r ?_ | refine k_x ?_ | refine b_n ?_ | refine b_r ?_ | refine b_y rfl ?_ | refine b_z rfl ?_ | refine l_r ?_ | refine l_x ?_ | refine k_seq ?_ | refine k_blk ?_ | refine k_reg ?_ | refine k_ret ?_ | refine k_exit ?_ | refine k_skip ?_ | refine Zs ?_))
        exact ret_c2 rfl (rv_ag rfl rfl rfl s5.blk rfl rfl) (rv_t rfl) (no (kb ((kw3.no k5).trans s5.kp (fun q hq e => by have e : q = b4 := e; omega))) (by
          unfold addP; rw [if_pos hl, hgd, hnn]
          cases nms (r.drop 1) <;> rfl))
      · rw [B_str hn1B] at hq2
        have hnn : nm n1' = true := by simpa using hq2
        (repeat (first | refine k_nil ?_ | refine k_n ?_ | refine k_r ?_ | refine k_x ?_ | refine b_n ?_ | refine b_r ?_ | refine b_y rfl ?_ | refine b_z rfl ?_ | refine l_r ?_ | refine l_x ?_ | refine k_seq ?_ | refine k_blk ?_ | refine k_reg ?_ | refine k_ret ?_ | refine k_exit ?_ | refine k_skip ?_ | refine Zs ?_))
        exact l_cut 2 ⟨rfl, rfl, rfl, rfl, rfl, trivial⟩ ⟨k5, .inl ⟨rfl, hproc, hl, by rw [hgd]; exact hnn⟩⟩
    · have hproc : ¬ h = procL := fun e => by
        rw [str_eq, B_str hh, e] at hq
        exact absurd hq (by decide)
      (repeat (first | refine k_nil ?_ | refine k_n ?_ | refine k_r ?_ | refine k_x ?_ | refine b_n ?_ | refine b_r ?_ | refine b_y rfl ?_ | refine b_z rfl ?_ | refine l_r ?_ | refine l_x ?_ | refine k_seq ?_ | refine k_blk ?_ | refine k_reg ?_ | refine k_ret ?_ | refine k_exit ?_ | refine k_skip ?_ | refine Zs ?_))
      exact l_cut 1 ⟨rfl, rfl, rfl, rfl, rfl, trivial⟩ ⟨Kp.refl _ _, .inr ⟨rfl, hproc⟩⟩
  rintro F l m ⟨km, hF⟩
  have hF12 : 1 ≤ F ∧ F ≤ 2 := by rcases hF with h | h <;> omega
  have e2m := km.get0 e23
  have e4m := km.get0 e43
  have kwm := kw3.no km
  have zm := km.size
  have hRm := hR.kp0 km
  have hdl : ((h :: r).drop F.toNat).length + F.toNat = r.length + 1 := by
    rw [List.length_drop, hrl]
    rcases hF with ⟨h1, _, h2, _⟩ | ⟨h1, _⟩ <;> subst h1 <;> omega
  (repeat (first | refine k_nil ?_ | refine k_n ?_ | refine k_r ?_ | refine k_x ?_ | refine b_n ?_ | refine b_r ?_ | refine b_y rfl ?_ | refine b_z rfl ?_ | refine l_r ?_ | refine l_x ?_ | refine k_seq ?_ | refine k_blk ?_ | refine k_reg ?_ | refine k_ret ?_ | refine k_exit ?_ | refine k_skip ?_ | refine Zs ?_))
  refine k_loop (σ := List Int × Option Addr × Nat) (fun t => [(2, .pointer (some ⟨b2, 0, none⟩)), (4, .pointer (some ⟨b4, 0, none⟩)), (6, .slice (some ⟨sb, so, none⟩) (r.length + 1) sc), (7, .slice t.2.1 t.1.length t.2.2), (8, .int .i64 F), (9, .int .i64 (F + t.1.length))])
    (fun t m' => t.1.length ≤ ((h :: r).drop F.toNat).length ∧ Kp No m m' ∧ (((h :: r).drop F.toNat).take t.1.length).map num = t.1.map some ∧ m'.ownsRow m.heap.size 3 1 (.slice t.2.1 t.1.length t.2.2) t.1.length (t.1.map (.int .i64))) (fun t => ((h :: r).drop F.toNat).length - t.1.length) ([], none, 0) ⟨rfl, rfl, rfl, rfl, rfl, (by show _ = Value.int .i64 (F + ((0 : Nat) : Int)); rw [show F + ((0 : Nat) : Int) = F from by omega]; rfl), trivial⟩ ⟨Nat.zero_le _, Kp.refl _ _, rfl, World.ownsRow_nil _ _ _ _⟩ ?_
  rintro ⟨zs, ao, co⟩ l2 m2 ⟨hj, km2, hmap, own⟩
  simp only at hj hmap own
  try dsimp only
  have e22 := km2.get0 e2m
  have e42 := km2.get0 e4m
  have kw22 := kwm.no km2
  have z2 := km2.size
  (repeat (first | refine k_nil ?_ | refine k_n ?_ | refine k_r ?_ | refine k_x ?_ | refine b_n ?_ | refine b_r ?_ | refine b_y rfl ?_ | refine b_z rfl ?_ | refine l_r ?_ | refine l_x ?_ | refine k_seq ?_ | refine k_blk ?_ | refine k_reg ?_ | refine k_ret ?_ | refine k_exit ?_ | refine k_skip ?_ | refine Zs ?_))
  refine c_dec rfl (fun hlt => ?_) (fun hge => ?_)
  · obtain ⟨p, hx⟩ : ∃ p, ((h :: r).drop F.toNat)[zs.length]? = some p := ⟨_, List.getElem?_eq_getElem (by omega)⟩
    have hx2 : (h :: r)[F.toNat + zs.length]? = some p := by rw [← hx, List.getElem?_drop]
    have hpm := List.mem_of_getElem? hx2
    have hpm2 := List.mem_of_getElem? hx
    obtain ⟨_, _, he, _, hcp⟩ := (hRm.kp0 km2).at hx2
    cases he
    have hcp : m2.cell? ⟨sb, so + (F + zs.length : Int).toNat * 1, none⟩ = some (.string (strOfNums p)) := by
      rw [show (F + zs.length : Int).toNat = ((F.toNat + zs.length : Nat) : Int).toNat from by omega]
      exact hcp
    (repeat (first | refine k_nil ?_ | refine k_n ?_ | refine k_r ?_ | refine k_x ?_ | refine b_n ?_ | refine b_r ?_ | refine b_y rfl ?_ | refine b_z rfl ?_ | refine l_r ?_ | refine l_x ?_ | refine k_seq ?_ | refine k_blk ?_ | refine k_reg ?_ | refine k_ret ?_ | refine k_exit ?_ | refine k_skip ?_ | refine Zs ?_))
    refine s_v (r_ia rfl rfl rfl rfl (by omega) (by omega)) ?_
    (repeat (first | refine k_nil ?_ | refine k_n ?_ | refine k_r ?_ | refine k_x ?_ | refine b_n ?_ | refine b_r ?_ | refine b_y rfl ?_ | refine b_z rfl ?_ | refine l_r ?_ | refine l_x ?_ | refine k_seq ?_ | refine k_blk ?_ | refine k_reg ?_ | refine k_ret ?_ | refine k_exit ?_ | refine k_skip ?_ | refine Zs ?_))
    refine s_call (us := []) (zs := []) (by kernel_rfl) rfl rfl (Number (strOfNums p) m2 (by rw [sv_size (hinB p hpm)]; have := (hsub p hpm).1; omega)) ?_
    rintro _ m3 ⟨⟨n, b, rfl, hI, hb1, hb2⟩, k3'⟩
    obtain ⟨hok, hbad⟩ := num_of hb1 hI hb2
    rw [B_str (hinB p hpm)] at hok hbad
    (repeat (first | refine k_nil ?_ | refine k_n ?_ | refine k_r ?_ | refine k_x ?_ | refine b_n ?_ | refine b_r ?_ | refine b_y rfl ?_ | refine b_z rfl ?_ | refine l_r ?_ | refine l_x ?_ | refine k_seq ?_ | refine k_blk ?_ | refine k_reg ?_ | refine k_ret ?_ | refine k_exit ?_ | refine k_skip ?_ | refine Zs ?_))
    cases b with
    | false =>
      have hnone : (if h = procL then addP c r else addI c h r) = none := by
        rcases hF with ⟨rfl, f1, f2, f3⟩ | ⟨rfl, f1⟩
        · rw [if_pos f1]
          unfold addP
          rw [if_pos f2, show r.drop 1 = (h :: r).drop (2 : Int).toNat from rfl, nms_none hpm2 (hbad rfl)]
        · rw [if_neg f1]
          unfold addI
          rw [show r = (h :: r).drop (1 : Int).toNat from rfl, nms_none hpm2 (hbad rfl)]
      have e23' := k3'.get0 e22
      have e43' := k3'.get0 e42
      refine c_t rfl ?_
      (repeat (first | refine k_nil ?_ | refine k_n ?_ | refine k_r ?_ | refine k_x ?_ | refine b_n ?_ | refine b_r ?_ | refine b_y rfl ?_ | refine b_z rfl ?_ | refine l_r ?_ | refine l_x ?_ | refine k_seq ?_ | refine k_blk ?_ | refine k_reg ?_ | refine k_ret ?_ | refine k_exit ?_ | refine k_skip ?_ | refine Zs ?_))
      refine s_v (r_ldb (vs := [.slice ap c.ps.length cp, .slice al c.is.length cl]) rfl rfl rfl e23' rfl rfl) ?_
      refine s_st (vs := [.slice ap c.ps.length cp, .slice al c.is.length cl]) rfl rfl rfl rfl rfl e43' (Nat.le_of_ble_eq_true rfl) (fun m5 s5 => ?_)
      (repeat (first | refine k_nil ?_ | refine k_n ?_ | refine k_r ?_ | refine k_x ?_ | refine b_n ?_ | refine b_r ?_ | refine b_y rfl ?_ | refine b_z rfl ?_ | refine l_r ?_ | refine l_x ?_ | refine k_seq ?_ | refine k_blk ?_ | refine k_reg ?_ | refine k_ret ?_ | refine k_exit ?_ | refine k_skip ?_ | refine Zs ?_))
      exact ret_c2 rfl (rv_ag rfl rfl rfl s5.blk rfl rfl) (rv_t rfl) (no (kb ((kw22.no k3').trans s5.kp (fun q hq e => by have e : q = b4 := e; omega))) hnone)
    | true =>
      have hnum := hok rfl
      have own3 := own_kp own k3' (fun _ _ => id)
      have z3' := k3'.size
      refine c_f rfl ?_
      (repeat (first | refine k_nil ?_ | refine k_n ?_ | refine k_r ?_ | refine k_x ?_ | refine b_n ?_ | refine b_r ?_ | refine b_y rfl ?_ | refine b_z rfl ?_ | refine l_r ?_ | refine l_x ?_ | refine k_seq ?_ | refine k_blk ?_ | refine k_reg ?_ | refine k_ret ?_ | refine k_exit ?_ | refine k_skip ?_ | refine Zs ?_))
      refine s_bs (cs := [.int .i64 n]) (e := 3) rfl (fun b6 w6 n6 => ?_)
      have own6 := own_kp own3 n6.kp (fun _ _ => id)
      have z6 := n6.kp.size
      refine s_app (size := 1) (bytes := 8) (base := m.heap.size) (news := [.int .i64 n]) rfl rfl rfl rfl rfl rfl rfl rfl own6 rfl (blk_cells n6.blk) rfl rfl (by omega) (by omega) (by omega) ?_
      rintro v w7 ⟨own7, k7, _, hrow⟩
      have own8 := own7
      obtain ⟨a', c', rfl, hc, hnn, hcell⟩ := own_read own7
      have hl1 : (zs ++ [n]).length = zs.length + 1 := by simp
      (repeat (first | refine k_nil ?_ | refine k_n ?_ | refine k_r ?_ | refine k_x ?_ | refine b_n ?_ | refine b_r ?_ | refine b_y rfl ?_ | refine b_z rfl ?_ | refine l_r ?_ | refine l_x ?_ | refine k_seq ?_ | refine k_blk ?_ | refine k_reg ?_ | refine k_ret ?_ | refine k_exit ?_ | refine k_skip ?_ | refine Zs ?_))
      refine l_next (zs ++ [n], a', c') ⟨rfl, rfl, rfl, by simp only [hl1]; rfl, rfl, (by simp only [hl1]; rw [show F + ((zs.length + 1 : Nat) : Int) = F + zs.length + 1 from by omega]; rfl), trivial⟩ ⟨by show (zs ++ [n]).length ≤ _; omega, ((km2.no k3').no n6.kp).trans k7 (fun g hgw e => by have := (own_lt own6 e.symm).1; omega), ?_, ?_⟩ (by show _ - (zs ++ [n]).length < _ - zs.length; omega)
      · show (((h :: r).drop F.toNat).take (zs ++ [n]).length).map num = (zs ++ [n]).map some
        rw [hl1, List.take_add_one, hx, List.map_append, hmap, List.map_append]
        simp [hnum]
      · show w7.ownsRow m.heap.size 3 1 (.slice a' (zs ++ [n]).length c') (zs ++ [n]).length ((zs ++ [n]).map (.int .i64))
        rw [hl1, List.map_append]; exact own8
  have hzl : zs.length = ((h :: r).drop F.toNat).length := by omega
  rw [hzl, List.take_length] at hmap
  have hnms := nms_some hmap
  have ownz := own
  obtain ⟨_, _, ez, hcz, hnz, hrz⟩ := own_read own
  simp only [Value.slice.injEq, true_and] at ez
  obtain ⟨rfl, rfl⟩ := ez
  have ownp2 := own_kp ownp3 (km.no km2) (fun _ _ => id)
  have owni2 := own_kp owni3 (km.no km2) (fun _ _ => id)
  have hO : ∀ q, (Value.slice ap c.ps.length cp).ownBlock = some q → base ≤ q ∧ q < w.heap.size := fun q e => own_lt ownp e
  have hOi : ∀ q, (Value.slice al c.is.length cl).ownBlock = some q → base ≤ q ∧ q < w.heap.size := fun q e => own_lt owni e
  (repeat (first | refine k_nil ?_ | refine k_n ?_ | refine k_r ?_ | refine k_x ?_ | refine b_n ?_ | refine b_r ?_ | refine b_y rfl ?_ | refine b_z rfl ?_ | refine l_r ?_ | refine l_x ?_ | refine k_seq ?_ | refine k_blk ?_ | refine k_reg ?_ | refine k_ret ?_ | refine k_exit ?_ | refine k_skip ?_ | refine Zs ?_))
  rcases hF with ⟨rfl, hproc, hr4, hnm⟩ | ⟨rfl, hproc⟩
  · rw [if_pos hproc]
    have hdr : r.drop 1 = (h :: r).drop (2 : Int).toNat := rfl
    obtain ⟨n1', hn1⟩ : ∃ n1', r[0]? = some n1' := ⟨_, List.getElem?_eq_getElem (by omega)⟩
    have hn1' : (h :: r)[1]? = some n1' := hn1
    have hgd : r.getD 0 [] = n1' := by rw [List.getD_eq_getElem?_getD, hn1]; rfl
    have hz3 : zs.length = 3 := by
      have h2 : (2 : Int).toNat = 2 := rfl
      omega
    obtain ⟨x, y, z, rfl⟩ : ∃ x y z, zs = [x, y, z] := by
      match zs, hz3 with
      | [x, y, z], _ => exact ⟨x, y, z, rfl⟩
    have haddP : addP c r = some ⟨c.ps ++ [⟨strOfNums n1', c.is.length, 0, x, y, z⟩], c.is⟩ := by
      unfold addP
      rw [if_pos hr4, hdr, hnms, hgd]
      rw [hgd] at hnm
      simp only [hnm, if_true]
      rfl
    rw [haddP]
    obtain ⟨_, _, he, _, hcn1⟩ := (hRm.kp0 km2).at hn1'
    cases he
    have hcn1 : m2.cell? ⟨sb, so + (1 : Int).toNat * 1, none⟩ = some (.string (strOfNums n1')) := hcn1
    have hao : ao ≠ none := fun e => by have := hnz e; simp at this
    obtain ⟨ad, rfl⟩ := Option.ne_none_iff_exists'.1 hao
    obtain ⟨gn, rfl, hgn, hgnl, hcells⟩ := hrz ad rfl
    have hz1 : m2.cell? ⟨gn, 0 + (0 : Int).toNat * 1, none⟩ = some (.int .i64 x) := hcells 0 _ rfl
    have hz2 : m2.cell? ⟨gn, 0 + (1 : Int).toNat * 1, none⟩ = some (.int .i64 y) := hcells 1 _ rfl
    have hz4 : m2.cell? ⟨gn, 0 + (2 : Int).toNat * 1, none⟩ = some (.int .i64 z) := hcells 2 _ rfl
    refine c_t rfl ?_
    have hl3 : ([x, y, z] : List Int).length = 3 := rfl
    (repeat (first | refine k_nil ?_ | refine k_n ?_ | refine k_r ?_ | refine k_x ?_ | refine b_n ?_ | refine b_r ?_ | refine b_y rfl ?_ | refine b_z rfl ?_ | refine l_r ?_ | refine l_x ?_ | refine k_seq ?_ | refine k_blk ?_ | refine k_reg ?_ | refine k_ret ?_ | refine k_exit ?_ | refine k_skip ?_ | refine Zs ?_))
    refine k_h (fun w' => Kp (fun k => some k = (Value.slice ap c.ps.length cp).ownBlock) m2 w') [(0, false), (1, false), (2, false), (3, false), (4, false), (5, false), (6, false), (7, false), (8, false), (9, false), (10, false), (11, false), (12, false), (13, false), (14, false), (15, false), (16, false), (17, false), (18, true), (19, true), (20, false), (21, true)] 21 (by kernel_rfl) (by exact waits_of_last (by kernel_rfl)) (by kernel_rfl) (by kernel_rfl) rfl rfl (fun m3 k3m _ => ?_)
    have kS : Kp (fun k => some k = (Value.slice ap c.ps.length cp).ownBlock) m2 m3 := k3m.mono fun _ _ h => False.elim h
    have nb : ∀ {q}, w.heap.size ≤ q → ¬ (some q = (Value.slice ap c.ps.length cp).ownBlock) := fun {q} hq e => by have := hO q e.symm; omega
    refine h_v kS (fun w' hw => r_fa rfl rfl) ?_
    refine h_v kS (fun w' hw => r_ld rfl rfl (cell_of_blk (hw.get e22 (nb (by omega))) rfl)) ?_
    refine h_v kS (fun w' hw => r_mv rfl) ?_
    refine h_v kS (fun w' hw => r_ia (i := 1) rfl rfl rfl rfl (by omega) (by omega)) ?_
    refine h_v kS (fun w' hw => r_ld rfl rfl (hw.cell hcn1 (nb (by show _ ≤ sb; omega)))) ?_
    refine h_v kS (fun w' hw => r_fa rfl rfl) ?_
    refine h_v kS (fun w' hw => r_ld rfl rfl (cell_of_blk (hw.get e22 (nb (by omega))) rfl)) ?_
    refine h_v kS (fun w' hw => r_len rfl) ?_
    refine h_v kS (fun w' hw => r_mv rfl) ?_
    refine h_v kS (fun w' hw => r_ia (i := 0) rfl rfl rfl rfl (by omega) (by omega)) ?_
    refine h_v kS (fun w' hw => r_ld rfl rfl (hw.cell hz1 (nb (by show _ ≤ gn; omega)))) ?_
    refine h_v kS (fun w' hw => r_mv rfl) ?_
    refine h_v kS (fun w' hw => r_ia (i := 1) rfl rfl rfl rfl (by omega) (by omega)) ?_
    refine h_v kS (fun w' hw => r_ld rfl rfl (hw.cell hz2 (nb (by show _ ≤ gn; omega)))) ?_
    refine h_v kS (fun w' hw => r_mv rfl) ?_
    refine h_v kS (fun w' hw => r_ia (i := 2) rfl rfl rfl rfl (by omega) (by omega)) ?_
    refine h_v kS (fun w' hw => r_ld rfl rfl (hw.cell hz4 (nb (by show _ ≤ gn; omega)))) ?_
    refine h_v kS (fun w' hw => r_bd rfl) ?_
    refine h_bs (cs := pc ⟨strOfNums n1', c.is.length, 0, x, y, z⟩) (e := 57) rfl (fun b8 m4 n8 => ⟨fun _ => kS.no n8.kp, ?_⟩)
    have ownp5 := own_kp (own_kp ownp2 k3m (fun _ _ => id)) n8.kp (fun _ _ => id)
    have z8 := n8.kp.size
    have z3m := k3m.size
    refine h_app (size := 6) (bytes := 56) (base := base) (news := pc ⟨strOfNums n1', c.is.length, 0, x, y, z⟩) rfl rfl rfl rfl rfl rfl rfl rfl ownp5 rfl (blk_cells n8.blk) rfl rfl (by omega) (by omega) (by omega) ?_
    intro v9 m5 a9
    have ka := a9.kp
    have k25 : Kp (fun k => some k = (Value.slice ap c.ps.length cp).ownBlock) m2 m5 := (kS.no n8.kp).trans ka (fun _ _ h => h)
    refine ⟨fun _ => k25, ?_⟩
    obtain ⟨own9, _, _, row9⟩ := a9
    obtain ⟨a9', c9, rfl, hc9, ha9, hrd9⟩ := own_read own9
    have e25 := k25.get e22 (nb (by omega))
    refine h_v k25 (fun w' hw => r_fa rfl rfl) ?_
    refine h_st rfl rfl rfl rfl rfl e25 (Nat.le_of_ble_eq_true rfl) (fun m6 s6 => ⟨fun h => absurd rfl h, ?_⟩)
    refine h_nil ?_
    have owni5 : m5.ownsRow base 58 3 (.slice al c.is.length cl) c.is.length (c.is.flatMap ic) := own_kp owni2 k25 (fun q hq e => hne q e.symm hq)
    have e46 := s6.kp.get (k25.get e42 (nb (by omega))) (show ¬ b4 = b2 by omega)
    have e26 := s6.blk
    (repeat (first | refine k_nil ?_ | refine k_n ?_ | refine k_r ?_ | refine k_x ?_ | refine b_n ?_ | refine b_r ?_ | refine b_y rfl ?_ | refine b_z rfl ?_ | refine l_r ?_ | refine l_x ?_ | refine k_seq ?_ | refine k_blk ?_ | refine k_reg ?_ | refine k_ret ?_ | refine k_exit ?_ | refine k_skip ?_ | refine Zs ?_))
    refine s_v (r_ldb (vs := [.slice a9' (c.ps.length + 1) c9, .slice al c.is.length cl]) rfl rfl rfl e26 rfl rfl) ?_
    refine s_st (vs := [.slice a9' (c.ps.length + 1) c9, .slice al c.is.length cl]) rfl rfl rfl rfl rfl e46 (Nat.le_of_ble_eq_true rfl) (fun m7 s7 => ?_)
    (repeat (first | refine k_nil ?_ | refine k_n ?_ | refine k_r ?_ | refine k_x ?_ | refine b_n ?_ | refine b_r ?_ | refine b_y rfl ?_ | refine b_z rfl ?_ | refine l_r ?_ | refine l_x ?_ | refine k_seq ?_ | refine k_blk ?_ | refine k_reg ?_ | refine k_ret ?_ | refine k_exit ?_ | refine k_skip ?_ | refine Zs ?_))
    have hl : (c.ps ++ [(⟨strOfNums n1', c.is.length, 0, x, y, z⟩ : Prc)]).length = c.ps.length + 1 := by simp
    have kall : Kp (Own2 (.agg #[.slice ap c.ps.length cp, .slice al c.is.length cl])) w m7 := (((kb kw22).trans k25 (fun q hq e => ⟨_, _, rfl, .inl e.symm⟩)).trans s6.kp (fun q hq e => by have e : q = b2 := e; omega)).trans s7.kp (fun q hq e => by have e : q = b4 := e; omega)
    refine ret_c2 rfl (rv_ag rfl rfl rfl s7.blk rfl rfl) (rv_t rfl) ⟨⟨_, true, rfl, ⟨_, _, _, _, _, _, rfl⟩, .inl ⟨rfl, _, rfl, a9', c9, al, cl, by simp only [hl]; rfl, ?_, ?_, ?_⟩⟩, kall⟩
    · simp only [hl, List.flatMap_append]
      have hb9 : ∀ g, (Value.slice a9' (c.ps.length + 1) c9).ownBlock = some g → ¬ g = b2 ∧ ¬ g = b4 := fun g hg => by
        rcases row9 g hg with h | h
        · have := hO g h; omega
        · omega
      exact own_kp (own_kp own9 s6.kp (fun g hg => (hb9 g hg).1)) s7.kp (fun g hg => (hb9 g hg).2)
    · exact own_kp (own_kp owni5 s6.kp (fun g hg e => by have := hOi g hg; have e : g = b2 := e; omega)) s7.kp (fun g hg e => by have := hOi g hg; have e : g = b4 := e; omega)
    · simp only [hl]
      intro q hq hq2
      rcases row9 q hq with h0 | h0
      · exact hne q h0 hq2
      · have := (hOi q hq2).2; omega
  · rw [if_neg hproc]
    have hnms' : nms r = some zs := hnms
    have hzr : zs.length = r.length := by
      have h2 : (1 : Int).toNat = 1 := rfl
      omega
    have hRm2 := hRm.kp0 km2
    have hzc : ∀ {m' : World}, Kp No m2 m' → ∀ k : Nat, k < zs.length → ∃ gn, ao = some ⟨gn, 0, none⟩ ∧ w.heap.size ≤ gn ∧ m'.cell? ⟨gn, 0 + (k : Int).toNat * 1, none⟩ = some (.int .i64 (zs.getD k 0)) := fun k' k hk => by
      have hao : ao ≠ none := fun e => by have := hnz e; omega
      obtain ⟨ad, rfl⟩ := Option.ne_none_iff_exists'.1 hao
      obtain ⟨gn, rfl, hgn, hgnl, hcells⟩ := hrz ad rfl
      refine ⟨gn, rfl, by omega, ?_⟩
      rw [Int.toNat_natCast, Nat.mul_one]
      refine k'.cell0 (hcells k _ ?_)
      rw [List.getElem?_map, List.getD_eq_getElem?_getD, List.getElem?_eq_getElem hk]; rfl
    refine c_f rfl ?_
    (repeat (first | refine k_nil ?_ | refine k_n ?_ | refine k_r ?_ | refine k_x ?_ | refine b_n ?_ | refine b_r ?_ | refine b_y rfl ?_ | refine b_z rfl ?_ | refine l_r ?_ | refine l_x ?_ | refine k_seq ?_ | refine k_blk ?_ | refine k_reg ?_ | refine k_ret ?_ | refine k_exit ?_ | refine k_skip ?_ | refine Zs ?_))
    refine k_loop (σ := Nat) (fun o => [(2, .pointer (some ⟨b2, 0, none⟩)), (4, .pointer (some ⟨b4, 0, none⟩)), (6, .slice (some ⟨sb, so, none⟩) (r.length + 1) sc), (7, .slice ao zs.length co), (12, .int .i64 ((o : Int) + 1))])
      (fun o m' => o ≤ 29 ∧ Kp No m2 m' ∧ ∀ op : Int, 1 ≤ op → op < (o : Int) + 1 → ¬ ((sh op).1 = h ∧ 0 < c.ps.length ∧ (zs.length : Int) = hs op)) (fun o => 29 - o) 0 ⟨rfl, rfl, rfl, rfl, rfl, trivial⟩ ⟨Nat.zero_le _, Kp.refl _ _, fun op h1 h2 => by have h2 : op < ((0 : Nat) : Int) + 1 := h2; omega⟩ ?_
    rintro o l3 m3 ⟨ho, km3, hno⟩
    have e23' := km3.get0 e22
    have e43' := km3.get0 e42
    have kw33 := kw22.no km3
    have z33 := km3.size
    have next : ∀ {q : Int}, ((o + 1 : Nat) : Int) + 1 = (o : Int) + 1 + 1 := by omega
    (repeat (first | refine k_nil ?_ | refine k_n ?_ | refine k_r ?_ | refine k_x ?_ | refine b_n ?_ | refine b_r ?_ | refine b_y rfl ?_ | refine b_z rfl ?_ | refine l_r ?_ | refine l_x ?_ | refine k_seq ?_ | refine k_blk ?_ | refine k_reg ?_ | refine k_ret ?_ | refine k_exit ?_ | refine k_skip ?_ | refine Zs ?_))
    refine c_dec rfl (fun hlt => ?_) (fun hge => ?_)
    · obtain ⟨OP, hOP⟩ : ∃ OP : Int, OP = (o : Int) + 1 := ⟨_, rfl⟩
      have hOPr : 1 ≤ OP ∧ OP ≤ 29 := by omega
      have hOPt : OP.toNat = o + 1 := by omega
      have hno' : ∀ {P : Prop}, ((sh OP).1 = h ∧ 0 < c.ps.length ∧ (zs.length : Int) = hs OP → P) → (P → False) → ∀ op : Int, 1 ≤ op → op < ((o + 1 : Nat) : Int) + 1 → ¬ ((sh op).1 = h ∧ 0 < c.ps.length ∧ (zs.length : Int) = hs op) := fun f g op h1 h2 hh => by
        by_cases e : op = OP
        · subst e; exact g (f hh)
        · exact hno op h1 (by omega) hh
      rw [← hOP]
      have nxt2 : ((o + 1 : Nat) : Int) + 1 = OP + 1 := by omega
      (repeat (first | refine k_nil ?_ | refine k_n ?_ | refine k_r ?_ | refine k_x ?_ | refine b_n ?_ | refine b_r ?_ | refine b_y rfl ?_ | refine b_z rfl ?_ | refine l_r ?_ | refine l_x ?_ | refine k_seq ?_ | refine k_blk ?_ | refine k_reg ?_ | refine k_ret ?_ | refine k_exit ?_ | refine k_skip ?_ | refine Zs ?_))
      refine k_h (fun w' => Kp No m3 w') [(1, false), (4, false), (5, false), (6, false), (0, true), (2, false), (3, true), (7, false), (8, false), (9, false), (10, false), (11, false), (12, false), (13, false), (14, false), (15, false), (16, false), (17, false), (18, true), (19, false), (20, false)] 21 (by kernel_rfl) (by exact waits_none) (by kernel_rfl) (by kernel_rfl) rfl rfl (fun m4 k4 _ => ?_)
      obtain ⟨_, _, he, _, hch⟩ := (hRm2.kp0 km3).at (j := 0) (p := h) rfl
      cases he
      have hch : m3.cell? ⟨sb, so + (0 : Int).toNat * 1, none⟩ = some (.string (strOfNums h)) := hch
      refine h_v k4 (fun w' hw => r_mv rfl) ?_
      refine h_v k4 (fun w' hw => r_mv rfl) ?_
      refine h_v k4 (fun w' hw => r_ia (i := 0) rfl rfl rfl rfl (by omega) (by omega)) ?_
      refine h_v k4 (fun w' hw => r_ld rfl rfl (hw.cell0 hch)) ?_
      refine h_call (us := []) (zs := []) (by kernel_rfl) rfl rfl (rWords m4) ?_
      rintro _ m5 ⟨wb, rfl, hwb, hRW, k5⟩
      have k45 := k4.no k5
      refine ⟨fun _ => k45, ?_⟩
      have hWs := hRW.at (j := o + 1) (p := (sh OP).1) (by rw [← hOPt]; exact word_at (by omega))
      obtain ⟨_, _, he, _, hcw⟩ := hWs
      cases he
      rw [show (((o + 1 : Nat) : Int)).toNat = OP.toNat from by omega] at hcw
      have hcw : m5.cell? ⟨wb, 0 + OP.toNat * 1, none⟩ = some (.string (strOfNums (sh OP).1)) := hcw
      refine h_v k45 (fun w' hw => r_ia rfl rfl rfl rfl (by omega) (by omega)) ?_
      refine h_w (r_ld rfl rfl hcw) (fun _ => k45) ?_
      refine h_v k45 (fun w' hw => r_bin rfl) ?_
      have e25' := k45.get0 e23'
      have e45' := k45.get0 e43'
      have kw5 := kw33.no k45
      have km5 := km3.no k45
      by_cases hw : (sh OP).1 = h
      case neg =>
        refine h_re 88 (v' := .bool false) rfl (by rw [str_eq, B_str (sh_inB (by omega)), B_str hh]; exact congrArg Value.bool (decide_eq_false hw)) ?_
        refine h_v k45 (fun w' hw => r_mv rfl) ?_
        refine h_gn rfl rfl k45 ?_
        refine h_gn rfl rfl k45 ?_
        refine h_gn rfl rfl k45 ?_
        refine h_gn rfl rfl k45 ?_
        refine h_v k45 (fun w' hw => r_pf rfl rfl) ?_
        refine h_v k45 (fun w' hw => r_mv rfl) ?_
        refine h_gn rfl rfl k45 ?_
        refine h_gn rfl rfl k45 ?_
        refine h_gn rfl rfl k45 ?_
        refine h_gnn rfl rfl k45 ?_
        refine h_gn rfl rfl k45 ?_
        refine h_v k45 (fun w' hw => r_pf rfl rfl) ?_
        refine h_nil ?_
        (repeat (first | refine k_nil ?_ | refine k_n ?_ | refine k_r ?_ | refine k_x ?_ | refine b_n ?_ | refine b_r ?_ | refine b_y rfl ?_ | refine b_z rfl ?_ | refine l_r ?_ | refine l_x ?_ | refine k_seq ?_ | refine k_blk ?_ | refine k_reg ?_ | refine k_ret ?_ | refine k_exit ?_ | refine k_skip ?_ | refine Zs ?_))
        refine c_f rfl ?_
        (repeat (first | refine k_nil ?_ | refine k_n ?_ | refine k_r ?_ | refine k_x ?_ | refine b_n ?_ | refine b_r ?_ | refine b_y rfl ?_ | refine b_z rfl ?_ | refine l_r ?_ | refine l_x ?_ | refine k_seq ?_ | refine k_blk ?_ | refine k_reg ?_ | refine k_ret ?_ | refine k_exit ?_ | refine k_skip ?_ | refine Zs ?_))
        exact l_next (o + 1) ⟨rfl, rfl, rfl, rfl, (by rw [nxt2]; rfl), trivial⟩ ⟨by omega, km5, hno' (fun hh => hh.1) hw⟩ (by omega)
      refine h_re 88 (v' := .bool true) rfl (by rw [str_eq, B_str (sh_inB (by omega)), B_str hh]; exact congrArg Value.bool (decide_eq_true hw)) ?_
      refine h_v k45 (fun w' hw => r_mv rfl) ?_
      refine h_gv rfl k45 (fun w' hw => r_fa rfl rfl) ?_
      refine h_gv rfl k45 (fun w' hw => r_ld rfl rfl (cell_of_blk (hw.get0 e23') rfl)) ?_
      refine h_gv rfl k45 (fun w' hw => r_len rfl) ?_
      refine h_gv rfl k45 (fun w' hw => r_bin rfl) ?_
      refine h_v k45 (fun w' hw => r_pt rfl rfl) ?_
      refine h_v k45 (fun w' hw => r_mv rfl) ?_
      by_cases hp0 : 0 < c.ps.length
      case neg =>
        refine h_re 95 (v' := .bool false) rfl (congrArg Value.bool (decide_eq_false (by omega))) ?_
        refine h_gn rfl rfl k45 ?_
        refine h_gn rfl rfl k45 ?_
        refine h_gn rfl rfl k45 ?_
        refine h_gnn rfl rfl k45 ?_
        refine h_gn rfl rfl k45 ?_
        refine h_v k45 (fun w' hw => r_pf rfl rfl) ?_
        refine h_nil ?_
        (repeat (first | refine k_nil ?_ | refine k_n ?_ | refine k_r ?_ | refine k_x ?_ | refine b_n ?_ | refine b_r ?_ | refine b_y rfl ?_ | refine b_z rfl ?_ | refine l_r ?_ | refine l_x ?_ | refine k_seq ?_ | refine k_blk ?_ | refine k_reg ?_ | refine k_ret ?_ | refine k_exit ?_ | refine k_skip ?_ | refine Zs ?_))
        refine c_f rfl ?_
        (repeat (first | refine k_nil ?_ | refine k_n ?_ | refine k_r ?_ | refine k_x ?_ | refine b_n ?_ | refine b_r ?_ | refine b_y rfl ?_ | refine b_z rfl ?_ | refine l_r ?_ | refine l_x ?_ | refine k_seq ?_ | refine k_blk ?_ | refine k_reg ?_ | refine k_ret ?_ | refine k_exit ?_ | refine k_skip ?_ | refine Zs ?_))
        exact l_next (o + 1) ⟨rfl, rfl, rfl, rfl, (by rw [nxt2]; rfl), trivial⟩ ⟨by omega, km5, hno' (fun hh => hh.2.1) hp0⟩ (by omega)
      refine h_re 95 (v' := .bool true) rfl (congrArg Value.bool (decide_eq_true (by omega))) ?_
      refine h_gv rfl k45 (fun w' hw => r_mv rfl) ?_
      refine h_gv rfl k45 (fun w' hw => r_len rfl) ?_
      refine h_gv rfl k45 (fun w' hw => r_mv rfl) ?_
      refine h_gcall (us := []) (zs := []) rfl (by kernel_rfl) rfl rfl (rHas OP m5 hOPr) ?_
      rintro _ m6 ⟨rfl, rfl⟩
      refine ⟨fun _ => k45, ?_⟩
      refine h_gv rfl k45 (fun w' hw => r_bin rfl) ?_
      refine h_v k45 (fun w' hw => r_pt rfl rfl) ?_
      refine h_nil ?_
      (repeat (first | refine k_nil ?_ | refine k_n ?_ | refine k_r ?_ | refine k_x ?_ | refine b_n ?_ | refine b_r ?_ | refine b_y rfl ?_ | refine b_z rfl ?_ | refine l_r ?_ | refine l_x ?_ | refine k_seq ?_ | refine k_blk ?_ | refine k_reg ?_ | refine k_ret ?_ | refine k_exit ?_ | refine k_skip ?_ | refine Zs ?_))
      refine c_eq rfl (fun hlen => ?_) (fun hlen => ?_)
      · rw [addI_ok hOPr hw hnms' hp0 hlen]
        obtain ⟨i0, hi0⟩ : ∃ i0 : Ins, i0 = ⟨OP, zs.getD 0 0, zs.getD 1 0⟩ := ⟨_, rfl⟩
        rw [← hi0]
        (repeat (first | refine k_nil ?_ | refine k_n ?_ | refine k_r ?_ | refine k_x ?_ | refine b_n ?_ | refine b_r ?_ | refine b_y rfl ?_ | refine b_z rfl ?_ | refine l_r ?_ | refine l_x ?_ | refine k_seq ?_ | refine k_blk ?_ | refine k_reg ?_ | refine k_ret ?_ | refine k_exit ?_ | refine k_skip ?_ | refine Zs ?_))
        refine s_al rfl (fun b13 m7 n7 => ?_)
        have g7 := n7.ge
        refine s_st (vs := [.int .i64 OP, .int .i64 0, .int .i64 0]) rfl rfl rfl rfl rfl n7.blk (Nat.le_of_ble_eq_true rfl) (fun m8 s8 => ?_)
        have k78 : Kp No m6 m8 := n7.kp.trans s8.kp (fun _ _ e => by have e : _ = b13 := e; omega)
        have e13 : m8.heap[b13]? = some (.cells [Value.int .i64 OP, .int .i64 0, .int .i64 0].toArray 58 (0, 0)) := s8.blk
        have km8 := km5.no k78
        have z8 := km8.size
        (repeat (first | refine k_nil ?_ | refine k_n ?_ | refine k_r ?_ | refine k_x ?_ | refine b_n ?_ | refine b_r ?_ | refine b_y rfl ?_ | refine b_z rfl ?_ | refine l_r ?_ | refine l_x ?_ | refine k_seq ?_ | refine k_blk ?_ | refine k_reg ?_ | refine k_ret ?_ | refine k_exit ?_ | refine k_skip ?_ | refine Zs ?_))
        refine k_cutc (σ := Unit) (fun _ => [(2, .pointer (some ⟨b2, 0, none⟩)), (4, .pointer (some ⟨b4, 0, none⟩)), (7, .slice ao zs.length co), (13, .pointer (some ⟨b13, 0, none⟩))])
          (fun _ m' => Kp (fun k => k = b13) m8 m' ∧ m'.heap[b13]? = some (.cells [Value.int .i64 OP, .int .i64 (zs.getD 0 0), .int .i64 0].toArray 58 (0, 0))) ?_ ?_
        · refine c_dec rfl (fun hl => ?_) (fun hl => ?_)
          · obtain ⟨gn, rfl, hgn, hgc⟩ := hzc km8 0 (by omega)
            have hgc : m8.cell? ⟨gn, 0 + (0 : Int).toNat * 1, none⟩ = some (.int .i64 (zs.getD 0 0)) := hgc
            (repeat (first | refine k_nil ?_ | refine k_n ?_ | refine k_r ?_ | refine k_x ?_ | refine b_n ?_ | refine b_r ?_ | refine b_y rfl ?_ | refine b_z rfl ?_ | refine l_r ?_ | refine l_x ?_ | refine k_seq ?_ | refine k_blk ?_ | refine k_reg ?_ | refine k_ret ?_ | refine k_exit ?_ | refine k_skip ?_ | refine Zs ?_))
            refine s_v (r_ia (i := 0) rfl rfl rfl rfl (by omega) (by omega)) ?_
            (repeat (first | refine k_nil ?_ | refine k_n ?_ | refine k_r ?_ | refine k_x ?_ | refine b_n ?_ | refine b_r ?_ | refine b_y rfl ?_ | refine b_z rfl ?_ | refine l_r ?_ | refine l_x ?_ | refine k_seq ?_ | refine k_blk ?_ | refine k_reg ?_ | refine k_ret ?_ | refine k_exit ?_ | refine k_skip ?_ | refine Zs ?_))
            refine s_st rfl rfl rfl rfl rfl e13 (Nat.le_of_ble_eq_true rfl) (fun m9 s9 => ?_)
            (repeat (first | refine k_nil ?_ | refine k_n ?_ | refine k_r ?_ | refine k_x ?_ | refine b_n ?_ | refine b_r ?_ | refine b_y rfl ?_ | refine b_z rfl ?_ | refine l_r ?_ | refine l_x ?_ | refine k_seq ?_ | refine k_blk ?_ | refine k_reg ?_ | refine k_ret ?_ | refine k_exit ?_ | refine k_skip ?_ | refine Zs ?_))
            exact l_cut () ⟨rfl, rfl, rfl, rfl, trivial⟩ ⟨s9.kp, s9.blk⟩
          · have hz0 : zs.getD 0 0 = 0 := by rw [List.getD_eq_getElem?_getD, List.getElem?_eq_none (by omega)]; rfl
            (repeat (first | refine k_nil ?_ | refine k_n ?_ | refine k_r ?_ | refine k_x ?_ | refine b_n ?_ | refine b_r ?_ | refine b_y rfl ?_ | refine b_z rfl ?_ | refine l_r ?_ | refine l_x ?_ | refine k_seq ?_ | refine k_blk ?_ | refine k_reg ?_ | refine k_ret ?_ | refine k_exit ?_ | refine k_skip ?_ | refine Zs ?_))
            exact l_cut () ⟨rfl, rfl, rfl, rfl, trivial⟩ ⟨Kp.refl _ _, by rw [hz0]; exact e13⟩
        rintro _ l9 m9 ⟨k9, e139⟩
        have km9 : Kp No m2 m9 := km8.trans k9 (fun q hq e => by have e : q = b13 := e; have := km5.size; omega)
        (repeat (first | refine k_nil ?_ | refine k_n ?_ | refine k_r ?_ | refine k_x ?_ | refine b_n ?_ | refine b_r ?_ | refine b_y rfl ?_ | refine b_z rfl ?_ | refine l_r ?_ | refine l_x ?_ | refine k_seq ?_ | refine k_blk ?_ | refine k_reg ?_ | refine k_ret ?_ | refine k_exit ?_ | refine k_skip ?_ | refine Zs ?_))
        refine k_cutc (σ := Unit) (fun _ => [(2, .pointer (some ⟨b2, 0, none⟩)), (4, .pointer (some ⟨b4, 0, none⟩)), (13, .pointer (some ⟨b13, 0, none⟩))])
          (fun _ m' => Kp (fun k => k = b13) m9 m' ∧ m'.heap[b13]? = some (.cells [Value.int .i64 OP, .int .i64 (zs.getD 0 0), .int .i64 (zs.getD 1 0)].toArray 58 (0, 0))) ?_ ?_
        · refine c_dec rfl (fun hl => ?_) (fun hl => ?_)
          · obtain ⟨gn, rfl, hgn, hgc⟩ := hzc km9 1 (by omega)
            have hgc : m9.cell? ⟨gn, 0 + (1 : Int).toNat * 1, none⟩ = some (.int .i64 (zs.getD 1 0)) := hgc
            (repeat (first | refine k_nil ?_ | refine k_n ?_ | refine k_r ?_ | refine k_x ?_ | refine b_n ?_ | refine b_r ?_ | refine b_y rfl ?_ | refine b_z rfl ?_ | refine l_r ?_ | refine l_x ?_ | refine k_seq ?_ | refine k_blk ?_ | refine k_reg ?_ | refine k_ret ?_ | refine k_exit ?_ | refine k_skip ?_ | refine Zs ?_))
            refine s_v (r_ia (i := 1) rfl rfl rfl rfl (by omega) (by omega)) ?_
            (repeat (first | refine k_nil ?_ | refine k_n ?_ | refine k_r ?_ | refine k_x ?_ | refine b_n ?_ | refine b_r ?_ | refine b_y rfl ?_ | refine b_z rfl ?_ | refine l_r ?_ | refine l_x ?_ | refine k_seq ?_ | refine k_blk ?_ | refine k_reg ?_ | refine k_ret ?_ | refine k_exit ?_ | refine k_skip ?_ | refine Zs ?_))
            refine s_st rfl rfl rfl rfl rfl e139 (Nat.le_of_ble_eq_true rfl) (fun m10 s10 => ?_)
            (repeat (first | refine k_nil ?_ | refine k_n ?_ | refine k_r ?_ | refine k_x ?_ | refine b_n ?_ | refine b_r ?_ | refine b_y rfl ?_ | refine b_z rfl ?_ | refine l_r ?_ | refine l_x ?_ | refine k_seq ?_ | refine k_blk ?_ | refine k_reg ?_ | refine k_ret ?_ | refine k_exit ?_ | refine k_skip ?_ | refine Zs ?_))
            exact l_cut () ⟨rfl, rfl, rfl, trivial⟩ ⟨s10.kp, s10.blk⟩
          · have hz0 : zs.getD 1 0 = 0 := by rw [List.getD_eq_getElem?_getD, List.getElem?_eq_none (by omega)]; rfl
            (repeat (first | refine k_nil ?_ | refine k_n ?_ | refine k_r ?_ | refine k_x ?_ | refine b_n ?_ | refine b_r ?_ | refine b_y rfl ?_ | refine b_z rfl ?_ | refine l_r ?_ | refine l_x ?_ | refine k_seq ?_ | refine k_blk ?_ | refine k_reg ?_ | refine k_ret ?_ | refine k_exit ?_ | refine k_skip ?_ | refine Zs ?_))
            exact l_cut () ⟨rfl, rfl, rfl, trivial⟩ ⟨Kp.refl _ _, by rw [hz0]; exact e139⟩
        rintro _ l10 m10 ⟨k10, e1310⟩
        have km10 : Kp No m2 m10 := km9.trans k10 (fun q hq e => by have e : q = b13 := e; have := km5.size; omega)
        have hic : [Value.int .i64 OP, .int .i64 (zs.getD 0 0), .int .i64 (zs.getD 1 0)] = ic i0 := by rw [hi0]; rfl
        rw [hic] at e1310
        have e1310' : m10.heap[b13]? = some (.cells [Value.int .i64 i0.op, .int .i64 i0.arg, .int .i64 i0.more].toArray 58 (0, 0)) := e1310
        have e210 := km10.get0 e22
        have e410 := km10.get0 e42
        have owni10 := own_kp owni2 km10 (fun _ _ => id)
        have ownp10 := own_kp ownp2 km10 (fun _ _ => id)
        have z10 := km10.size
        (repeat (first | refine k_nil ?_ | refine k_n ?_ | refine k_r ?_ | refine k_x ?_ | refine b_n ?_ | refine b_r ?_ | refine b_y rfl ?_ | refine b_z rfl ?_ | refine l_r ?_ | refine l_x ?_ | refine k_seq ?_ | refine k_blk ?_ | refine k_reg ?_ | refine k_ret ?_ | refine k_exit ?_ | refine k_skip ?_ | refine Zs ?_))
        refine s_v (r_ldb (vs := ic i0) rfl rfl rfl e1310 rfl rfl) ?_
        refine s_bs (cs := ic i0) (e := 58) rfl (fun b12 m11 n12 => ?_)
        have owni11 := own_kp owni10 n12.kp (fun _ _ => id)
        have z12 := n12.kp.size
        refine s_app (size := 3) (bytes := 24) (base := base) (news := ic i0) rfl rfl rfl rfl rfl rfl rfl rfl owni11 rfl (blk_cells n12.blk) rfl rfl (by omega) (by omega) (by omega) ?_
        rintro v9 m12 ⟨own9, ka, _, row9⟩
        obtain ⟨a9', c9, rfl, hc9, ha9, hrd9⟩ := own_read own9
        have nb : ∀ {q}, w.heap.size ≤ q → ¬ (some q = (Value.slice al c.is.length cl).ownBlock) := fun {q} hq e => by have := hOi q e.symm; omega
        have e212 := ka.get (n12.kp.get0 e210) (nb (by omega))
        have e412 := ka.get (n12.kp.get0 e410) (nb (by omega))
        (repeat (first | refine k_nil ?_ | refine k_n ?_ | refine k_r ?_ | refine k_x ?_ | refine b_n ?_ | refine b_r ?_ | refine b_y rfl ?_ | refine b_z rfl ?_ | refine l_r ?_ | refine l_x ?_ | refine k_seq ?_ | refine k_blk ?_ | refine k_reg ?_ | refine k_ret ?_ | refine k_exit ?_ | refine k_skip ?_ | refine Zs ?_))
        refine s_st rfl rfl rfl rfl rfl e212 (Nat.le_of_ble_eq_true rfl) (fun m13 s13 => ?_)
        have e413 := s13.kp.get e412 (show ¬ b4 = b2 by omega)
        have e213 := s13.blk
        (repeat (first | refine k_nil ?_ | refine k_n ?_ | refine k_r ?_ | refine k_x ?_ | refine b_n ?_ | refine b_r ?_ | refine b_y rfl ?_ | refine b_z rfl ?_ | refine l_r ?_ | refine l_x ?_ | refine k_seq ?_ | refine k_blk ?_ | refine k_reg ?_ | refine k_ret ?_ | refine k_exit ?_ | refine k_skip ?_ | refine Zs ?_))
        refine s_v (r_ldb (vs := [.slice ap c.ps.length cp, .slice a9' (c.is.length + 1) c9]) rfl rfl rfl e213 rfl rfl) ?_
        refine s_st (vs := [.slice ap c.ps.length cp, .slice a9' (c.is.length + 1) c9]) rfl rfl rfl rfl rfl e413 (Nat.le_of_ble_eq_true rfl) (fun m14 s14 => ?_)
        (repeat (first | refine k_nil ?_ | refine k_n ?_ | refine k_r ?_ | refine k_x ?_ | refine b_n ?_ | refine b_r ?_ | refine b_y rfl ?_ | refine b_z rfl ?_ | refine l_r ?_ | refine l_x ?_ | refine k_seq ?_ | refine k_blk ?_ | refine k_reg ?_ | refine k_ret ?_ | refine k_exit ?_ | refine k_skip ?_ | refine Zs ?_))
        have hl : (c.is ++ [i0]).length = c.is.length + 1 := by simp
        have kall : Kp (Own2 (.agg #[.slice ap c.ps.length cp, .slice al c.is.length cl])) w m14 := (((kb ((kw22.no km10).no n12.kp)).trans ka (fun q hq e => ⟨_, _, rfl, .inr e.symm⟩)).trans s13.kp (fun q hq e => by have e : q = b2 := e; omega)).trans s14.kp (fun q hq e => by have e : q = b4 := e; omega)
        have own12 : ∀ g, (Value.slice ap c.ps.length cp).ownBlock = some g → ¬ some g = (Value.slice al c.is.length cl).ownBlock := fun g hg e => hne g hg e.symm
        refine ret_c2 rfl (rv_ag rfl rfl rfl s14.blk rfl rfl) (rv_t rfl) ⟨⟨_, true, rfl, ⟨_, _, _, _, _, _, rfl⟩, .inl ⟨rfl, _, rfl, ap, cp, a9', c9, by simp only [hl]; rfl, ?_, ?_, ?_⟩⟩, kall⟩
        · exact own_kp (own_kp (own_kp (own_kp ownp10 n12.kp (fun _ _ => id)) ka own12) s13.kp (fun g hg e => by have := hO g hg; have e : g = b2 := e; omega)) s14.kp (fun g hg e => by have := hO g hg; have e : g = b4 := e; omega)
        · simp only [hl, List.flatMap_append]
          have hb9 : ∀ g, (Value.slice a9' (c.is.length + 1) c9).ownBlock = some g → ¬ g = b2 ∧ ¬ g = b4 := fun g hg => by
            rcases row9 g hg with h | h
            · have := hOi g h; omega
            · omega
          have e9 : List.flatMap ic [i0] = ic i0 := by simp
          rw [e9]
          exact own_kp (own_kp own9 s13.kp (fun g hg => (hb9 g hg).1)) s14.kp (fun g hg => (hb9 g hg).2)
        · simp only [hl]
          intro q hq hq2
          rcases row9 q hq2 with h0 | h0
          · exact hne q hq h0
          · have := (hO q hq).2; omega
      · (repeat (first | refine k_nil ?_ | refine k_n ?_ | refine k_r ?_ | refine k_x ?_ | refine b_n ?_ | refine b_r ?_ | refine b_y rfl ?_ | refine b_z rfl ?_ | refine l_r ?_ | refine l_x ?_ | refine k_seq ?_ | refine k_blk ?_ | refine k_reg ?_ | refine k_ret ?_ | refine k_exit ?_ | refine k_skip ?_ | refine Zs ?_))
        exact l_next (o + 1) ⟨rfl, rfl, rfl, rfl, (by rw [nxt2]; rfl), trivial⟩ ⟨by omega, km5, hno' (fun hh => hh.2.2) hlen⟩ (by omega)
    · (repeat (first | refine k_nil ?_ | refine k_n ?_ | refine k_r ?_ | refine k_x ?_ | refine b_n ?_ | refine b_r ?_ | refine b_y rfl ?_ | refine b_z rfl ?_ | refine l_r ?_ | refine l_x ?_ | refine k_seq ?_ | refine k_blk ?_ | refine k_reg ?_ | refine k_ret ?_ | refine k_exit ?_ | refine k_skip ?_ | refine Zs ?_))
      refine s_v (r_ldb (vs := [.slice ap c.ps.length cp, .slice al c.is.length cl]) rfl rfl rfl e23' rfl rfl) ?_
      refine s_st (vs := [.slice ap c.ps.length cp, .slice al c.is.length cl]) rfl rfl rfl rfl rfl e43' (Nat.le_of_ble_eq_true rfl) (fun m5 s5 => ?_)
      (repeat (first | refine k_nil ?_ | refine k_n ?_ | refine k_r ?_ | refine k_x ?_ | refine b_n ?_ | refine b_r ?_ | refine b_y rfl ?_ | refine b_z rfl ?_ | refine l_r ?_ | refine l_x ?_ | refine k_seq ?_ | refine k_blk ?_ | refine k_reg ?_ | refine k_ret ?_ | refine k_exit ?_ | refine k_skip ?_ | refine Zs ?_))
      exact ret_c2 rfl (rv_ag rfl rfl rfl s5.blk rfl rfl) (rv_t rfl) (no (kb (kw33.trans s5.kp (fun q hq e => by have e : q = b4 := e; omega))) (addI_no hnms' (fun op h1 h2 => hno op h1 (by omega))))
end Cd
end Go.Proofs.YtpamkidcmjfieaaGreatDoor
