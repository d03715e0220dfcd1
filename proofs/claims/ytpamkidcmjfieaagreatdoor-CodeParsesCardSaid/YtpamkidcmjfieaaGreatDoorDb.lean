/- Code: the document's after. -/
import Derived.Test.YtpamkidcmjfieaaGreatDoorDa
namespace Go.Proofs.YtpamkidcmjfieaaGreatDoor
open Go Go.RowKit Fw Nu
set_option linter.unusedVariables false
set_option maxRecDepth 20000
namespace Cd
def ac (t : Int × Int) : List Value := [.int .i64 t.1, .int .i64 t.2]
/-- Ways on, in a row. -/
def RA (w : World) (a : Option Addr) (l : List (Int × Int)) : Prop := l = [] ∨ ∃ b o, a = some ⟨b, o, none⟩ ∧ b < w.heap.size ∧ ∀ (j : Nat) t, l[j]? = some t → w.cell? ⟨b, o + j * 2, none⟩ = some (.int .i64 t.1) ∧ w.cell? ⟨b, o + j * 2 + 1, none⟩ = some (.int .i64 t.2)
theorem RA.kp {S : Nat → Prop} {w w' : World} {a : Option Addr} {l : List (Int × Int)} (h : RA w a l) (k : Kp S w w') (hS : ∀ b o, a = some ⟨b, o, none⟩ → ¬ S b) : RA w' a l := by
  rcases h with h | ⟨b, o, rfl, hl, h⟩
  · exact .inl h
  · exact .inr ⟨b, o, rfl, Nat.lt_of_lt_of_le hl k.size, fun j t hj => ⟨k.cell (h j t hj).1 (hS b o rfl), k.cell (h j t hj).2 (hS b o rfl)⟩⟩
theorem RA.one {w : World} {b : Nat} {t : Int × Int} {T : TypeId} (h : w.heap[b]? = some (.cells [Value.int .i64 t.1, .int .i64 t.2].toArray T (0, 0))) : RA w (some ⟨b, 0, none⟩) [t] :=
  .inr ⟨b, 0, rfl, lt_of_get h, fun j u hj => by
    match j, hj with
    | 0, hj => cases hj; exact ⟨cell_of_blk h rfl, cell_of_blk h rfl⟩
    | j + 1, hj => simp at hj⟩
theorem RA.two {w : World} {b : Nat} {t u : Int × Int} {T : TypeId} (h : w.heap[b]? = some (.cells [Value.int .i64 t.1, .int .i64 t.2, .int .i64 u.1, .int .i64 u.2].toArray T (0, 0))) : RA w (some ⟨b, 0, none⟩) [t, u] :=
  .inr ⟨b, 0, rfl, lt_of_get h, fun j v hj => by
    match j, hj with
    | 0, hj => cases hj; exact ⟨cell_of_blk h rfl, cell_of_blk h rfl⟩
    | 1, hj => cases hj; exact ⟨cell_of_blk h rfl, cell_of_blk h rfl⟩
    | j + 2, hj => simp at hj⟩
set_option maxHeartbeats 8000000 in
theorem rafter (c : Cde) (ap al : Option Addr) (cp cl : Nat) (j : Nat) (h : Int) (i : Ins) (p : Prc) (w : World) (hp : RP w ap c.ps) (hi : RI w al c.is) (hx : c.is[j]? = some i) (hf : fit c p i) (hm : c.is.length ≤ 400000) (hh : 0 ≤ h ∧ h ≤ 200) (ht : (eff c i).1 ≤ h) (he : 0 ≤ (eff c i).1 ∧ 0 ≤ (eff c i).2 ∧ (eff c i).2 ≤ 1) :
    Ret Tryz.prog 33 [.agg #[.slice ap c.ps.length cp, .slice al c.is.length cl], .int .i64 j, .int .i64 h] w fun v w1 => (∃ a cc, v = .slice a (aft c i j h).length cc ∧ RA w1 a (aft c i j h) ∧ ∀ b o, a = some ⟨b, o, none⟩ → w.heap.size ≤ b) ∧ Kp No w w1 := by
  have h1 := hf.1
  have h26 : i.op = 26 → 0 ≤ i.arg ∧ i.arg < c.ps.length := fun e => by
    have := (fA5 (c := c) (p := p) (i := i) (by rw [e]; rfl)).1 hf.2.1
    omega
  have hjl := (List.getElem?_eq_some_iff.1 hx).1
  refine ret_enter Tryz.func33 rfl Tryz.ntmps33 rfl ?_
  (repeat (first | refine k_nil ?_ | refine k_n ?_ | refine k_r ?_ | refine k_x ?_ | refine b_n ?_ | refine b_r ?_ | refine b_y rfl ?_ | refine b_z rfl ?_ | refine l_r ?_ | refine l_x ?_ | refine k_seq ?_ | refine k_blk ?_ | refine k_reg ?_ | refine k_ret ?_ | refine k_exit ?_ | refine k_skip ?_ | refine Zs ?_))
  refine s_box (cs := [.slice ap c.ps.length cp, .slice al c.is.length cl]) rfl rfl (fun b3 w1 n1 => ?_)
  have e1 := n1.blk
  have kw1 := n1.kp
  obtain ⟨ib, io, rfl, _, hc⟩ := (hi.kp0 kw1).at hx
  (repeat (first | refine k_nil ?_ | refine k_n ?_ | refine k_r ?_ | refine k_x ?_ | refine b_n ?_ | refine b_r ?_ | refine b_y rfl ?_ | refine b_z rfl ?_ | refine l_r ?_ | refine l_x ?_ | refine k_seq ?_ | refine k_blk ?_ | refine k_reg ?_ | refine k_ret ?_ | refine k_exit ?_ | refine k_skip ?_ | refine Zs ?_))
  refine s_v (r_ia (i := j) rfl rfl rfl rfl (by omega) (by omega)) ?_
  refine s_v (r_lda (vs := ic i) rfl rfl rfl rfl hc) ?_
  refine s_al rfl (fun b7 w2 n2 => ?_)
  have g2 := n2.ge
  refine s_st (vs := ic i) rfl rfl rfl rfl rfl n2.blk (Nat.le_of_ble_eq_true rfl) (fun w3 s3 => ?_)
  have k13 : Kp No w1 w3 := n2.kp.trans s3.kp (fun _ _ e => by omega)
  have e7 : w3.heap[b7]? = some (.cells [Value.int .i64 i.op, .int .i64 i.arg, .int .i64 i.more].toArray 58 (0, 0)) := s3.blk
  have kw3 := kw1.no k13
  have e13 := k13.get0 e1
  (repeat (first | refine k_nil ?_ | refine k_n ?_ | refine k_r ?_ | refine k_x ?_ | refine b_n ?_ | refine b_r ?_ | refine b_y rfl ?_ | refine b_z rfl ?_ | refine l_r ?_ | refine l_x ?_ | refine k_seq ?_ | refine k_blk ?_ | refine k_reg ?_ | refine k_ret ?_ | refine k_exit ?_ | refine k_skip ?_ | refine Zs ?_))
  refine k_h (fun w' => Kp No w3 w') [(0, false), (1, false), (2, false), (5, false), (6, false), (3, true), (4, false), (7, true), (8, false), (9, false)] 10 (by kernel_rfl) (by exact waits_none) (by kernel_rfl) (by kernel_rfl) rfl rfl (fun m1 k1 _ => ?_)
  refine h_v k1 (fun w' hw => r_mv rfl) ?_
  refine h_v k1 (fun w' hw => r_ldb (vs := [.slice ap c.ps.length cp, .slice (some ⟨ib, io, none⟩) c.is.length cl]) rfl rfl rfl (hw.get0 e13) rfl rfl) ?_
  refine h_v k1 (fun w' hw => r_ldb (vs := ic i) rfl rfl rfl (hw.get0 e7) rfl rfl) ?_
  refine h_v k1 (fun w' hw => r_ldb (vs := [.slice ap c.ps.length cp, .slice (some ⟨ib, io, none⟩) c.is.length cl]) rfl rfl rfl (hw.get0 e13) rfl rfl) ?_
  refine h_v k1 (fun w' hw => r_ldb (vs := ic i) rfl rfl rfl (hw.get0 e7) rfl rfl) ?_
  refine h_call (us := []) (zs := []) (by kernel_rfl) rfl rfl (rtakes c ap (some ⟨ib, io, none⟩) cp c.is.length cl i m1 (hp.kp0 (kw3.no k1)) h1 h26) ?_
  rintro _ m2 ⟨rfl, k2⟩
  refine ⟨fun _ => k1.no k2, ?_⟩
  refine h_v (k1.no k2) (fun w' hw => r_sub rfl rfl (by omega)) ?_
  refine h_call (us := []) (zs := []) (by kernel_rfl) rfl rfl (rleaves c ap (some ⟨ib, io, none⟩) cp c.is.length cl i m2 (hp.kp0 (kw3.no (k1.no k2))) h1 h26) ?_
  rintro _ m3 ⟨rfl, k3⟩
  have kk := (k1.no k2).no k3
  refine ⟨fun _ => kk, ?_⟩
  refine h_v kk (fun w' hw => r_add rfl rfl (by omega)) ?_
  refine h_v kk (fun w' hw => r_as rfl) ?_
  refine h_nil ?_
  have e73 := kk.get0 e7
  have kw := kw3.no kk
  have zw := kw.size
  obtain ⟨bv, hbv⟩ : ∃ bv, bv = h - (eff c i).1 + (eff c i).2 := ⟨_, rfl⟩
  rw [← hbv]
  obtain ⟨k, hk⟩ : ∃ k, k = i.op := ⟨_, rfl⟩
  rw [← hk] at e73
  (repeat (first | refine k_nil ?_ | refine k_n ?_ | refine k_r ?_ | refine k_x ?_ | refine b_n ?_ | refine b_r ?_ | refine b_y rfl ?_ | refine b_z rfl ?_ | refine l_r ?_ | refine l_x ?_ | refine k_seq ?_ | refine k_blk ?_ | refine k_reg ?_ | refine k_ret ?_ | refine k_exit ?_ | refine k_skip ?_ | refine Zs ?_))
  by_cases o1 : k = 22
  · have ha : aft c i j h = [(i.arg, bv)] := by unfold aft; rw [← hk, if_neg (by omega), if_pos o1, hbv]
    rw [ha]
    subst o1
    (repeat (first | refine k_nil ?_ | refine k_n ?_ | refine k_r ?_ | refine k_x ?_ | refine b_n ?_ | refine b_r ?_ | refine b_y rfl ?_ | refine b_z rfl ?_ | refine l_r ?_ | refine l_x ?_ | refine k_seq ?_ | refine k_blk ?_ | refine k_reg ?_ | refine k_ret ?_ | refine k_exit ?_ | refine k_skip ?_ | refine Zs ?_ | refine c_t rfl ?_ | refine c_f rfl ?_))
    refine s_bs (cs := [.int .i64 i.arg, .int .i64 bv]) (e := 79) rfl (fun b9 m4 n4 => ?_)
    (repeat (first | refine k_nil ?_ | refine k_n ?_ | refine k_r ?_ | refine k_x ?_ | refine b_n ?_ | refine b_r ?_ | refine b_y rfl ?_ | refine b_z rfl ?_ | refine l_r ?_ | refine l_x ?_ | refine k_seq ?_ | refine k_blk ?_ | refine k_reg ?_ | refine k_ret ?_ | refine k_exit ?_ | refine k_skip ?_ | refine Zs ?_))
    exact ret_1 rfl rfl ⟨⟨_, _, rfl, RA.one n4.blk, fun b o e => by cases e; have := n4.ge; omega⟩, kw.no n4.kp⟩
  by_cases o2 : k = 23
  · have ha : aft c i j h = [(i.arg, bv), ((j : Int) + 1, bv)] := by unfold aft; rw [← hk, if_neg (by omega), if_neg o1, if_pos o2, hbv]
    rw [ha]
    subst o2
    (repeat (first | refine k_nil ?_ | refine k_n ?_ | refine k_r ?_ | refine k_x ?_ | refine b_n ?_ | refine b_r ?_ | refine b_y rfl ?_ | refine b_z rfl ?_ | refine l_r ?_ | refine l_x ?_ | refine k_seq ?_ | refine k_blk ?_ | refine k_reg ?_ | refine k_ret ?_ | refine k_exit ?_ | refine k_skip ?_ | refine Zs ?_ | refine c_t rfl ?_ | refine c_f rfl ?_))
    refine s_bs (cs := [.int .i64 i.arg, .int .i64 bv, .int .i64 ((j : Int) + 1), .int .i64 bv]) (e := 79) rfl (fun b9 m4 n4 => ?_)
    (repeat (first | refine k_nil ?_ | refine k_n ?_ | refine k_r ?_ | refine k_x ?_ | refine b_n ?_ | refine b_r ?_ | refine b_y rfl ?_ | refine b_z rfl ?_ | refine l_r ?_ | refine l_x ?_ | refine k_seq ?_ | refine k_blk ?_ | refine k_reg ?_ | refine k_ret ?_ | refine k_exit ?_ | refine k_skip ?_ | refine Zs ?_))
    exact ret_1 rfl rfl ⟨⟨_, _, rfl, RA.two n4.blk, fun b o e => by cases e; have := n4.ge; omega⟩, kw.no n4.kp⟩
  by_cases o3 : k = 24 ∨ k = 25
  · have ha : aft c i j h = [(i.arg, h), ((j : Int) + 1, bv)] := by unfold aft; rw [← hk, if_neg (by omega), if_neg o1, if_neg o2, if_pos o3, hbv]
    rw [ha]
    rcases o3 with e | e
    all_goals
      subst e
      (repeat (first | refine k_nil ?_ | refine k_n ?_ | refine k_r ?_ | refine k_x ?_ | refine b_n ?_ | refine b_r ?_ | refine b_y rfl ?_ | refine b_z rfl ?_ | refine l_r ?_ | refine l_x ?_ | refine k_seq ?_ | refine k_blk ?_ | refine k_reg ?_ | refine k_ret ?_ | refine k_exit ?_ | refine k_skip ?_ | refine Zs ?_ | refine c_t rfl ?_ | refine c_f rfl ?_))
      refine s_bs (cs := [.int .i64 i.arg, .int .i64 h, .int .i64 ((j : Int) + 1), .int .i64 bv]) (e := 79) rfl (fun b9 m4 n4 => ?_)
      (repeat (first | refine k_nil ?_ | refine k_n ?_ | refine k_r ?_ | refine k_x ?_ | refine b_n ?_ | refine b_r ?_ | refine b_y rfl ?_ | refine b_z rfl ?_ | refine l_r ?_ | refine l_x ?_ | refine k_seq ?_ | refine k_blk ?_ | refine k_reg ?_ | refine k_ret ?_ | refine k_exit ?_ | refine k_skip ?_ | refine Zs ?_))
      exact ret_1 rfl rfl ⟨⟨_, _, rfl, RA.two n4.blk, fun b o e => by cases e; have := n4.ge; omega⟩, kw.no n4.kp⟩
  by_cases o4 : k = 27
  · have ha : aft c i j h = [] := by unfold aft; rw [← hk, if_pos o4]
    rw [ha]
    subst o4
    (repeat (first | refine k_nil ?_ | refine k_n ?_ | refine k_r ?_ | refine k_x ?_ | refine b_n ?_ | refine b_r ?_ | refine b_y rfl ?_ | refine b_z rfl ?_ | refine l_r ?_ | refine l_x ?_ | refine k_seq ?_ | refine k_blk ?_ | refine k_reg ?_ | refine k_ret ?_ | refine k_exit ?_ | refine k_skip ?_ | refine Zs ?_ | refine c_t rfl ?_ | refine c_f rfl ?_))
    exact ret_1 rfl rfl ⟨⟨_, _, rfl, .inl rfl, fun b o e => by cases e⟩, kw⟩
  · have ha : aft c i j h = [((j : Int) + 1, bv)] := by unfold aft; rw [← hk, if_neg o4, if_neg o1, if_neg o2, if_neg o3, hbv]
    rw [ha]
    have g2 : (k == 22) = false := by simpa using o1
    have g3 : (k == 23) = false := by simpa using o2
    have g4 : (k == 24) = false := by simp; omega
    have g5 : (k == 25) = false := by simp; omega
    have g7 : (k == 27) = false := by simpa using o4
    (repeat (first | refine k_nil ?_ | refine k_n ?_ | refine k_r ?_ | refine k_x ?_ | refine b_n ?_ | refine b_r ?_ | refine b_y rfl ?_ | refine b_z rfl ?_ | refine l_r ?_ | refine l_x ?_ | refine k_seq ?_ | refine k_blk ?_ | refine k_reg ?_ | refine k_ret ?_ | refine k_exit ?_ | refine k_skip ?_ | refine Zs ?_ | refine c_fb rfl (by assumption) ?_ | refine c_f rfl ?_))
    refine s_bs (cs := [.int .i64 ((j : Int) + 1), .int .i64 bv]) (e := 79) rfl (fun b9 m4 n4 => ?_)
    (repeat (first | refine k_nil ?_ | refine k_n ?_ | refine k_r ?_ | refine k_x ?_ | refine b_n ?_ | refine b_r ?_ | refine b_y rfl ?_ | refine b_z rfl ?_ | refine l_r ?_ | refine l_x ?_ | refine k_seq ?_ | refine k_blk ?_ | refine k_reg ?_ | refine k_ret ?_ | refine k_exit ?_ | refine k_skip ?_ | refine Zs ?_))
    exact ret_1 rfl rfl ⟨⟨_, _, rfl, RA.one n4.blk, fun b o e => by cases e; have := n4.ge; omega⟩, kw.no n4.kp⟩
end Cd
end Go.Proofs.YtpamkidcmjfieaaGreatDoor
