/- Code: add. -/
import Derived.Test.YtpamkidcmjfieaaDoorCv
namespace Go.Proofs.YtpamkidcmjfieaaDoor
open Go Go.RowKit Fw Nu
set_option linter.unusedVariables false
set_option maxRecDepth 20000
namespace Fw
section
variable {P : Program} {w : World} {S : World → Prop} {n : Nat} {l : Slots} {ds : List Deferred} {q : Pst P} {z : Nat} {ty : TypeId} {pos : String} {af : Array Edge} {rest : List (Nat × Bool × Oper)} {ops : Array Oper} {d i : Nat}
theorem h_al {T : TypeId} {cs : List Value} (hz : zeroL P T = some cs) (h : ∀ b w1, Nb w b cs T w1 → (i ≠ z → S w1) ∧ Wo P ops q S z rest n ((d, .pointer (some ⟨b, 0, none⟩)) :: l) ds w1) :
    Wo P ops q S z ((i, true, ⟨some d, .alloc T, ty, pos, af, none⟩) :: rest) n l ds w := h_nb (r := fun a => .pointer (some a)) (r_al hz) h
end
end Fw
namespace Cd
theorem nums_I64 : ∀ {ps : List (List Int)} {zs : List Int}, ps.map num = zs.map some → ∀ z ∈ zs, I64 z := by
  intro ps
  induction ps with
  | nil => intro zs h z hz; cases zs with
    | nil => cases hz
    | cons a r => cases h
  | cons p r ih =>
    intro zs h z hz
    cases zs with
    | nil => cases hz
    | cons a l =>
      simp only [List.map_cons, List.cons.injEq] at h
      rcases List.mem_cons.1 hz with rfl | hz
      · exact Lb.num_I64 h.1
      · exact ih h.2 z hz
theorem RS.of {w : World} {base T cp : Nat} {a : Option Addr} {ps : List (List Int)} (h : w.ownsRow base T 1 (.slice a ps.length cp) ps.length (ps.map sv)) : RS w a ps := by
  obtain ⟨a', c', e, hc, ha, hr⟩ := own_read h
  simp only [Value.slice.injEq, true_and] at e
  obtain ⟨rfl, rfl⟩ := e
  cases a with
  | none => exact .inl (List.length_eq_zero_iff.1 (ha rfl))
  | some ad =>
    obtain ⟨g, rfl, _, hl, hcell⟩ := hr _ rfl
    exact .inr ⟨g, 0, rfl, hl, fun j p hj => hcell j _ (by rw [List.getElem?_map, hj]; rfl)⟩
theorem dc_inB (n : Int) : InB (dc n) := fun c hc => by have := dc_chars n c hc; omega
theorem sh_inB {op : Int} (h : 0 ≤ op ∧ op ≤ 29) : InB (sh op).1 := by
  have hl : op.toNat < shL.length := by show op.toNat < 30; omega
  have e : sh op = shL[op.toNat] := by unfold sh; rw [List.getElem?_eq_getElem hl]; rfl
  rw [e]
  exact shL_inB _ (List.getElem_mem hl)
theorem fld_inB (i : Ins) (h : 0 ≤ i.op ∧ i.op ≤ 29) : ∀ p ∈ fld i, InB p := by
  intro w hw
  unfold fld at hw
  rcases List.mem_cons.1 hw with rfl | hw
  · exact sh_inB h
  rcases List.mem_append.1 hw with hw | hw
  · split at hw
    · cases hw
    · rw [List.mem_singleton] at hw; subst hw; exact dc_inB _
  · split at hw
    · rw [List.mem_singleton] at hw; subst hw; exact dc_inB _
    · cases hw
set_option maxHeartbeats 8000000 in
theorem add (base b : Nat) (c : Cde) (s : ByteArray) (w : World) (hs : s.size ≤ 200000) (hw : base ≤ w.heap.size) (C : CV base b c w) (w0 : World) (k0 : Kp No w0 w) (hz0 : w0.heap.size ≤ b) (hg0 : Tk.Glob w0) (hgl0 : Lb.Glob w0) (hsh0 : Shp w0) (hn : c.ps.length ≤ 200000) (hm : c.is.length ≤ 200000) :
    Ret Tryd.prog 13 [.pointer (some ⟨b, 0, none⟩), .string s] w fun v w1 => ∃ r, v = .bool r ∧ ((r = true ∧ ∃ c', addL c (B s) = some c' ∧ CV base b c' w1) ∨ (r = false ∧ addL c (B s) = none)) ∧ Kp (fun k => k = b ∨ base ≤ k) w w1 := by
  obtain ⟨hlt, ap, cp, al, cl, hblk, ownp, owni, hne⟩ := C
  have hg := hg0.kp k0
  have hgl := hgl0.kp k0
  have hsh := hsh0.kp k0
  refine ret_enter Tryd.func13 rfl Tryd.ntmps13 rfl ?_
  (repeat (first | refine k_nil ?_ | refine k_n ?_ | refine k_r ?_ | refine k_x ?_ | refine b_n ?_ | refine b_r ?_ | refine b_y rfl ?_ | refine b_z rfl ?_ | refine l_r ?_ | refine l_x ?_ | refine k_seq ?_ | refine k_blk ?_ | refine k_reg ?_ | refine k_ret ?_ | refine k_exit ?_ | refine k_skip ?_ | refine Zs ?_))
  refine s_call (us := []) (zs := []) (by kernel_rfl) rfl rfl (Split s w (by omega)) ?_
  rintro _ w1 ⟨g, rfl, hrow, hgg, k1⟩
  have hinB := spl_inB (inB_B s) 32
  have hsub := Sp.spl_sub 32 (B s)
  have hslen := Sp.spl_length 32 (B s)
  rw [B_len] at hsub hslen
  obtain ⟨h, r, hsp⟩ : ∃ h r, Sp.spl 32 (B s) = h :: r := by
    cases e : Sp.spl 32 (B s) with
    | nil => exact (Sp.spl_ne _ _ e).elim
    | cons h r => exact ⟨h, r, rfl⟩
  have hadd : addL c (B s) = if h = procL then addP c r else addI c h r := by unfold addL; rw [hsp]
  rw [hsp] at hrow hinB hsub hslen ⊢
  rw [hadd]
  have hrl : (h :: r).length = r.length + 1 := rfl
  rw [hrl] at hslen ⊢
  refine s_al rfl (fun b5 w2 n2 => ?_)
  have g5 := n2.ge
  refine s_st (vs := [.slice (some ⟨g, 0, none⟩) (r.length + 1) (r.length + 1)]) rfl rfl rfl rfl rfl n2.blk (Nat.le_of_ble_eq_true rfl) (fun w3 s3 => ?_)
  have k13 : Kp No w1 w3 := n2.kp.trans s3.kp (fun _ _ e => by omega)
  have e5 : w3.heap[b5]? = some (.cells [Value.slice (some ⟨g, 0, none⟩) (r.length + 1) (r.length + 1)].toArray 56 (0, 0)) := s3.blk
  have hrow3 := k13.get0 hrow
  have hR3 := RS.blk hrow3
  have kw3 := k1.no k13
  have z3 := kw3.size
  have z1 := k1.size
  have gltw : g < w1.heap.size := lt_of_get hrow
  obtain ⟨_, _, _, _, hc0⟩ : ∃ bo oo, (some (⟨g, 0, none⟩ : Addr)) = some ⟨bo, oo, none⟩ ∧ bo < w3.heap.size ∧ w3.cell? ⟨g, 0 + (0 : Int).toNat * 1, none⟩ = some (.string (strOfNums h)) := by
    obtain ⟨bo, oo, e, hlt, hc⟩ := hR3.at (j := 0) (p := h) rfl
    cases e
    exact ⟨_, _, rfl, hlt, hc⟩
  have hh := hinB h (by simp)
  have hblk3 := kw3.get0 hblk
  have ownp3 := own_kp ownp kw3 (fun _ _ => id)
  have owni3 := own_kp owni kw3 (fun _ _ => id)
  have kk3 : Kp (fun k => k = b ∨ base ≤ k) w w3 := kw3.mono (fun _ _ h => False.elim h)
  (repeat (first | refine k_nil ?_ | refine k_n ?_ | refine k_r ?_ | refine k_x ?_ | refine b_n ?_ | refine b_r ?_ | refine b_y rfl ?_ | refine b_z rfl ?_ | refine l_r ?_ | refine l_x ?_ | refine k_seq ?_ | refine k_blk ?_ | refine k_reg ?_ | refine k_ret ?_ | refine k_exit ?_ | refine k_skip ?_ | refine Zs ?_))
  refine s_v (r_ia (i := 0) rfl rfl rfl rfl (by omega) (by omega)) ?_
  (repeat (first | refine k_nil ?_ | refine k_n ?_ | refine k_r ?_ | refine k_x ?_ | refine b_n ?_ | refine b_r ?_ | refine b_y rfl ?_ | refine b_z rfl ?_ | refine l_r ?_ | refine l_x ?_ | refine k_seq ?_ | refine k_blk ?_ | refine k_reg ?_ | refine k_ret ?_ | refine k_exit ?_ | refine k_skip ?_ | refine Zs ?_))
  refine c_b rfl (fun hq => ?_) (fun hq => ?_)
  · have hproc : h = procL := by
      rw [str_eq, B_str hh] at hq
      exact of_decide_eq_true hq
    rw [if_pos hproc]
    (repeat (first | refine k_nil ?_ | refine k_n ?_ | refine k_r ?_ | refine k_x ?_ | refine b_n ?_ | refine b_r ?_ | refine b_y rfl ?_ | refine b_z rfl ?_ | refine l_r ?_ | refine l_x ?_ | refine k_seq ?_ | refine k_blk ?_ | refine k_reg ?_ | refine k_ret ?_ | refine k_exit ?_ | refine k_skip ?_ | refine Zs ?_))
    refine c_ne rfl (fun hl => ?_) (fun hl => ?_)
    · (repeat (first | refine k_nil ?_ | refine k_n ?_ | refine k_r ?_ | refine k_x ?_ | refine b_n ?_ | refine b_r ?_ | refine b_y rfl ?_ | refine b_z rfl ?_ | refine l_r ?_ | refine l_x ?_ | refine k_seq ?_ | refine k_blk ?_ | refine k_reg ?_ | refine k_ret ?_ | refine k_exit ?_ | refine k_skip ?_ | refine Zs ?_))
      exact ret_1 rfl rfl ⟨false, rfl, .inr ⟨rfl, by unfold addP; rw [if_neg (by omega)]⟩, kk3⟩
    have hr4 : r.length = 4 := by omega
    have hdr : (h :: r).drop 2 = r.drop 1 := rfl
    have hdl : ((h :: r).drop 2).length = 3 := by rw [List.length_drop, hrl]; omega
    have hR2 := hR3.sub (k := 2) (c := r.length + 1) (by simp)
    (repeat (first | refine k_nil ?_ | refine k_n ?_ | refine k_r ?_ | refine k_x ?_ | refine b_n ?_ | refine b_r ?_ | refine b_y rfl ?_ | refine b_z rfl ?_ | refine l_r ?_ | refine l_x ?_ | refine k_seq ?_ | refine k_blk ?_ | refine k_reg ?_ | refine k_ret ?_ | refine k_exit ?_ | refine k_skip ?_ | refine Zs ?_))
    refine s_v (r_slx (a' := subA (some ⟨g, 0, none⟩) 2 (r.length + 1) 1) (n' := ((h :: r).drop 2).length) (c' := r.length + 1 - 2) rfl rfl rfl rfl rfl (by omega) (by omega) (by omega) (by omega) rfl (by omega) (by omega)) ?_
    refine s_call (us := []) (zs := []) (by kernel_rfl) rfl rfl (numbers ((h :: r).drop 2) _ _ w3 (hgl.kp kw3) hR2 (fun p hp => hinB p (List.mem_of_mem_drop hp)) (by omega) (fun p hp => by have := (hsub p (List.mem_of_mem_drop hp)).1; omega)) ?_
    rintro _ w4 ⟨k4, ⟨zs, a', c', rfl, hmap, own4⟩ | ⟨rfl, pb, hpb, hpn⟩⟩
    · have hzl : zs.length = 3 := by have := congrArg List.length hmap; rw [List.length_map, List.length_map, hdl] at this; exact this.symm
      obtain ⟨x, y, z, rfl⟩ : ∃ x y z, zs = [x, y, z] := by
        match zs, hzl with
        | [x, y, z], _ => exact ⟨x, y, z, rfl⟩
      obtain ⟨n1, hn1⟩ : ∃ n1, r[0]? = some n1 := ⟨_, List.getElem?_eq_getElem (by omega)⟩
      have hn1' : (h :: r)[1]? = some n1 := hn1
      have hgd : r.getD 0 [] = n1 := by rw [List.getD_eq_getElem?_getD, hn1]; rfl
      have haddP : addP c r = if nm n1 = true then some ⟨c.ps ++ [⟨strOfNums n1, c.is.length, 0, x, y, z⟩], c.is⟩ else none := by
        unfold addP
        rw [if_pos hr4, ← hdr, nms_some hmap, hgd]
        rfl
      have hn1B := hinB n1 (List.mem_of_getElem? hn1')
      have hblk4 := k4.get0 hblk3
      have ownp4 := own_kp ownp3 k4 (fun _ _ => id)
      have owni4 := own_kp owni3 k4 (fun _ _ => id)
      have e54 := k4.get0 e5
      have hR4 := hR3.kp0 k4
      have z4 := k4.size
      obtain ⟨ac, cc, he, hcc, hcn, hcr⟩ := own_read own4
      simp only [Value.slice.injEq, true_and] at he
      obtain ⟨rfl, rfl⟩ := he
      have ha0 : a' ≠ none := fun e => by have := hcn e; simp at this
      obtain ⟨ad, rfl⟩ := Option.ne_none_iff_exists'.1 ha0
      obtain ⟨gn, rfl, hgn, hgnl, hcells⟩ := hcr ad rfl
      have hc1 : w4.cell? ⟨gn, 0 + (0 : Int).toNat * 1, none⟩ = some (.int .i64 x) := hcells 0 _ rfl
      have hc2 : w4.cell? ⟨gn, 0 + (1 : Int).toNat * 1, none⟩ = some (.int .i64 y) := hcells 1 _ rfl
      have hc3 : w4.cell? ⟨gn, 0 + (2 : Int).toNat * 1, none⟩ = some (.int .i64 z) := hcells 2 _ rfl
      have hcn1 : w4.cell? ⟨g, 0 + (1 : Int).toNat * 1, none⟩ = some (.string (strOfNums n1)) := by
        obtain ⟨bo, oo, e, _, hc⟩ := hR4.at (j := 1) hn1'
        cases e
        exact hc
      have hO : ∀ q, (Value.slice ap c.ps.length cp).ownBlock = some q → base ≤ q ∧ q < w.heap.size := fun q e => own_lt ownp e
      have hl3 : ([x, y, z] : List Int).length = 3 := rfl
      (repeat (first | refine k_nil ?_ | refine k_n ?_ | refine k_r ?_ | refine k_x ?_ | refine b_n ?_ | refine b_r ?_ | refine b_y rfl ?_ | refine b_z rfl ?_ | refine l_r ?_ | refine l_x ?_ | refine k_seq ?_ | refine k_blk ?_ | refine k_reg ?_ | refine k_ret ?_ | refine k_exit ?_ | refine k_skip ?_ | refine Zs ?_))
      refine c_t rfl ?_
      (repeat (first | refine k_nil ?_ | refine k_n ?_ | refine k_r ?_ | refine k_x ?_ | refine b_n ?_ | refine b_r ?_ | refine b_y rfl ?_ | refine b_z rfl ?_ | refine l_r ?_ | refine l_x ?_ | refine k_seq ?_ | refine k_blk ?_ | refine k_reg ?_ | refine k_ret ?_ | refine k_exit ?_ | refine k_skip ?_ | refine Zs ?_))
      refine k_h (fun w' => Kp (fun k => some k = (Value.slice ap c.ps.length cp).ownBlock) w4 w') [(0, false), (1, false), (2, false), (3, false), (4, false), (5, false), (6, false), (7, false), (8, false), (9, false), (10, false), (11, false), (12, false), (13, false), (14, false), (15, false), (16, false), (17, false), (18, false), (19, false), (20, false), (21, false), (22, false), (23, true), (24, true), (25, false), (26, false), (27, true)] 27 (by kernel_rfl) (by exact waits_of_last (by kernel_rfl)) (by kernel_rfl) (by kernel_rfl) rfl rfl (fun m1 k1m _ => ?_)
      have kS : Kp (fun k => some k = (Value.slice ap c.ps.length cp).ownBlock) w4 m1 := k1m.mono fun _ _ h => False.elim h
      refine h_v kS (fun w' hw => r_mv rfl) ?_
      refine h_v kS (fun w' hw => r_mv rfl) ?_
      refine h_v kS (fun w' hw => r_nc rfl) ?_
      refine h_v kS (fun w' hw => r_fa rfl rfl) ?_
      refine h_v kS (fun w' hw => r_ld rfl rfl (cell_of_blk (hw.get hblk4 (fun e => by have := hO b e.symm; omega)) rfl)) ?_
      refine h_v kS (fun w' hw => r_ld rfl rfl (cell_of_blk (hw.get e54 (fun e => by have := hO b5 e.symm; omega)) rfl)) ?_
      refine h_v kS (fun w' hw => r_ia (i := 1) rfl rfl rfl rfl (by omega) (by omega)) ?_
      refine h_v kS (fun w' hw => r_ld rfl rfl (hw.cell hcn1 (fun e => by have := hO g e.symm; omega))) ?_
      refine h_v kS (fun w' hw => r_mv rfl) ?_
      refine h_v kS (fun w' hw => r_nc rfl) ?_
      refine h_v kS (fun w' hw => r_fa rfl rfl) ?_
      refine h_v kS (fun w' hw => r_ld rfl rfl (cell_of_blk (hw.get hblk4 (fun e => by have := hO b e.symm; omega)) rfl)) ?_
      refine h_v kS (fun w' hw => r_len rfl) ?_
      refine h_v kS (fun w' hw => r_mv rfl) ?_
      refine h_v kS (fun w' hw => r_ia (i := 0) rfl rfl rfl rfl (by omega) (by omega)) ?_
      refine h_v kS (fun w' hw => r_ld rfl rfl (hw.cell hc1 (fun e => by have := hO gn e.symm; omega))) ?_
      refine h_v kS (fun w' hw => r_mv rfl) ?_
      refine h_v kS (fun w' hw => r_ia (i := 1) rfl rfl rfl rfl (by omega) (by omega)) ?_
      refine h_v kS (fun w' hw => r_ld rfl rfl (hw.cell hc2 (fun e => by have := hO gn e.symm; omega))) ?_
      refine h_v kS (fun w' hw => r_mv rfl) ?_
      refine h_v kS (fun w' hw => r_ia (i := 2) rfl rfl rfl rfl (by omega) (by omega)) ?_
      refine h_v kS (fun w' hw => r_ld rfl rfl (hw.cell hc3 (fun e => by have := hO gn e.symm; omega))) ?_
      refine h_v kS (fun w' hw => r_bd rfl) ?_
      obtain ⟨pn, hpn⟩ : ∃ pn : Prc, pn = ⟨strOfNums n1, c.is.length, 0, x, y, z⟩ := ⟨_, rfl⟩
      refine h_bs (cs := pc ⟨strOfNums n1, c.is.length, 0, x, y, z⟩) (e := 32) rfl (fun b8 m2 n8 => ⟨fun _ => kS.no n8.kp, ?_⟩)
      have ownp5 := own_kp (own_kp ownp4 k1m (fun _ _ => id)) n8.kp (fun _ _ => id)
      have z8 := n8.kp.size
      have z1m := k1m.size
      refine h_app (size := 6) (bytes := 56) (base := base) (news := pc ⟨strOfNums n1, c.is.length, 0, x, y, z⟩) rfl rfl rfl rfl rfl rfl rfl rfl ownp5 rfl (blk_cells n8.blk) rfl rfl (by omega) (by omega) (by omega) ?_
      intro v9 m3 a9
      have ka := a9.kp
      have k43 : Kp (fun k => some k = (Value.slice ap c.ps.length cp).ownBlock) w4 m3 := (kS.no n8.kp).trans ka (fun _ _ h => h)
      refine ⟨fun _ => k43, ?_⟩
      obtain ⟨own9, _, _, row9⟩ := a9
      obtain ⟨a9', c9, rfl, hc9, ha9, hrd9⟩ := own_read own9
      have hblk5 := k43.get hblk4 (fun e => by have := hO b e.symm; omega)
      refine h_v k43 (fun w' hw => r_nc rfl) ?_
      refine h_v k43 (fun w' hw => r_fa rfl rfl) ?_
      refine h_st rfl rfl rfl rfl rfl hblk5 (Nat.le_of_ble_eq_true rfl) (fun m4 s4 => ⟨fun h => absurd rfl h, ?_⟩)
      refine h_nil ?_
      have owni5 : m3.ownsRow base 34 3 (.slice al c.is.length cl) c.is.length (c.is.flatMap ic) := own_kp owni4 k43 (fun q hq e => hne q e.symm hq)
      have kk4 : Kp (fun k => k = b ∨ base ≤ k) w m4 := (((kk3.no k4).trans k43 (fun q hq e => .inr (hO q e.symm).1))).trans s4.kp (fun q _ e => .inl e)
      have kno4 : Kp (fun k => k = b ∨ some k = (Value.slice ap c.ps.length cp).ownBlock) w4 m4 := (k43.mono (fun _ _ e => .inr e)).trans s4.kp (fun q _ e => .inl e)
      have e56 := kno4.get e54 (fun e => by
        rcases e with e | e
        · omega
        · have := hO b5 e.symm; omega)
      have hcn2 := kno4.cell hcn1 (fun e => by
        rcases e with e | e
        · have e : g = b := e; omega
        · have := hO g e.symm; omega)
      have hgd4 : Tk.Glob m4 := hg0.kp (k0.trans kk4 (fun q hq e => by omega))
      have hCV : CV base b ⟨c.ps ++ [⟨strOfNums n1, c.is.length, 0, x, y, z⟩], c.is⟩ m4 := by
        have hl : (c.ps ++ [(⟨strOfNums n1, c.is.length, 0, x, y, z⟩ : Prc)]).length = c.ps.length + 1 := by simp
        refine ⟨hlt, a9', c9, al, cl, ?_, ?_, ?_, ?_⟩
        · simp only [hl]; exact s4.blk
        · simp only [hl, List.flatMap_append]
          exact own_kp own9 s4.kp (fun q hq e => by have := (own_lt own9 hq).1; have e : q = b := e; omega)
        · exact own_kp owni5 s4.kp (fun q hq e => by have := (own_lt owni5 hq).1; have e : q = b := e; omega)
        · simp only [hl]
          intro q hq hq2
          rcases row9 q hq with h0 | h0
          · exact hne q h0 hq2
          · have := (own_lt owni hq2).2; omega
      (repeat (first | refine k_nil ?_ | refine k_n ?_ | refine k_r ?_ | refine k_x ?_ | refine b_n ?_ | refine b_r ?_ | refine b_y rfl ?_ | refine b_z rfl ?_ | refine l_r ?_ | refine l_x ?_ | refine k_seq ?_ | refine k_blk ?_ | refine k_reg ?_ | refine k_ret ?_ | refine k_exit ?_ | refine k_skip ?_ | refine Zs ?_))
      refine s_set 56 true rfl rfl ?_
      (repeat (first | refine k_nil ?_ | refine k_n ?_ | refine k_r ?_ | refine k_x ?_ | refine b_n ?_ | refine b_r ?_ | refine b_y rfl ?_ | refine b_z rfl ?_ | refine l_r ?_ | refine l_x ?_ | refine k_seq ?_ | refine k_blk ?_ | refine k_reg ?_ | refine k_ret ?_ | refine k_exit ?_ | refine k_skip ?_ | refine Zs ?_ | refine Zn ?_ | refine Zu ?_ | refine Zg ?_))
      refine s_gv rfl (r_ia (i := 1) rfl rfl rfl rfl (by omega) (by omega)) ?_
      (repeat (first | refine k_nil ?_ | refine k_n ?_ | refine k_r ?_ | refine k_x ?_ | refine b_n ?_ | refine b_r ?_ | refine b_y rfl ?_ | refine b_z rfl ?_ | refine l_r ?_ | refine l_x ?_ | refine k_seq ?_ | refine k_blk ?_ | refine k_reg ?_ | refine k_ret ?_ | refine k_exit ?_ | refine k_skip ?_ | refine Zs ?_ | refine Zn ?_ | refine Zu ?_ | refine Zg ?_))
      refine s_gcall (us := []) (zs := []) rfl (by kernel_rfl) rfl rfl (name (strOfNums n1) m4 hgd4 (by rw [sv_size hn1B]; have := (hsub n1 (List.mem_of_getElem? hn1')).1; omega)) ?_
      rintro _ m5 ⟨rfl, k5⟩
      (repeat (first | refine k_nil ?_ | refine k_n ?_ | refine k_r ?_ | refine k_x ?_ | refine b_n ?_ | refine b_r ?_ | refine b_y rfl ?_ | refine b_z rfl ?_ | refine l_r ?_ | refine l_x ?_ | refine k_seq ?_ | refine k_blk ?_ | refine k_reg ?_ | refine k_ret ?_ | refine k_exit ?_ | refine k_skip ?_ | refine Zs ?_ | refine Zn ?_ | refine Zu ?_ | refine Zg ?_))
      rw [B_str hn1B]
      refine ret_1 rfl rfl ⟨_, rfl, ?_, kk4.no k5⟩
      rw [haddP]
      cases hnm : nm n1 with
      | true => exact .inl ⟨rfl, _, by rw [if_pos rfl], hCV.kp k5⟩
      | false => exact .inr ⟨rfl, by rw [if_neg (by decide)]⟩
    · have hnone : addP c r = none := by
        unfold addP
        rw [if_pos hr4, ← hdr, nms_none hpb hpn]
      (repeat (first | refine k_nil ?_ | refine k_n ?_ | refine k_r ?_ | refine k_x ?_ | refine b_n ?_ | refine b_r ?_ | refine b_y rfl ?_ | refine b_z rfl ?_ | refine l_r ?_ | refine l_x ?_ | refine k_seq ?_ | refine k_blk ?_ | refine k_reg ?_ | refine k_ret ?_ | refine k_exit ?_ | refine k_skip ?_ | refine Zs ?_))
      refine c_f rfl ?_
      (repeat (first | refine k_nil ?_ | refine k_n ?_ | refine k_r ?_ | refine k_x ?_ | refine b_n ?_ | refine b_r ?_ | refine b_y rfl ?_ | refine b_z rfl ?_ | refine l_r ?_ | refine l_x ?_ | refine k_seq ?_ | refine k_blk ?_ | refine k_reg ?_ | refine k_ret ?_ | refine k_exit ?_ | refine k_skip ?_ | refine Zs ?_))
      refine s_set 56 false rfl rfl ?_
      (repeat (first | refine k_nil ?_ | refine k_n ?_ | refine k_r ?_ | refine k_x ?_ | refine b_n ?_ | refine b_r ?_ | refine b_y rfl ?_ | refine b_z rfl ?_ | refine l_r ?_ | refine l_x ?_ | refine k_seq ?_ | refine k_blk ?_ | refine k_reg ?_ | refine k_ret ?_ | refine k_exit ?_ | refine k_skip ?_ | refine Zs ?_ | refine Zn ?_ | refine Zu ?_ | refine Zg ?_))
      exact ret_1 rfl rfl ⟨false, rfl, .inr ⟨rfl, hnone⟩, kk3.no k4⟩
  · have hproc : ¬ h = procL := fun e => by
      rw [str_eq, B_str hh, e] at hq
      exact absurd hq (by decide)
    rw [if_neg hproc]
    have hdr : (h :: r).drop 1 = r := rfl
    have hR1 := hR3.sub (k := 1) (c := r.length + 1) (by simp)
    rw [hdr] at hR1
    (repeat (first | refine k_nil ?_ | refine k_n ?_ | refine k_r ?_ | refine k_x ?_ | refine b_n ?_ | refine b_r ?_ | refine b_y rfl ?_ | refine b_z rfl ?_ | refine l_r ?_ | refine l_x ?_ | refine k_seq ?_ | refine k_blk ?_ | refine k_reg ?_ | refine k_ret ?_ | refine k_exit ?_ | refine k_skip ?_ | refine Zs ?_))
    refine s_v (r_slx (a' := subA (some ⟨g, 0, none⟩) 1 (r.length + 1) 1) (n' := r.length) (c' := r.length + 1 - 1) rfl rfl rfl rfl rfl (by omega) (by omega) (by omega) (by omega) rfl (by omega) (by omega)) ?_
    refine s_call (us := []) (zs := []) (by kernel_rfl) rfl rfl (numbers r _ _ w3 (hgl.kp kw3) hR1 (fun p hp => hinB p (List.mem_cons_of_mem _ hp)) (by omega) (fun p hp => by have := (hsub p (List.mem_cons_of_mem _ hp)).1; omega)) ?_
    rintro _ w4 ⟨k4, H⟩
    have e54 := k4.get0 e5
    have hR4 := hR3.kp0 k4
    have z4 := k4.size
    have kw4 := kw3.no k4
    have hblk4 := k4.get0 hblk3
    rcases H with ⟨zs, a', c', rfl, hmap, own4⟩ | ⟨rfl, pb, hpb, hpn⟩
    · have hnms := nms_some hmap
      have hzl : zs.length = r.length := by have := congrArg List.length hmap; rw [List.length_map, List.length_map] at this; exact this.symm
      have hzI : ∀ z ∈ zs, I64 z := nums_I64 hmap
      (repeat (first | refine k_nil ?_ | refine k_n ?_ | refine k_r ?_ | refine k_x ?_ | refine b_n ?_ | refine b_r ?_ | refine b_y rfl ?_ | refine b_z rfl ?_ | refine l_r ?_ | refine l_x ?_ | refine k_seq ?_ | refine k_blk ?_ | refine k_reg ?_ | refine k_ret ?_ | refine k_exit ?_ | refine k_skip ?_ | refine Zs ?_))
      refine s_v (r_slax (a' := some ⟨0, 0, none⟩) (n' := 30) (c' := 30) rfl rfl rfl rfl rfl (by omega) (by omega) (by omega) subA_0 rfl rfl) ?_
      (repeat (first | refine k_nil ?_ | refine k_n ?_ | refine k_r ?_ | refine k_x ?_ | refine b_n ?_ | refine b_r ?_ | refine b_y rfl ?_ | refine b_z rfl ?_ | refine l_r ?_ | refine l_x ?_ | refine k_seq ?_ | refine k_blk ?_ | refine k_reg ?_ | refine k_ret ?_ | refine k_exit ?_ | refine k_skip ?_ | refine Zs ?_))
      refine s_call (us := []) (zs := []) (by kernel_rfl) rfl rfl (idxS b5 (some ⟨g, 0, none⟩) (r.length + 1) (r.length + 1) h r w4 (hsh.kp kw4) e54 rfl hR4 hh) ?_
      rintro _ w5 ⟨rfl, k5⟩
      have kk5 := (kk3.no k4).no k5
      have hblk5 := k5.get0 hblk4
      cases hop : opOf h with
      | none =>
        have hnone : addI c h r = none := by
          unfold addI
          rw [hop]
          cases nms r <;> rfl
        dsimp only
        (repeat (first | refine k_nil ?_ | refine k_n ?_ | refine k_r ?_ | refine k_x ?_ | refine b_n ?_ | refine b_r ?_ | refine b_y rfl ?_ | refine b_z rfl ?_ | refine l_r ?_ | refine l_x ?_ | refine k_seq ?_ | refine k_blk ?_ | refine k_reg ?_ | refine k_ret ?_ | refine k_exit ?_ | refine k_skip ?_ | refine Zs ?_))
        (repeat (first | refine k_nil ?_ | refine k_n ?_ | refine k_r ?_ | refine k_x ?_ | refine b_n ?_ | refine b_r ?_ | refine b_y rfl ?_ | refine b_z rfl ?_ | refine l_r ?_ | refine l_x ?_ | refine k_seq ?_ | refine k_blk ?_ | refine k_reg ?_ | refine k_ret ?_ | refine k_exit ?_ | refine k_skip ?_ | refine Zs ?_ | refine Zn ?_ | refine Zu ?_ | refine Zg ?_))
        refine c_t rfl ?_
        (repeat (first | refine k_nil ?_ | refine k_n ?_ | refine k_r ?_ | refine k_x ?_ | refine b_n ?_ | refine b_r ?_ | refine b_y rfl ?_ | refine b_z rfl ?_ | refine l_r ?_ | refine l_x ?_ | refine k_seq ?_ | refine k_blk ?_ | refine k_reg ?_ | refine k_ret ?_ | refine k_exit ?_ | refine k_skip ?_ | refine Zs ?_))
        exact ret_1 rfl rfl ⟨false, rfl, .inr ⟨rfl, hnone⟩, kk5⟩
      | some op =>
        obtain ⟨hop29, _⟩ : op ≤ 29 ∧ True := by
          unfold opOf at hop
          rw [List.findIdx?_eq_some_iff_getElem] at hop
          obtain ⟨hlt2, _⟩ := hop
          have hlen : shL.length = 30 := rfl
          exact ⟨by omega, trivial⟩
        have hadI : addI c h r = if c.ps.length = 0 ∨ 2 < zs.length then none else if fld ⟨op, (zs ++ [0, 0]).getD 0 0, (zs ++ [0, 0]).getD 1 0⟩ = h :: r then some ⟨c.ps, c.is ++ [⟨op, (zs ++ [0, 0]).getD 0 0, (zs ++ [0, 0]).getD 1 0⟩]⟩ else none := by
          unfold addI
          rw [hop, hnms]
        dsimp only
        (repeat (first | refine k_nil ?_ | refine k_n ?_ | refine k_r ?_ | refine k_x ?_ | refine b_n ?_ | refine b_r ?_ | refine b_y rfl ?_ | refine b_z rfl ?_ | refine l_r ?_ | refine l_x ?_ | refine k_seq ?_ | refine k_blk ?_ | refine k_reg ?_ | refine k_ret ?_ | refine k_exit ?_ | refine k_skip ?_ | refine Zs ?_))
        refine s_set 73 false rfl rfl ?_
        (repeat (first | refine k_nil ?_ | refine k_n ?_ | refine k_r ?_ | refine k_x ?_ | refine b_n ?_ | refine b_r ?_ | refine b_y rfl ?_ | refine b_z rfl ?_ | refine l_r ?_ | refine l_x ?_ | refine k_seq ?_ | refine k_blk ?_ | refine k_reg ?_ | refine k_ret ?_ | refine k_exit ?_ | refine k_skip ?_ | refine Zs ?_ | refine Zn ?_ | refine Zu ?_ | refine Zg ?_))
        refine s_set 77 false rfl (decide_eq_false (by omega)) ?_
        (repeat (first | refine k_nil ?_ | refine k_n ?_ | refine k_r ?_ | refine k_x ?_ | refine b_n ?_ | refine b_r ?_ | refine b_y rfl ?_ | refine b_z rfl ?_ | refine l_r ?_ | refine l_x ?_ | refine k_seq ?_ | refine k_blk ?_ | refine k_reg ?_ | refine k_ret ?_ | refine k_exit ?_ | refine k_skip ?_ | refine Zs ?_ | refine Zn ?_ | refine Zu ?_ | refine Zg ?_))
        by_cases hp0 : c.ps.length = 0
        · refine s_set 85 true rfl (by rw [hp0]; rfl) ?_
          (repeat (first | refine k_nil ?_ | refine k_n ?_ | refine k_r ?_ | refine k_x ?_ | refine b_n ?_ | refine b_r ?_ | refine b_y rfl ?_ | refine b_z rfl ?_ | refine l_r ?_ | refine l_x ?_ | refine k_seq ?_ | refine k_blk ?_ | refine k_reg ?_ | refine k_ret ?_ | refine k_exit ?_ | refine k_skip ?_ | refine Zs ?_ | refine Zn ?_ | refine Zu ?_ | refine Zg ?_))
          refine c_t rfl ?_
          (repeat (first | refine k_nil ?_ | refine k_n ?_ | refine k_r ?_ | refine k_x ?_ | refine b_n ?_ | refine b_r ?_ | refine b_y rfl ?_ | refine b_z rfl ?_ | refine l_r ?_ | refine l_x ?_ | refine k_seq ?_ | refine k_blk ?_ | refine k_reg ?_ | refine k_ret ?_ | refine k_exit ?_ | refine k_skip ?_ | refine Zs ?_))
          exact ret_1 rfl rfl ⟨false, rfl, .inr ⟨rfl, by rw [hadI, if_pos (.inl hp0)]⟩, kk5⟩
        refine s_set 85 false rfl (by rw [beq_eq_false_iff_ne]; omega) ?_
        (repeat (first | refine k_nil ?_ | refine k_n ?_ | refine k_r ?_ | refine k_x ?_ | refine b_n ?_ | refine b_r ?_ | refine b_y rfl ?_ | refine b_z rfl ?_ | refine l_r ?_ | refine l_x ?_ | refine k_seq ?_ | refine k_blk ?_ | refine k_reg ?_ | refine k_ret ?_ | refine k_exit ?_ | refine k_skip ?_ | refine Zs ?_ | refine Zn ?_ | refine Zu ?_ | refine Zg ?_))
        refine c_dec rfl (fun h2 => ?_) (fun h2 => ?_)
        · (repeat (first | refine k_nil ?_ | refine k_n ?_ | refine k_r ?_ | refine k_x ?_ | refine b_n ?_ | refine b_r ?_ | refine b_y rfl ?_ | refine b_z rfl ?_ | refine l_r ?_ | refine l_x ?_ | refine k_seq ?_ | refine k_blk ?_ | refine k_reg ?_ | refine k_ret ?_ | refine k_exit ?_ | refine k_skip ?_ | refine Zs ?_))
          exact ret_1 rfl rfl ⟨false, rfl, .inr ⟨rfl, by rw [hadI, if_pos (.inr (by omega))]⟩, kk5⟩
        rw [if_neg (by omega)] at hadI
        obtain ⟨i0, hi0⟩ : ∃ i0 : Ins, i0 = ⟨op, (zs ++ [0, 0]).getD 0 0, (zs ++ [0, 0]).getD 1 0⟩ := ⟨_, rfl⟩
        rw [← hi0] at hadI
        have own5 := own_kp own4 k5 (fun _ _ => id)
        have z5 := k5.size
        (repeat (first | refine k_nil ?_ | refine k_n ?_ | refine k_r ?_ | refine k_x ?_ | refine b_n ?_ | refine b_r ?_ | refine b_y rfl ?_ | refine b_z rfl ?_ | refine l_r ?_ | refine l_x ?_ | refine k_seq ?_ | refine k_blk ?_ | refine k_reg ?_ | refine k_ret ?_ | refine k_exit ?_ | refine k_skip ?_ | refine Zs ?_))
        refine s_bs (cs := [.int .i64 0, .int .i64 0]) (e := 3) rfl (fun b6 w6 n6 => ?_)
        have own6 := own_kp own5 n6.kp (fun _ _ => id)
        have z6 := n6.kp.size
        refine s_app (size := 1) (bytes := 8) (base := w3.heap.size) (news := [.int .i64 0, .int .i64 0]) rfl rfl rfl rfl rfl rfl rfl rfl own6 rfl (blk_cells n6.blk) rfl rfl (by omega) (by omega) (by omega) ?_
        rintro v7 w7 ⟨own7, k7, _, _⟩
        have hO7 : ∀ q, (Value.slice a' zs.length c').ownBlock = some q → w3.heap.size ≤ q := fun q e => (own_lt own6 e).1
        obtain ⟨a7, c7, rfl, hc7, hn7, hr7⟩ := own_read own7
        have ha7 : a7 ≠ none := fun e => by have := hn7 e; omega
        obtain ⟨ad7, rfl⟩ := Option.ne_none_iff_exists'.1 ha7
        obtain ⟨gn, rfl, hgn, hgnl, hcells⟩ := hr7 ad7 rfl
        have hmz : zs.map (Value.int .i64) ++ [Value.int .i64 0, .int .i64 0] = (zs ++ [0, 0]).map (Value.int .i64) := by rw [List.map_append]; rfl
        have hcl : ∀ j : Nat, j < 2 → w7.cell? ⟨gn, 0 + (j : Int).toNat * 1, none⟩ = some (.int .i64 ((zs ++ [0, 0]).getD j 0)) := fun j hj => by
          have hjl : j < (zs ++ [0, 0]).length := by rw [List.length_append]; simp; omega
          have := hcells j (.int .i64 ((zs ++ [0, 0]).getD j 0)) (by rw [hmz, List.getElem?_map, List.getD_eq_getElem?_getD, List.getElem?_eq_getElem hjl]; rfl)
          rw [Int.toNat_natCast, Nat.mul_one]; exact this
        have hc0' : w7.cell? ⟨gn, 0 + (0 : Int).toNat * 1, none⟩ = some (.int .i64 i0.arg) := by rw [hi0]; exact hcl 0 (by omega)
        have hc1' : w7.cell? ⟨gn, 0 + (1 : Int).toNat * 1, none⟩ = some (.int .i64 i0.more) := by rw [hi0]; exact hcl 1 (by omega)
        have hop' : (op : Int) = i0.op := by rw [hi0]
        have hIg : ∀ k, I64 ((zs ++ [0, 0]).getD k 0) := fun k => by
          rw [List.getD_eq_getElem?_getD]
          cases hg : (zs ++ [0, 0])[k]? with
          | none => exact ⟨by decide, by decide⟩
          | some z =>
            have := List.mem_of_getElem? hg
            rcases List.mem_append.1 this with h | h
            · exact hzI z h
            · have : z = 0 := by simpa using h
              subst this; exact ⟨by decide, by decide⟩
        have hIa : I64 i0.arg := by rw [hi0]; exact hIg 0
        have hIm : I64 i0.more := by rw [hi0]; exact hIg 1
        -- worlds: w3 → w7 changes nothing below w3's size
        have z3w := kw3.size
        have k37 : Kp No w3 w7 := (((k4.no k5).no n6.kp).trans k7 (fun q hq e => by have := hO7 q e.symm; omega))
        have hblk7 := k37.get0 hblk3
        have ownp7 := own_kp ownp3 k37 (fun _ _ => id)
        have owni7 := own_kp owni3 k37 (fun _ _ => id)
        have e57 := k37.get0 e5
        have hR7 := hR3.kp0 k37
        have z7 := k37.size
        have hl2 : (zs.length + 2 : Nat) ≥ 2 := by omega
        rw [hop']
        (repeat (first | refine k_nil ?_ | refine k_n ?_ | refine k_r ?_ | refine k_x ?_ | refine b_n ?_ | refine b_r ?_ | refine b_y rfl ?_ | refine b_z rfl ?_ | refine l_r ?_ | refine l_x ?_ | refine k_seq ?_ | refine k_blk ?_ | refine k_reg ?_ | refine k_ret ?_ | refine k_exit ?_ | refine k_skip ?_ | refine Zs ?_))
        refine k_h (fun w' => Kp No w7 w') [(0, false), (1, false), (2, false), (3, false), (4, false), (5, false), (6, false), (7, false), (8, true), (9, true)] 9 (by kernel_rfl) (by exact waits_of_last (by kernel_rfl)) (by kernel_rfl) (by kernel_rfl) rfl rfl (fun m1 k1m _ => ?_)
        refine h_v k1m (fun w' hw => r_mv rfl) ?_
        refine h_v k1m (fun w' hw => r_mv rfl) ?_
        refine h_v k1m (fun w' hw => r_ia (i := 0) rfl rfl rfl rfl (by omega) (by omega)) ?_
        refine h_v k1m (fun w' hw => r_ld rfl rfl (hw.cell0 hc0')) ?_
        refine h_v k1m (fun w' hw => r_mv rfl) ?_
        refine h_v k1m (fun w' hw => r_ia (i := 1) rfl rfl rfl rfl (by omega) (by omega)) ?_
        refine h_v k1m (fun w' hw => r_ld rfl rfl (hw.cell0 hc1')) ?_
        refine h_v k1m (fun w' hw => r_bd rfl) ?_
        refine h_al rfl (fun b11 m2 n11 => ⟨fun _ => k1m.no n11.kp, ?_⟩)
        have g11 := n11.ge
        refine h_st (vs := ic i0) rfl rfl rfl rfl rfl n11.blk (Nat.le_of_ble_eq_true rfl) (fun m3 s3m => ⟨fun h => absurd rfl h, ?_⟩)
        have z1m := k1m.size
        have k73 : Kp No w7 m3 := (k1m.no n11.kp).trans s3m.kp (fun q hq e => by have e : q = b11 := e; omega)
        have e11 : m3.heap[b11]? = some (.cells [Value.int .i64 i0.op, .int .i64 i0.arg, .int .i64 i0.more].toArray 34 (0, 0)) := s3m.blk
        refine h_nil ?_
        have kS3 := k37.no k73
        have hblk8 := k73.get0 hblk7
        have ownp8 := own_kp ownp7 k73 (fun _ _ => id)
        have owni8 := own_kp owni7 k73 (fun _ _ => id)
        have e58 := k73.get0 e57
        have hR8 := hR7.kp0 k73
        have hO : ∀ q, (Value.slice al c.is.length cl).ownBlock = some q → base ≤ q ∧ q < w.heap.size := fun q e => own_lt owni e
        have z73 := k73.size
        (repeat (first | refine k_nil ?_ | refine k_n ?_ | refine k_r ?_ | refine k_x ?_ | refine b_n ?_ | refine b_r ?_ | refine b_y rfl ?_ | refine b_z rfl ?_ | refine l_r ?_ | refine l_x ?_ | refine k_seq ?_ | refine k_blk ?_ | refine k_reg ?_ | refine k_ret ?_ | refine k_exit ?_ | refine k_skip ?_ | refine Zs ?_))
        refine k_h (fun w' => Kp (fun k => some k = (Value.slice al c.is.length cl).ownBlock) m3 w') [(0, false), (1, false), (2, false), (3, false), (4, false), (5, false), (6, true), (7, true), (8, false), (9, false), (10, true)] 10 (by kernel_rfl) (by exact waits_of_last (by kernel_rfl)) (by kernel_rfl) (by kernel_rfl) rfl rfl (fun m4 k4m _ => ?_)
        have kS : Kp (fun k => some k = (Value.slice al c.is.length cl).ownBlock) m3 m4 := k4m.mono fun _ _ h => False.elim h
        refine h_v kS (fun w' hw => r_mv rfl) ?_
        refine h_v kS (fun w' hw => r_mv rfl) ?_
        refine h_v kS (fun w' hw => r_nc rfl) ?_
        refine h_v kS (fun w' hw => r_fa rfl rfl) ?_
        refine h_v kS (fun w' hw => r_ld rfl rfl (cell_of_blk (hw.get hblk8 (fun e => by have := hO b e.symm; omega)) rfl)) ?_
        refine h_v kS (fun w' hw => r_ldb (vs := ic i0) rfl rfl rfl (hw.get e11 (fun e => by have := hO b11 e.symm; omega)) rfl rfl) ?_
        refine h_bs (cs := ic i0) (e := 34) rfl (fun b12 m5 n12 => ⟨fun _ => kS.no n12.kp, ?_⟩)
        have owni9 := own_kp (own_kp owni8 k4m (fun _ _ => id)) n12.kp (fun _ _ => id)
        have z12 := n12.kp.size
        have z4m := k4m.size
        refine h_app (size := 3) (bytes := 24) (base := base) (news := ic i0) rfl rfl rfl rfl rfl rfl rfl rfl owni9 rfl (blk_cells n12.blk) rfl rfl (by omega) (by omega) (by omega) ?_
        intro v9 m6 a9
        have ka := a9.kp
        have k36 : Kp (fun k => some k = (Value.slice al c.is.length cl).ownBlock) m3 m6 := (kS.no n12.kp).trans ka (fun _ _ h => h)
        refine ⟨fun _ => k36, ?_⟩
        obtain ⟨own9, _, _, row9⟩ := a9
        obtain ⟨a9', c9, rfl, hc9, ha9, hrd9⟩ := own_read own9
        have hblk9 := k36.get hblk8 (fun e => by have := hO b e.symm; omega)
        refine h_v k36 (fun w' hw => r_nc rfl) ?_
        refine h_v k36 (fun w' hw => r_fa rfl rfl) ?_
        refine h_st rfl rfl rfl rfl rfl hblk9 (Nat.le_of_ble_eq_true rfl) (fun m7 s7 => ⟨fun h => absurd rfl h, ?_⟩)
        refine h_nil ?_
        have ownp9 : m6.ownsRow base 32 6 (.slice ap c.ps.length cp) c.ps.length (c.ps.flatMap pc) := own_kp ownp8 k36 (fun q hq e => hne q hq e.symm)
        have kk7 : Kp (fun k => k = b ∨ base ≤ k) w m7 := ((kk3.no kS3).trans k36 (fun q hq e => .inr (hO q e.symm).1)).trans s7.kp (fun q _ e => .inl e)
        have k37' : Kp (fun k => k = b ∨ some k = (Value.slice al c.is.length cl).ownBlock) m3 m7 := (k36.mono (fun _ _ e => .inr e)).trans s7.kp (fun q _ e => .inl e)
        have kw7 : Kp No w0 m7 := k0.trans kk7 (fun q hq e => by omega)
        have nb : ∀ {q}, w.heap.size ≤ q → ¬ (q = b ∨ some q = (Value.slice al c.is.length cl).ownBlock) := fun {q} hq e => by
          rcases e with e | e
          · omega
          · have := hO q e.symm; omega
        have e11' := k37'.get e11 (nb (by omega))
        have e59 := k37'.get e58 (nb (by omega))
        have hR9 : RS m7 (some ⟨g, 0, none⟩) (h :: r) := RS.blk (k37'.get (k73.get0 (k37.get0 hrow3)) (nb (by omega)))
        have hCV : CV base b ⟨c.ps, c.is ++ [i0]⟩ m7 := by
          have hl : (c.is ++ [i0]).length = c.is.length + 1 := by simp
          refine ⟨hlt, ap, cp, a9', c9, ?_, ?_, ?_, ?_⟩
          · simp only [hl]; exact s7.blk
          · exact own_kp ownp9 s7.kp (fun q hq e => by have := (own_lt ownp9 hq).1; have e : q = b := e; omega)
          · simp only [hl, List.flatMap_append]
            exact own_kp own9 s7.kp (fun q hq e => by have := (own_lt own9 hq).1; have e : q = b := e; omega)
          · simp only [hl]
            intro q hq hq2
            rcases row9 q hq2 with h0 | h0
            · exact hne q hq h0
            · have := (own_lt ownp hq).2; omega
        have hl0 : 0 ≤ i0.op ∧ i0.op ≤ 29 := by rw [← hop']; omega
        have hfB : ∀ p ∈ fld i0, InB p := fld_inB i0 hl0
        have hfl3 : (fld i0).length ≤ 3 := by unfold fld; split <;> split <;> simp
        (repeat (first | refine k_nil ?_ | refine k_n ?_ | refine k_r ?_ | refine k_x ?_ | refine b_n ?_ | refine b_r ?_ | refine b_y rfl ?_ | refine b_z rfl ?_ | refine l_r ?_ | refine l_x ?_ | refine k_seq ?_ | refine k_blk ?_ | refine k_reg ?_ | refine k_ret ?_ | refine k_exit ?_ | refine k_skip ?_ | refine Zs ?_))
        refine k_h (fun w' => Kp No m7 w') [(0, false), (2, false), (1, true), (3, true), (4, false)] 5 (by kernel_rfl) (by exact waits_none) (by kernel_rfl) (by kernel_rfl) rfl rfl (fun m8 k8m _ => ?_)
        refine h_v k8m (fun w' hw => r_ldb (vs := ic i0) rfl rfl rfl (hw.get0 e11') rfl rfl) ?_
        refine h_v k8m (fun w' hw => r_ld rfl rfl (cell_of_blk (hw.get0 e59) rfl)) ?_
        refine h_call (us := []) (zs := []) (by kernel_rfl) rfl rfl (fields i0 m8 (hsh0.kp (kw7.no k8m)) (hgl0.kp (kw7.no k8m)) hl0.1 hl0.2 hIa hIm) ?_
        rintro _ m9 ⟨k9m, af, cf, rfl, ownf⟩
        refine ⟨fun _ => k8m.no k9m, ?_⟩
        have k89 := k8m.no k9m
        refine h_call (us := []) (zs := []) (by kernel_rfl) rfl rfl (equalS (fld i0) (h :: r) af (some ⟨g, 0, none⟩) cf (r.length + 1) m9 (RS.of ownf) (hR9.kp0 k89) hfB hinB (by omega) (by rw [hrl]; omega)) ?_
        rintro _ m10 ⟨rfl, k10m⟩
        refine ⟨fun _ => k89.no k10m, ?_⟩
        have k810 := k89.no k10m
        refine h_v k810 (fun w' hw => r_as rfl) ?_
        refine h_nil ?_
        (repeat (first | refine k_nil ?_ | refine k_n ?_ | refine k_r ?_ | refine k_x ?_ | refine b_n ?_ | refine b_r ?_ | refine b_y rfl ?_ | refine b_z rfl ?_ | refine l_r ?_ | refine l_x ?_ | refine k_seq ?_ | refine k_blk ?_ | refine k_reg ?_ | refine k_ret ?_ | refine k_exit ?_ | refine k_skip ?_ | refine Zs ?_))
        refine ret_1 rfl rfl ⟨_, rfl, ?_, kk7.no k810⟩
        rw [hadI]
        by_cases hfe : fld i0 = h :: r
        · exact .inl ⟨decide_eq_true hfe, _, by rw [if_pos hfe], hCV.kp k810⟩
        · exact .inr ⟨decide_eq_false hfe, by rw [if_neg hfe]⟩
    · have hnone : addI c h r = none := by
        unfold addI
        rw [nms_none hpb hpn]
      (repeat (first | refine k_nil ?_ | refine k_n ?_ | refine k_r ?_ | refine k_x ?_ | refine b_n ?_ | refine b_r ?_ | refine b_y rfl ?_ | refine b_z rfl ?_ | refine l_r ?_ | refine l_x ?_ | refine k_seq ?_ | refine k_blk ?_ | refine k_reg ?_ | refine k_ret ?_ | refine k_exit ?_ | refine k_skip ?_ | refine Zs ?_))
      refine s_v (r_slax (a' := some ⟨0, 0, none⟩) (n' := 30) (c' := 30) rfl rfl rfl rfl rfl (by omega) (by omega) (by omega) subA_0 rfl rfl) ?_
      (repeat (first | refine k_nil ?_ | refine k_n ?_ | refine k_r ?_ | refine k_x ?_ | refine b_n ?_ | refine b_r ?_ | refine b_y rfl ?_ | refine b_z rfl ?_ | refine l_r ?_ | refine l_x ?_ | refine k_seq ?_ | refine k_blk ?_ | refine k_reg ?_ | refine k_ret ?_ | refine k_exit ?_ | refine k_skip ?_ | refine Zs ?_))
      refine s_call (us := []) (zs := []) (by kernel_rfl) rfl rfl (idxS b5 (some ⟨g, 0, none⟩) (r.length + 1) (r.length + 1) h r w4 (hsh.kp kw4) e54 rfl hR4 hh) ?_
      rintro _ w5 ⟨rfl, k5⟩
      (repeat (first | refine k_nil ?_ | refine k_n ?_ | refine k_r ?_ | refine k_x ?_ | refine b_n ?_ | refine b_r ?_ | refine b_y rfl ?_ | refine b_z rfl ?_ | refine l_r ?_ | refine l_x ?_ | refine k_seq ?_ | refine k_blk ?_ | refine k_reg ?_ | refine k_ret ?_ | refine k_exit ?_ | refine k_skip ?_ | refine Zs ?_))
      (repeat (first | refine k_nil ?_ | refine k_n ?_ | refine k_r ?_ | refine k_x ?_ | refine b_n ?_ | refine b_r ?_ | refine b_y rfl ?_ | refine b_z rfl ?_ | refine l_r ?_ | refine l_x ?_ | refine k_seq ?_ | refine k_blk ?_ | refine k_reg ?_ | refine k_ret ?_ | refine k_exit ?_ | refine k_skip ?_ | refine Zs ?_ | refine Zn ?_ | refine Zu ?_ | refine Zg ?_))
      refine c_t rfl ?_
      (repeat (first | refine k_nil ?_ | refine k_n ?_ | refine k_r ?_ | refine k_x ?_ | refine b_n ?_ | refine b_r ?_ | refine b_y rfl ?_ | refine b_z rfl ?_ | refine l_r ?_ | refine l_x ?_ | refine k_seq ?_ | refine k_blk ?_ | refine k_reg ?_ | refine k_ret ?_ | refine k_exit ?_ | refine k_skip ?_ | refine Zs ?_))
      exact ret_1 rfl rfl ⟨false, rfl, .inr ⟨rfl, hnone⟩, (kk3.no k4).no k5⟩
end Cd
end Go.Proofs.YtpamkidcmjfieaaDoor
