/- Code: Print. -/
import Derived.Test.YtpamkidcmjfieaaGreatDoorBw
import Derived.Test.YtpamkidcmjfieaaGreatDoorCy
import Derived.Test.YtpamkidcmjfieaaGreatDoorCa
namespace Go.Proofs.YtpamkidcmjfieaaGreatDoor
open Go Go.RowKit Fw Nu
set_option linter.unusedVariables false
set_option maxRecDepth 20000
namespace Cd
theorem join_jnc (xs : List (List UInt8)) (c : UInt8) : (Lib.join xs [c]).map (fun b => (b.toNat : Int)) = Sp.jnc (c.toNat : Int) (xs.map fun x => x.map fun b => (b.toNat : Int)) := by
  induction xs with
  | nil => rfl
  | cons x r ih =>
    cases r with
    | nil => rw [Lib.join_one]; rfl
    | cons y r =>
      have e : Lib.join (x :: y :: r) [c] = x ++ c :: Lib.join (y :: r) [c] := by
        rw [Lib.join_cons, Lib.join_cons]; simp [Lib.joinTail]
      rw [e, List.map_append, List.map_cons, ih]
      rfl
theorem Join (xs : List ByteArray) (c : UInt8) (bk o cap : Nat) (w : World) (hcells : ∀ (j : Nat) x, xs[j]? = some x → w.cell? ⟨bk, o + j, none⟩ = some (.string x)) (hbk : bk < w.heap.size) (hN : xs.length ≤ 100000) (hcap : xs.length ≤ cap)
    (hlen : (Sp.jnc (c.toNat : Int) (xs.map B)).length ≤ 140737488355328) :
    Ret Tryz.prog 47 [.slice (some ⟨bk, o, none⟩) xs.length cap, .string ⟨#[c]⟩] w fun v w1 => (∃ s, v = .string s ∧ B s = Sp.jnc (c.toNat : Int) (xs.map B)) ∧ Kp No w w1 := by
  have e : (Lib.join (xs.map (·.data.toList)) [c]).map (fun b => (b.toNat : Int)) = Sp.jnc (c.toNat : Int) (xs.map B) := by
    rw [join_jnc, List.map_map]; rfl
  refine Calls.mono (Tryz.strings_Join bk o cap xs ⟨#[c]⟩ w hcells hbk (by omega) hcap (by
    have := congrArg List.length e
    rw [List.length_map] at this
    show (Lib.join (xs.map (·.data.toList)) [c]).length ≤ _
    omega)) ?_
  rintro e' w1 ⟨rfl, hb⟩
  refine ⟨_, rfl, ⟨_, rfl, ?_⟩, Kp.of_below hb⟩
  rw [← e]; simp [B]
theorem lineF (ls : List (List Int)) (a : Option Addr) (cp : Nat) (w : World) (h : RS w a ls) (hne : ls ≠ []) (hb : ∀ p ∈ ls, InB p) (hl : ls.length ≤ 1000) (hcp : ls.length ≤ cp) (ht : (Sp.jnc 32 ls).length ≤ 1000000) :
    Ret Tryz.prog 23 [.slice a ls.length cp] w fun v w1 => Kp No w w1 ∧ ∃ s, v = .string s ∧ B s = Sp.jnc 32 ls ++ [10] := by
  refine ret_enter Tryz.func23 rfl Tryz.ntmps23 rfl ?_
  rcases h with e | ⟨b, o, rfl, hlt, hc⟩
  · exact (hne e).elim
  have hmap : (ls.map strOfNums).map B = ls := by
    rw [List.map_map]
    conv => rhs; rw [← List.map_id ls]
    exact List.map_congr_left fun p hp => B_str (hb p hp)
  have hlen : (ls.map strOfNums).length = ls.length := List.length_map _
  have hJ := Join (ls.map strOfNums) 32 b o cp w (fun j x hx => by
    rw [List.getElem?_map, Option.map_eq_some_iff] at hx
    obtain ⟨p, hp, rfl⟩ := hx
    exact hc j p hp) hlt (by omega) (by omega) (by rw [hmap]; show (Sp.jnc 32 ls).length ≤ _; omega)
  rw [hmap, hlen] at hJ
  (repeat (first | refine k_nil ?_ | refine k_n ?_ | refine k_r ?_ | refine k_x ?_ | refine b_n ?_ | refine b_r ?_ | refine b_y rfl ?_ | refine b_z rfl ?_ | refine l_r ?_ | refine l_x ?_ | refine k_seq ?_ | refine k_blk ?_ | refine k_reg ?_ | refine k_ret ?_ | refine k_exit ?_ | refine k_skip ?_ | refine Zs ?_))
  refine s_call (us := []) (zs := []) (by kernel_rfl) rfl rfl hJ ?_
  rintro _ w1 ⟨⟨s, rfl, hs⟩, k1⟩
  have hs' : B s = Sp.jnc 32 ls := hs
  have hsz : s.size ≤ 1000000 := by rw [← B_len, hs']; exact ht
  have h1 : (ByteArray.mk #[10]).size = 1 := rfl
  (repeat (first | refine k_nil ?_ | refine k_n ?_ | refine k_r ?_ | refine k_x ?_ | refine b_n ?_ | refine b_r ?_ | refine b_y rfl ?_ | refine b_z rfl ?_ | refine l_r ?_ | refine l_x ?_ | refine k_seq ?_ | refine k_blk ?_ | refine k_reg ?_ | refine k_ret ?_ | refine k_exit ?_ | refine k_skip ?_ | refine Zs ?_))
  refine s_v (r_cat rfl rfl (by rw [h1]; omega)) ?_
  (repeat (first | refine k_nil ?_ | refine k_n ?_ | refine k_r ?_ | refine k_x ?_ | refine b_n ?_ | refine b_r ?_ | refine b_y rfl ?_ | refine b_z rfl ?_ | refine l_r ?_ | refine l_x ?_ | refine k_seq ?_ | refine k_blk ?_ | refine k_reg ?_ | refine k_ret ?_ | refine k_exit ?_ | refine k_skip ?_ | refine Zs ?_))
  refine ret_1 rfl rfl ⟨k1, _, rfl, ?_⟩
  rw [B_append, hs']
  rfl
theorem pfields (p : Prc) (w : World) (hg : Lb.Glob w) (hi : I64 p.pa ∧ I64 p.sl ∧ I64 p.ty) :
    Ret Tryz.prog 24 [.agg (pc p).toArray] w fun v w1 => Kp No w w1 ∧ ∃ g, v = .slice (some ⟨g, 0, none⟩) 5 5 ∧ RS w1 (some ⟨g, 0, none⟩) [procL, B p.nm, dc p.pa, dc p.sl, dc p.ty] := by
  refine ret_enter Tryz.func24 rfl Tryz.ntmps24 rfl ?_
  (repeat (first | refine k_nil ?_ | refine k_n ?_ | refine k_r ?_ | refine k_x ?_ | refine b_n ?_ | refine b_r ?_ | refine b_y rfl ?_ | refine b_z rfl ?_ | refine l_r ?_ | refine l_x ?_ | refine k_seq ?_ | refine k_blk ?_ | refine k_reg ?_ | refine k_ret ?_ | refine k_exit ?_ | refine k_skip ?_ | refine Zs ?_))
  refine s_box (cs := pc p) rfl rfl (fun b1 w1 n1 => ?_)
  have e1 : w1.heap[b1]? = some (.cells [Value.string p.nm, .int .i64 p.fr, .int .i64 p.to, .int .i64 p.pa, .int .i64 p.sl, .int .i64 p.ty].toArray 54 (0, 0)) := n1.blk
  (repeat (first | refine k_nil ?_ | refine k_n ?_ | refine k_r ?_ | refine k_x ?_ | refine b_n ?_ | refine b_r ?_ | refine b_y rfl ?_ | refine b_z rfl ?_ | refine l_r ?_ | refine l_x ?_ | refine k_seq ?_ | refine k_blk ?_ | refine k_reg ?_ | refine k_ret ?_ | refine k_exit ?_ | refine k_skip ?_ | refine Zs ?_))
  refine k_h (fun w' => Kp No w1 w') [(0, false), (1, false), (2, false), (3, false), (5, false), (6, false), (8, false), (9, false), (4, true), (7, true), (10, true), (11, true), (12, false)] 13 (by kernel_rfl) (by exact waits_none) (by kernel_rfl) (by kernel_rfl) rfl rfl (fun m1 k1 _ => ?_)
  refine h_v k1 (fun w' hw => r_fa rfl rfl) ?_
  refine h_v k1 (fun w' hw => r_ld rfl rfl (cell_of_blk (hw.get0 e1) rfl)) ?_
  refine h_v k1 (fun w' hw => r_fa rfl rfl) ?_
  refine h_v k1 (fun w' hw => r_ld rfl rfl (cell_of_blk (hw.get0 e1) rfl)) ?_
  refine h_v k1 (fun w' hw => r_fa rfl rfl) ?_
  refine h_v k1 (fun w' hw => r_ld rfl rfl (cell_of_blk (hw.get0 e1) rfl)) ?_
  refine h_v k1 (fun w' hw => r_fa rfl rfl) ?_
  refine h_v k1 (fun w' hw => r_ld rfl rfl (cell_of_blk (hw.get0 e1) rfl)) ?_
  refine h_call (us := []) (zs := []) (by kernel_rfl) rfl rfl (Lb.Itoa p.pa m1 (hg.kp (n1.kp.no k1)) hi.1) ?_
  rintro _ m2 ⟨⟨s1, rfl, h1⟩, k2⟩
  refine ⟨fun _ => k1.no k2, ?_⟩
  refine h_call (us := []) (zs := []) (by kernel_rfl) rfl rfl (Lb.Itoa p.sl m2 (hg.kp ((n1.kp.no k1).no k2)) hi.2.1) ?_
  rintro _ m3 ⟨⟨s2, rfl, h2⟩, k3⟩
  refine ⟨fun _ => (k1.no k2).no k3, ?_⟩
  refine h_call (us := []) (zs := []) (by kernel_rfl) rfl rfl (Lb.Itoa p.ty m3 (hg.kp (((n1.kp.no k1).no k2).no k3)) hi.2.2) ?_
  rintro _ m4 ⟨⟨s3, rfl, h3⟩, k4⟩
  have kk := (((k1.no k2).no k3).no k4)
  refine ⟨fun _ => kk, ?_⟩
  refine h_bs (cs := [.string (strOfNums procL), .string p.nm, .string s1, .string s2, .string s3]) (e := 9) rfl (fun b5 m5 n5 => ⟨fun _ => kk.no n5.kp, ?_⟩)
  refine h_v (kk.no n5.kp) (fun w' hw => r_as rfl) ?_
  refine h_nil ?_
  (repeat (first | refine k_nil ?_ | refine k_n ?_ | refine k_r ?_ | refine k_x ?_ | refine b_n ?_ | refine b_r ?_ | refine b_y rfl ?_ | refine b_z rfl ?_ | refine l_r ?_ | refine l_x ?_ | refine k_seq ?_ | refine k_blk ?_ | refine k_reg ?_ | refine k_ret ?_ | refine k_exit ?_ | refine k_skip ?_ | refine Zs ?_))
  refine ret_1 rfl rfl ⟨(n1.kp.no kk).no n5.kp, b5, rfl, ?_⟩
  refine RS.blk (T := 9) ?_
  have : ([procL, B p.nm, dc p.pa, dc p.sl, dc p.ty] : List (List Int)).map sv = [.string (strOfNums procL), .string p.nm, .string s1, .string s2, .string s3] := by
    rw [← h1, ← h2, ← h3]
    simp only [List.map_cons, List.map_nil, sv, nums_B]
  rw [this]
  exact n5.blk
theorem pre_txt {c : Cde} {j : Nat} {p : Prc} (h : c.ps[j]? = some p) : ∃ R, txt c = unl ((c.ps.take j).flatMap fun p => procLn p :: (part c p).map insLn) ++ (unl (procLn p :: (part c p).map insLn) ++ R) := by
  obtain ⟨hlt, he⟩ := List.getElem?_eq_some_iff.1 h
  refine ⟨unl ((c.ps.drop (j + 1)).flatMap fun p => procLn p :: (part c p).map insLn), ?_⟩
  rw [← unl_append, ← unl_append]
  unfold txt lns
  congr 1
  conv => lhs; rw [← List.take_append_drop j c.ps]
  rw [List.flatMap_append, List.drop_eq_getElem_cons hlt, he, List.flatMap_cons]
theorem jnc_inB {ws : List (List Int)} (h : ∀ w ∈ ws, InB w) : InB (Sp.jnc 32 ws) := by
  induction ws with
  | nil => intro c hc; cases hc
  | cons w r ih =>
    intro c hc
    cases r with
    | nil => exact h w (by simp) c hc
    | cons v r =>
      rw [Sp.jnc_cons 32 w (by simp)] at hc
      rcases List.mem_append.1 hc with hc | hc
      · exact h w (by simp) c hc
      · rcases List.mem_cons.1 hc with rfl | hc
        · decide
        · exact ih (fun x hx => h x (List.mem_cons_of_mem _ hx)) c hc
theorem procF_inB (p : Prc) : ∀ q ∈ [procL, B p.nm, dc p.pa, dc p.sl, dc p.ty], InB q := fun q hq => by
  simp only [List.mem_cons, List.not_mem_nil, or_false] at hq
  rcases hq with rfl | rfl | rfl | rfl | rfl
  · unfold InB procL; decide
  · exact inB_B _
  · exact dc_inB _
  · exact dc_inB _
  · exact dc_inB _
theorem txt_inB {c : Cde} (hf : form c) : InB (txt c) := by
  intro x hx
  unfold txt unl at hx
  rw [List.mem_flatMap] at hx
  obtain ⟨l, hl, hx⟩ := hx
  rcases List.mem_append.1 hx with hx | hx
  · unfold lns at hl
    rw [List.mem_flatMap] at hl
    obtain ⟨p, hp, hl⟩ := hl
    rcases List.mem_cons.1 hl with rfl | hl
    · exact jnc_inB (procF_inB p) x hx
    · rw [List.mem_map] at hl
      obtain ⟨i, hi, rfl⟩ := hl
      exact jnc_inB (fld_inB i (by have := (hf.2.1 p hp i hi).1; omega)) x hx
  · rw [List.mem_singleton] at hx; subst hx; decide
theorem own_X {base : Nat} {X : Nat → Prop} {b : Nat} {bs : List Value} {w w' : World} (h : Bu.Bd base No b bs w) (k : Kp No w w') (hX : ∀ g, base ≤ g → g < w.heap.size → ¬ X g) : Bu.Bd base X b bs w' :=
  h.kp k (fun g h1 h2 _ => hX g h1 h2)
set_option maxHeartbeats 4000000 in
theorem PrintF (c : Cde) (ap al : Option Addr) (cp cl : Nat) (w : World) (hg : Tk.Glob w) (hgl : Lb.Glob w) (hs : Shp w) (hp : RP w ap c.ps) (hi : RI w al c.is) (hn : c.ps.length ≤ 1000000) (hm : c.is.length ≤ 400000) (hcp : c.ps.length ≤ cp) (hcl : c.is.length ≤ cl) (hz : ∀ p ∈ c.ps, p.nm.size ≤ 1000000)
    (hw : WN c) (ht : Gd c → (txt c).length ≤ 900000) :
    Ret Tryz.prog 12 [.agg #[.slice ap c.ps.length cp, .slice al c.is.length cl]] w fun v w1 => Kp No w w1 ∧ ∃ s, v = .string s ∧ ((¬ Gd c ∧ s.size = 0) ∨ (Gd c ∧ B s = txt c)) := by
  refine ret_enter Tryz.func12 rfl Tryz.ntmps12 rfl ?_
  (repeat (first | refine k_nil ?_ | refine k_n ?_ | refine k_r ?_ | refine k_x ?_ | refine b_n ?_ | refine b_r ?_ | refine b_y rfl ?_ | refine b_z rfl ?_ | refine l_r ?_ | refine l_x ?_ | refine k_seq ?_ | refine k_blk ?_ | refine k_reg ?_ | refine k_ret ?_ | refine k_exit ?_ | refine k_skip ?_ | refine Zs ?_))
  refine s_box (cs := [.slice ap c.ps.length cp, .slice al c.is.length cl]) rfl rfl (fun b1 w1 n1 => ?_)
  have e1 := n1.blk
  have kw1 := n1.kp
  (repeat (first | refine k_nil ?_ | refine k_n ?_ | refine k_r ?_ | refine k_x ?_ | refine b_n ?_ | refine b_r ?_ | refine b_y rfl ?_ | refine b_z rfl ?_ | refine l_r ?_ | refine l_x ?_ | refine k_seq ?_ | refine k_blk ?_ | refine k_reg ?_ | refine k_ret ?_ | refine k_exit ?_ | refine k_skip ?_ | refine Zs ?_))
  refine s_v (r_ldb (vs := [.slice ap c.ps.length cp, .slice al c.is.length cl]) rfl rfl rfl e1 rfl rfl) ?_
  refine s_call (us := []) (zs := []) (by kernel_rfl) rfl rfl (GoodF c ap al cp cl w1 (hg.kp kw1) (hs.kp kw1) (hp.kp0 kw1) (hi.kp0 kw1) hn hm hcl hz) ?_
  rintro _ w2 ⟨k2, r, rfl, hr⟩
  have kw2 := kw1.no k2
  (repeat (first | refine k_nil ?_ | refine k_n ?_ | refine k_r ?_ | refine k_x ?_ | refine b_n ?_ | refine b_r ?_ | refine b_y rfl ?_ | refine b_z rfl ?_ | refine l_r ?_ | refine l_x ?_ | refine k_seq ?_ | refine k_blk ?_ | refine k_reg ?_ | refine k_ret ?_ | refine k_exit ?_ | refine k_skip ?_ | refine Zs ?_))
  cases r with
  | false =>
    refine c_t rfl ?_
    (repeat (first | refine k_nil ?_ | refine k_n ?_ | refine k_r ?_ | refine k_x ?_ | refine b_n ?_ | refine b_r ?_ | refine b_y rfl ?_ | refine b_z rfl ?_ | refine l_r ?_ | refine l_x ?_ | refine k_seq ?_ | refine k_blk ?_ | refine k_reg ?_ | refine k_ret ?_ | refine k_exit ?_ | refine k_skip ?_ | refine Zs ?_))
    exact ret_1 rfl rfl ⟨kw2, _, rfl, .inl ⟨fun h => (by have := hr.2 h; cases this), rfl⟩⟩
  | true =>
  have hgd := hr.1 rfl
  have hT := ht hgd
  have hf := hgd.1
  refine c_f rfl ?_
  (repeat (first | refine k_nil ?_ | refine k_n ?_ | refine k_r ?_ | refine k_x ?_ | refine b_n ?_ | refine b_r ?_ | refine b_y rfl ?_ | refine b_z rfl ?_ | refine l_r ?_ | refine l_x ?_ | refine k_seq ?_ | refine k_blk ?_ | refine k_reg ?_ | refine k_ret ?_ | refine k_exit ?_ | refine k_skip ?_ | refine Zs ?_))
  refine s_al (cs := [.pointer none, .slice none 0 0]) rfl (fun b w3 n3 => ?_)
  have g3 := n3.ge
  have kw3 := kw2.no n3.kp
  have e13 := n3.kp.get0 (k2.get0 e1)
  have zw := kw2.size
  obtain ⟨base, hbase⟩ : ∃ base, base = w3.heap.size := ⟨_, rfl⟩
  have hbb := n3.lt
  have hBd0 : Bu.Bd base No b ([] : List Value) w3 := ⟨by omega, .pointer none, none, 0, .inl rfl, n3.blk, World.ownsRow_nil _ _ _ _, by simp [Value.ownBlock], fun g hg => by simp [Value.ownBlock] at hg⟩
  have keep : ∀ {m : World}, Kp (fun k => k = b ∨ base ≤ k) w3 m → Kp No w m := fun km => kw3.trans km (fun q hq e => by omega)
  (repeat (first | refine k_nil ?_ | refine k_n ?_ | refine k_r ?_ | refine k_x ?_ | refine b_n ?_ | refine b_r ?_ | refine b_y rfl ?_ | refine b_z rfl ?_ | refine l_r ?_ | refine l_x ?_ | refine k_seq ?_ | refine k_blk ?_ | refine k_reg ?_ | refine k_ret ?_ | refine k_exit ?_ | refine k_skip ?_ | refine Zs ?_))
  refine k_loop (σ := Nat) (fun j => [(1, .pointer (some ⟨b1, 0, none⟩)), (3, .pointer (some ⟨b, 0, none⟩)), (12, .slice ap c.ps.length cp), (13, .int .i64 c.ps.length), (14, .int .i64 j)])
    (fun j m => j ≤ c.ps.length ∧ Kp (fun k => k = b ∨ base ≤ k) w3 m ∧ Bu.Bd base No b ((unl ((c.ps.take j).flatMap fun p => procLn p :: (part c p).map insLn)).map (Value.int .u8)) m) (fun j => c.ps.length - j) 0 ⟨rfl, rfl, rfl, rfl, rfl, trivial⟩ ⟨Nat.zero_le _, Kp.refl _ _, hBd0⟩ ?_
  rintro j l m ⟨hj, km, hBd⟩
  have zm := km.size
  (repeat (first | refine k_nil ?_ | refine k_n ?_ | refine k_r ?_ | refine k_x ?_ | refine b_n ?_ | refine b_r ?_ | refine b_y rfl ?_ | refine b_z rfl ?_ | refine l_r ?_ | refine l_x ?_ | refine k_seq ?_ | refine k_blk ?_ | refine k_reg ?_ | refine k_ret ?_ | refine k_exit ?_ | refine k_skip ?_ | refine Zs ?_))
  refine c_dec rfl (fun hlt => ?_) (fun hge => ?_)
  · obtain ⟨p, hx⟩ : ∃ p, c.ps[j]? = some p := ⟨_, List.getElem?_eq_getElem (by omega)⟩
    have hpm := List.mem_of_getElem? hx
    obtain ⟨f1, f2, f3⟩ := form_at hf hpm
    obtain ⟨R, hR⟩ := pre_txt hx
    have hRl := congrArg List.length hR
    rw [List.length_append, List.length_append] at hRl
    obtain ⟨pb, po, rfl, _, hc⟩ := (hp.kp0 (keep km)).at hx
    have hfp := (hf.1 j p hx)
    have e1m := km.get e13 (show ¬ (b1 = b ∨ base ≤ b1) by have := lt_of_get (k2.get0 e1); omega)
    (repeat (first | refine k_nil ?_ | refine k_n ?_ | refine k_r ?_ | refine k_x ?_ | refine b_n ?_ | refine b_r ?_ | refine b_y rfl ?_ | refine b_z rfl ?_ | refine l_r ?_ | refine l_x ?_ | refine k_seq ?_ | refine k_blk ?_ | refine k_reg ?_ | refine k_ret ?_ | refine k_exit ?_ | refine k_skip ?_ | refine Zs ?_))
    refine s_v (r_ia rfl rfl rfl rfl (by omega) (by omega)) ?_
    refine s_v (r_lda (vs := pc p) rfl rfl rfl rfl hc) ?_
    refine s_al rfl (fun b5 m1 n5 => ?_)
    have g5 := n5.ge
    refine s_st (vs := pc p) rfl rfl rfl rfl rfl n5.blk (Nat.le_of_ble_eq_true rfl) (fun m2 s2 => ?_)
    have k2m : Kp No m m2 := n5.kp.trans s2.kp (fun _ _ e => by omega)
    have e5 : m2.heap[b5]? = some (.cells [Value.string p.nm, .int .i64 p.fr, .int .i64 p.to, .int .i64 p.pa, .int .i64 p.sl, .int .i64 p.ty].toArray 54 (0, 0)) := s2.blk
    (repeat (first | refine k_nil ?_ | refine k_n ?_ | refine k_r ?_ | refine k_x ?_ | refine b_n ?_ | refine b_r ?_ | refine b_y rfl ?_ | refine b_z rfl ?_ | refine l_r ?_ | refine l_x ?_ | refine k_seq ?_ | refine k_blk ?_ | refine k_reg ?_ | refine k_ret ?_ | refine k_exit ?_ | refine k_skip ?_ | refine Zs ?_))
    refine s_v (r_ldb (vs := pc p) rfl rfl rfl e5 rfl rfl) ?_
    refine s_call (us := []) (zs := []) (by kernel_rfl) rfl rfl (pfields p m2 (hgl.kp ((keep km).no k2m)) (hw.1 p hpm)) ?_
    rintro _ m3 ⟨k3m, ga, rfl, hRS⟩
    have hnmB : InB (B p.nm) := inB_B _
    have hpl : (procLn p).length ≤ 900000 := by
      have : (unl (procLn p :: (part c p).map insLn)).length ≥ (procLn p).length := by
        rw [show unl (procLn p :: (part c p).map insLn) = (procLn p ++ [10]) ++ unl ((part c p).map insLn) from rfl, List.length_append, List.length_append]; omega
      omega
    refine s_call (us := []) (zs := []) (by kernel_rfl) rfl rfl (lineF [procL, B p.nm, dc p.pa, dc p.sl, dc p.ty] (some ⟨ga, 0, none⟩) 5 m3 hRS (by simp) (procF_inB p) (by simp) (by simp) (by have h : (procLn p).length ≤ 900000 := hpl; unfold procLn at h; omega)) ?_
    rintro _ m4 ⟨k4m, s4, rfl, hs4⟩
    have hs4 : B s4 = procLn p ++ [10] := hs4
    have hsz4 : s4.size ≤ 1000000 := by rw [← B_len, hs4, List.length_append]; simp; omega
    have k24 := k2m.no (k3m.no k4m)
    have hBd4 : Bu.Bd base (fun k => k < base ∨ k = b5) b _ m4 := own_X hBd k24 (fun g h1 h2 e => by omega)
    have z4 := k24.size
    refine s_call (us := []) (zs := []) (by kernel_rfl) rfl rfl (Bu.wstr base _ b _ s4 m4 hBd4 (by rw [List.length_map]; omega) hsz4 (by omega)) ?_
    rintro _ m5 ⟨hBd5, k5m⟩
    rw [Bu.strCells_B, ← List.map_append] at hBd5
    have k5 : Kp (fun k => k = b ∨ base ≤ k) m4 m5 := k5m.mono (fun q _ e => by
      rcases e with e | e
      · exact .inl e
      · exact .inr (by omega))
    have km5 : Kp (fun k => k = b ∨ base ≤ k) w3 m5 := (km.no k24).trans k5 (fun q _ e => e)
    have hb5 : ¬ (b5 = b ∨ ¬ (b5 < base ∨ b5 = b5)) := by omega
    have e55 := k5m.get ((k3m.no k4m).get0 e5) hb5
    have e15 := km5.get e13 (show ¬ (b1 = b ∨ base ≤ b1) by have := lt_of_get (k2.get0 e1); omega)
    have hi5 := hi.kp0 (keep km5)
    have hsub := RI.sub hi5 (f := p.fr.toNat) (t := p.to.toNat) (cl := cl) (by omega) (by omega) hcl
    have hplen : (part c p).length = p.to.toNat - p.fr.toNat := by unfold part; rw [List.length_drop, List.length_take]; omega
    have hsub : RI m5 (subA al p.fr.toNat cl 3) (part c p) := hsub
    (repeat (first | refine k_nil ?_ | refine k_n ?_ | refine k_r ?_ | refine k_x ?_ | refine b_n ?_ | refine b_r ?_ | refine b_y rfl ?_ | refine b_z rfl ?_ | refine l_r ?_ | refine l_x ?_ | refine k_seq ?_ | refine k_blk ?_ | refine k_reg ?_ | refine k_ret ?_ | refine k_exit ?_ | refine k_skip ?_ | refine Zs ?_))
    refine s_v (r_slx (a' := subA al p.fr.toNat cl 3) (n' := (part c p).length) (c' := cl - p.fr.toNat) rfl rfl rfl rfl rfl f1 (by omega) (by omega) (by omega) rfl hplen.symm rfl) ?_
    have z5 := km5.size
    have hX : ∀ k, k < base → k = b ∨ ¬ (base ≤ k) := fun k h => by omega
    have hunl : ∀ q, unl (procLn p :: ((part c p).take q).map insLn) ++ unl (((part c p).drop q).map insLn) = unl (procLn p :: (part c p).map insLn) := fun q => by
      rw [← unl_append, List.cons_append, ← List.map_append, List.take_append_drop]
    (repeat (first | refine k_nil ?_ | refine k_n ?_ | refine k_r ?_ | refine k_x ?_ | refine b_n ?_ | refine b_r ?_ | refine b_y rfl ?_ | refine b_z rfl ?_ | refine l_r ?_ | refine l_x ?_ | refine k_seq ?_ | refine k_blk ?_ | refine k_reg ?_ | refine k_ret ?_ | refine k_exit ?_ | refine k_skip ?_ | refine Zs ?_))
    refine k_loop (σ := Nat) (fun q => [(1, .pointer (some ⟨b1, 0, none⟩)), (3, .pointer (some ⟨b, 0, none⟩)), (12, .slice (some ⟨pb, po, none⟩) c.ps.length cp), (13, .int .i64 c.ps.length), (14, .int .i64 j), (28, .slice (subA al p.fr.toNat cl 3) (part c p).length (cl - p.fr.toNat)), (29, .int .i64 (part c p).length), (30, .int .i64 q)])
      (fun q m' => q ≤ (part c p).length ∧ Kp (fun k => k = b ∨ base ≤ k) w3 m' ∧ Bu.Bd base No b ((unl ((c.ps.take j).flatMap fun p => procLn p :: (part c p).map insLn) ++ unl (procLn p :: ((part c p).take q).map insLn)).map (Value.int .u8)) m') (fun q => (part c p).length - q) 0 ⟨rfl, rfl, rfl, rfl, rfl, rfl, rfl, rfl, trivial⟩ ⟨Nat.zero_le _, km5, ?_⟩ ?_
    · have e : unl (procLn p :: ((part c p).take 0).map insLn) = B s4 := by rw [hs4]; simp [unl]
      rw [e]; exact hBd5
    rintro q l2 m6 ⟨hq, km6, hBd6⟩
    have z6 := km6.size
    (repeat (first | refine k_nil ?_ | refine k_n ?_ | refine k_r ?_ | refine k_x ?_ | refine b_n ?_ | refine b_r ?_ | refine b_y rfl ?_ | refine b_z rfl ?_ | refine l_r ?_ | refine l_x ?_ | refine k_seq ?_ | refine k_blk ?_ | refine k_reg ?_ | refine k_ret ?_ | refine k_exit ?_ | refine k_skip ?_ | refine Zs ?_))
    refine c_dec rfl (fun hlt2 => ?_) (fun hge2 => ?_)
    · obtain ⟨i, hxi⟩ : ∃ i, (part c p)[q]? = some i := ⟨_, List.getElem?_eq_getElem (by omega)⟩
      have him := List.mem_of_getElem? hxi
      have hfi := hf.2.1 p hpm i him
      have hwi := hw.2 i (part_mem him)
      obtain ⟨ib, io, hia, _, hci⟩ := (RI.sub (hi.kp0 (keep km6)) (f := p.fr.toNat) (t := p.to.toNat) (cl := cl) (by omega) (by omega) hcl).at hxi
      rw [hia]
      (repeat (first | refine k_nil ?_ | refine k_n ?_ | refine k_r ?_ | refine k_x ?_ | refine b_n ?_ | refine b_r ?_ | refine b_y rfl ?_ | refine b_z rfl ?_ | refine l_r ?_ | refine l_x ?_ | refine k_seq ?_ | refine k_blk ?_ | refine k_reg ?_ | refine k_ret ?_ | refine k_exit ?_ | refine k_skip ?_ | refine Zs ?_))
      refine s_v (r_ia (i := q) rfl rfl rfl rfl (by omega) (by omega)) ?_
      refine s_v (r_lda (vs := ic i) rfl rfl rfl rfl hci) ?_
      refine s_al rfl (fun b7 m7 n7 => ?_)
      have g7 := n7.ge
      refine s_st (vs := ic i) rfl rfl rfl rfl rfl n7.blk (Nat.le_of_ble_eq_true rfl) (fun m8 s8 => ?_)
      have k68 : Kp No m6 m8 := n7.kp.trans s8.kp (fun _ _ e => by omega)
      have e7 : m8.heap[b7]? = some (.cells [Value.int .i64 i.op, .int .i64 i.arg, .int .i64 i.more].toArray 50 (0, 0)) := s8.blk
      (repeat (first | refine k_nil ?_ | refine k_n ?_ | refine k_r ?_ | refine k_x ?_ | refine b_n ?_ | refine b_r ?_ | refine b_y rfl ?_ | refine b_z rfl ?_ | refine l_r ?_ | refine l_x ?_ | refine k_seq ?_ | refine k_blk ?_ | refine k_reg ?_ | refine k_ret ?_ | refine k_exit ?_ | refine k_skip ?_ | refine Zs ?_))
      refine s_v (r_ldb (vs := ic i) rfl rfl rfl e7 rfl rfl) ?_
      refine s_call (us := []) (zs := []) (by kernel_rfl) rfl rfl (fields i m8 (hs.kp ((keep km6).no k68)) (hgl.kp ((keep km6).no k68)) (by have := hfi.1; omega) hfi.1.2 hwi.1 hwi.2) ?_
      rintro _ m9 ⟨k9, af, cf, rfl, ownf⟩
      have hfl3 : (fld i).length ≤ 3 := by unfold fld; split <;> split <;> simp
      obtain ⟨af', cf', hfe, hcf, _, _⟩ := own_read ownf
      simp only [Value.slice.injEq, true_and] at hfe
      obtain ⟨rfl, rfl⟩ := hfe
      have hil := insLn_length hfi.1 hwi
      refine s_call (us := []) (zs := []) (by kernel_rfl) rfl rfl (lineF (fld i) af cf m9 (RS.of ownf) (by simp [fld]) (fld_inB i (by have := hfi.1; omega)) (by omega) hcf (by have h : (insLn i).length ≤ 50 := hil; unfold insLn at h; omega)) ?_
      rintro _ m10 ⟨k10, s10, rfl, hs10⟩
      have hs10 : B s10 = insLn i ++ [10] := hs10
      have hsz10 : s10.size ≤ 1000000 := by rw [← B_len, hs10, List.length_append]; simp; omega
      have k610 := k68.no (k9.no k10)
      have hBd10 : Bu.Bd base (fun k => k < base) b _ m10 := own_X hBd6 k610 (fun g h1 h2 e => by omega)
      have hlq := congrArg List.length (hunl q)
      rw [List.length_append] at hlq
      have z10 := k610.size
      refine s_call (us := []) (zs := []) (by kernel_rfl) rfl rfl (Bu.wstr base _ b _ s10 m10 hBd10 (by rw [List.length_map, List.length_append]; omega) hsz10 (by omega)) ?_
      rintro _ m11 ⟨hBd11, k11⟩
      rw [Bu.strCells_B, ← List.map_append] at hBd11
      have k11' : Kp (fun k => k = b ∨ base ≤ k) m10 m11 := k11.mono (fun q _ e => by
        rcases e with e | e
        · exact .inl e
        · exact .inr (by omega))
      (repeat (first | refine k_nil ?_ | refine k_n ?_ | refine k_r ?_ | refine k_x ?_ | refine b_n ?_ | refine b_r ?_ | refine b_y rfl ?_ | refine b_z rfl ?_ | refine l_r ?_ | refine l_x ?_ | refine k_seq ?_ | refine k_blk ?_ | refine k_reg ?_ | refine k_ret ?_ | refine k_exit ?_ | refine k_skip ?_ | refine Zs ?_))
      rw [← hia]
      refine l_next (q + 1) ⟨rfl, rfl, rfl, rfl, rfl, rfl, rfl, rfl, trivial⟩ ⟨by omega, (km6.no k610).trans k11' (fun q _ e => e), ?_⟩ (by omega)
      have e : unl (procLn p :: ((part c p).take (q + 1)).map insLn) = unl (procLn p :: ((part c p).take q).map insLn) ++ B s10 := by
        rw [List.take_add_one, hxi, hs10]
        simp [unl, List.flatMap_append]
      rw [e, ← List.append_assoc]
      exact hBd11
    · obtain rfl : q = (part c p).length := by omega
      (repeat (first | refine k_nil ?_ | refine k_n ?_ | refine k_r ?_ | refine k_x ?_ | refine b_n ?_ | refine b_r ?_ | refine b_y rfl ?_ | refine b_z rfl ?_ | refine l_r ?_ | refine l_x ?_ | refine k_seq ?_ | refine k_blk ?_ | refine k_reg ?_ | refine k_ret ?_ | refine k_exit ?_ | refine k_skip ?_ | refine Zs ?_))
      refine l_next (j + 1) ⟨rfl, rfl, rfl, rfl, rfl, trivial⟩ ⟨by omega, km6, ?_⟩ (by omega)
      rw [List.take_length] at hBd6
      rw [List.take_add_one, hx, Option.toList_some, List.flatMap_append, unl_append, List.flatMap_cons, List.flatMap_nil, List.append_nil]
      exact hBd6
  · obtain rfl : j = c.ps.length := by omega
    rw [List.take_length] at hBd
    have hrg : Bu.rg (txt c) := txt_inB hf
    (repeat (first | refine k_nil ?_ | refine k_n ?_ | refine k_r ?_ | refine k_x ?_ | refine b_n ?_ | refine b_r ?_ | refine b_y rfl ?_ | refine b_z rfl ?_ | refine l_r ?_ | refine l_x ?_ | refine k_seq ?_ | refine k_blk ?_ | refine k_reg ?_ | refine k_ret ?_ | refine k_exit ?_ | refine k_skip ?_ | refine Zs ?_))
    refine s_call (us := []) (zs := []) (by kernel_rfl) rfl rfl (Bu.BStr base b (txt c) m hBd hrg (by omega)) ?_
    rintro _ m1 ⟨⟨t, rfl, hB⟩, k1⟩
    (repeat (first | refine k_nil ?_ | refine k_n ?_ | refine k_r ?_ | refine k_x ?_ | refine b_n ?_ | refine b_r ?_ | refine b_y rfl ?_ | refine b_z rfl ?_ | refine l_r ?_ | refine l_x ?_ | refine k_seq ?_ | refine k_blk ?_ | refine k_reg ?_ | refine k_ret ?_ | refine k_exit ?_ | refine k_skip ?_ | refine Zs ?_))
    exact ret_1 rfl rfl ⟨(keep km).trans k1 (fun q hq e => by omega), t, rfl, .inr ⟨hgd, hB⟩⟩
end Cd
end Go.Proofs.YtpamkidcmjfieaaGreatDoor
