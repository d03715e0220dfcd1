/- Code: Heights; Good. -/
import Derived.Test.YtpamkidcmjfieaaDoorCk
import Derived.Test.YtpamkidcmjfieaaDoorCr
namespace Go.Proofs.YtpamkidcmjfieaaDoor
open Go Go.RowKit Fw Nu
set_option linter.unusedVariables false
set_option maxRecDepth 20000
namespace Cd
/-- What is labelled is reached. -/
def Rg (c : Cde) (p : Prc) (L : List Int) : Prop := ∀ (j : Nat) y, p.fr ≤ j → (j : Int) < p.to → L[j]? = some y → y = -1 ∨ (0 ≤ y ∧ y ≤ 200 ∧ Rch c p j y)
theorem Rg.cong {c : Cde} {p : Prc} {L M : List Int} (h : Rg c p L) (e : ∀ k : Nat, p.fr ≤ k → (k : Int) < p.to → M[k]? = L[k]?) : Rg c p M := fun j y a b hy => h j y a b (by rw [← e j a b]; exact hy)
theorem Lab.cong {c : Cde} {p : Prc} {L M : List Int} (h : Lab c p L) (h0 : 0 ≤ p.fr) (h1 : p.fr < p.to) (e : ∀ k : Nat, p.fr ≤ k → (k : Int) < p.to → M[k]? = L[k]?) : Lab c p M :=
  ⟨by rw [e p.fr.toNat (by omega) (by omega)]; exact h.start, fun pl x i a b hx hx0 hi => by
    rw [e pl a b] at hx
    obtain ⟨q1, q2⟩ := h.next pl x i a b hx hx0 hi
    exact ⟨q1, fun d y hm => by
      obtain ⟨r1, r2, r3, r4, r5⟩ := q2 d y hm
      exact ⟨r1, r2, r3, r4, by rw [e d.toNat (by omega) (by omega)]; exact r5⟩⟩⟩
theorem cum_succ {c : Cde} {j : Nat} {p : Prc} (h : c.ps[j]? = some p) : cum c.ps (j + 1) = p.to := by
  show (match c.ps[j]? with | some p => p.to | none => 0) = p.to
  rw [h]
theorem cum_mono {c : Cde} (h : ∀ (j : Nat) p, c.ps[j]? = some p → fc c p (cum c.ps j)) : ∀ (d q : Nat), q + d ≤ c.ps.length → cum c.ps q ≤ cum c.ps (q + d) := by
  intro d
  induction d with
  | zero => intro q _; exact Int.le_refl _
  | succ d ih =>
    intro q hq
    obtain ⟨p, hp⟩ : ∃ p, c.ps[q + d]? = some p := ⟨_, List.getElem?_eq_getElem (by omega)⟩
    have h1 := ih q (by omega)
    have h2 := (h _ _ hp).2.1
    have h3 := cum_succ hp
    rw [← Nat.add_assoc, h3]
    omega
theorem cum_le {c : Cde} (h : ∀ (j : Nat) p, c.ps[j]? = some p → fc c p (cum c.ps j)) {q j : Nat} (h1 : q ≤ j) (h2 : j ≤ c.ps.length) : cum c.ps q ≤ cum c.ps j := by
  have := cum_mono h (j - q) q (by omega)
  rwa [show q + (j - q) = j from by omega] at this
/-- The code is good. -/
def Gd (c : Cde) : Prop := form c ∧ ∀ p ∈ c.ps, ¬ Bad c p
/-- Heights of good code. -/
structure Hts (c : Cde) (L : List Int) : Prop where
  fm : form c
  len : L.length = c.is.length
  lab : ∀ p ∈ c.ps, Lab c p L
  rg : ∀ p ∈ c.ps, Rg c p L
theorem form_at {c : Cde} (h : form c) {p : Prc} (hp : p ∈ c.ps) : 0 ≤ p.fr ∧ p.fr < p.to ∧ p.to ≤ c.is.length := by
  obtain ⟨j, hj⟩ := List.mem_iff_getElem?.1 hp
  have h1 := h.1 j p hj
  have h2 := cum_nn (c := c) (n := c.ps.length) (fun j p _ hp => h.1 j p hp) j (by have := (List.getElem?_eq_some_iff.1 hj).1; omega)
  obtain ⟨a, b, d, _⟩ := h1
  omega
theorem Hts.gd {c : Cde} {L : List Int} (h : Hts c L) : Gd c := ⟨h.fm, fun p hp => by
  obtain ⟨a, b, d⟩ := form_at h.fm hp
  exact (h.lab p hp).bad a b d⟩
set_option maxHeartbeats 8000000 in
theorem HeightsF (c : Cde) (ap al : Option Addr) (cp cl : Nat) (w : World) (hg : Tk.Glob w) (hs : Shp w) (hp : RP w ap c.ps) (hi : RI w al c.is) (hn : c.ps.length ≤ 1000000) (hm : c.is.length ≤ 400000) (hcl : c.is.length ≤ cl) (hz : ∀ p ∈ c.ps, p.nm.size ≤ 1000000) :
    Ret Tryd.prog 6 [.agg #[.slice ap c.ps.length cp, .slice al c.is.length cl]] w fun v w1 => Kp No w w1 ∧
      ((v = .tuple #[.slice none 0 0, .bool false] ∧ ¬ Gd c) ∨ (∃ g L, v = .tuple #[.slice (some ⟨g, 0, none⟩) L.length L.length, .bool true] ∧ Hts c L ∧ w.heap.size ≤ g ∧ w1.heap[g]? = some (.cells (L.map (Value.int .i64)).toArray 3 (0, 0)))) := by
  refine ret_enter Tryd.func6 rfl Tryd.ntmps6 rfl ?_
  (repeat (first | refine k_nil ?_ | refine k_n ?_ | refine k_r ?_ | refine k_x ?_ | refine b_n ?_ | refine b_r ?_ | refine b_y rfl ?_ | refine b_z rfl ?_ | refine l_r ?_ | refine l_x ?_ | refine k_seq ?_ | refine k_blk ?_ | refine k_reg ?_ | refine k_ret ?_ | refine k_exit ?_ | refine k_skip ?_ | refine Zs ?_))
  refine s_box (cs := [.slice ap c.ps.length cp, .slice al c.is.length cl]) rfl rfl (fun b1 w1 n1 => ?_)
  have e1 := n1.blk
  have g1 := n1.ge
  have kw1 := n1.kp
  (repeat (first | refine k_nil ?_ | refine k_n ?_ | refine k_r ?_ | refine k_x ?_ | refine b_n ?_ | refine b_r ?_ | refine b_y rfl ?_ | refine b_z rfl ?_ | refine l_r ?_ | refine l_x ?_ | refine k_seq ?_ | refine k_blk ?_ | refine k_reg ?_ | refine k_ret ?_ | refine k_exit ?_ | refine k_skip ?_ | refine Zs ?_))
  refine s_v (r_ldb (vs := [.slice ap c.ps.length cp, .slice al c.is.length cl]) rfl rfl rfl e1 rfl rfl) ?_
  refine s_call (us := []) (zs := []) (by kernel_rfl) rfl rfl (formF c ap al cp cl w1 (hg.kp kw1) (hs.kp kw1) (hp.kp0 kw1) (hi.kp0 kw1) hn (by omega) hcl hz) ?_
  rintro _ w2 ⟨⟨r, rfl, hr⟩, k2⟩
  have kw2 := kw1.no k2
  have e12 := k2.get0 e1
  (repeat (first | refine k_nil ?_ | refine k_n ?_ | refine k_r ?_ | refine k_x ?_ | refine b_n ?_ | refine b_r ?_ | refine b_y rfl ?_ | refine b_z rfl ?_ | refine l_r ?_ | refine l_x ?_ | refine k_seq ?_ | refine k_blk ?_ | refine k_reg ?_ | refine k_ret ?_ | refine k_exit ?_ | refine k_skip ?_ | refine Zs ?_))
  cases r with
  | false =>
    refine c_t rfl ?_
    (repeat (first | refine k_nil ?_ | refine k_n ?_ | refine k_r ?_ | refine k_x ?_ | refine b_n ?_ | refine b_r ?_ | refine b_y rfl ?_ | refine b_z rfl ?_ | refine l_r ?_ | refine l_x ?_ | refine k_seq ?_ | refine k_blk ?_ | refine k_reg ?_ | refine k_ret ?_ | refine k_exit ?_ | refine k_skip ?_ | refine Zs ?_))
    exact ret_2 rfl rfl rfl ⟨kw2, .inl ⟨rfl, fun h => by have := hr.2 h.1; cases this⟩⟩
  | true =>
    have hf : form c := hr.1 rfl
    obtain ⟨hfc, hft, hpos, hend⟩ := id hf
    refine c_f rfl ?_
    (repeat (first | refine k_nil ?_ | refine k_n ?_ | refine k_r ?_ | refine k_x ?_ | refine b_n ?_ | refine b_r ?_ | refine b_y rfl ?_ | refine b_z rfl ?_ | refine l_r ?_ | refine l_x ?_ | refine k_seq ?_ | refine k_blk ?_ | refine k_reg ?_ | refine k_ret ?_ | refine k_exit ?_ | refine k_skip ?_ | refine Zs ?_))
    refine s_bs (cs := [.int .i64 (-1)]) (e := 3) rfl (fun b3 w3 n3 => ?_)
    have k3 := n3.kp
    have e13 := k3.get0 e12
    (repeat (first | refine k_nil ?_ | refine k_n ?_ | refine k_r ?_ | refine k_x ?_ | refine b_n ?_ | refine b_r ?_ | refine b_y rfl ?_ | refine b_z rfl ?_ | refine l_r ?_ | refine l_x ?_ | refine k_seq ?_ | refine k_blk ?_ | refine k_reg ?_ | refine k_ret ?_ | refine k_exit ?_ | refine k_skip ?_ | refine Zs ?_))
    have hN : 1 ≤ c.is.length := by
      obtain ⟨p, hx⟩ : ∃ p, c.ps[0]? = some p := ⟨_, List.getElem?_eq_getElem hpos⟩
      have h1 := (form_at hf (List.mem_of_getElem? hx))
      omega
    refine s_call (us := []) (zs := []) (by kernel_rfl) rfl rfl (repeatF b3 1 c.is.length (-1) w3 n3.blk hN (by omega)) ?_
    rintro _ w4 ⟨hb, rfl, hblk, hge, k4⟩
    have k24 := k3.no k4
    have kw4 := kw2.no k24
    have e14 := k4.get0 e13
    have z1 := lt_of_get e1
    have z2 := k2.size
    have z3 := k3.size
    have z4 := k4.size
    have zb := lt_of_get hblk
    have z0 := kw1.size
    have hmap : List.replicate c.is.length (Value.int .i64 (-1)) = (List.replicate c.is.length (-1 : Int)).map (Value.int .i64) := by rw [List.map_replicate]
    rw [hmap] at hblk
    (repeat (first | refine k_nil ?_ | refine k_n ?_ | refine k_r ?_ | refine k_x ?_ | refine b_n ?_ | refine b_r ?_ | refine b_y rfl ?_ | refine b_z rfl ?_ | refine l_r ?_ | refine l_x ?_ | refine k_seq ?_ | refine k_blk ?_ | refine k_reg ?_ | refine k_ret ?_ | refine k_exit ?_ | refine k_skip ?_ | refine Zs ?_))
    refine k_loop (σ := Nat × List Int) (fun s => [(1, .pointer (some ⟨b1, 0, none⟩)), (4, .slice (some ⟨hb, 0, none⟩) c.is.length c.is.length), (16, .slice ap c.ps.length cp), (17, .int .i64 c.ps.length), (18, .int .i64 s.1)])
      (fun s m => s.1 ≤ c.ps.length ∧ Kp (fun k => k = hb) w4 m ∧ s.2.length = c.is.length ∧ m.heap[hb]? = some (.cells (s.2.map (Value.int .i64)).toArray 3 (0, 0)) ∧ (∀ (q : Nat) p, q < s.1 → c.ps[q]? = some p → Lab c p s.2 ∧ Rg c p s.2) ∧ (∀ (k : Nat) y, cum c.ps s.1 ≤ k → s.2[k]? = some y → y = -1))
      (fun s => c.ps.length - s.1) (0, List.replicate c.is.length (-1)) ⟨rfl, rfl, rfl, rfl, rfl, trivial⟩ ⟨Nat.zero_le _, Kp.refl _ _, List.length_replicate, hblk, fun q p hq => by simp at hq, fun k y _ hy => ?_⟩ ?_
    · simp only at hy
      rw [List.getElem?_replicate] at hy
      split at hy
      · cases hy; rfl
      · cases hy
    rintro ⟨j, L⟩ l m ⟨hj, km, hLl, hbm, hlab, hneg⟩
    simp only at hj hLl hbm hlab hneg
    try dsimp only
    have e1m := km.get e14 (show ¬ b1 = hb by omega)
    have kwm : Kp No w m := kw4.trans km (fun q hq e => by have e : q = hb := e; omega)
    have zm := km.size
    (repeat (first | refine k_nil ?_ | refine k_n ?_ | refine k_r ?_ | refine k_x ?_ | refine b_n ?_ | refine b_r ?_ | refine b_y rfl ?_ | refine b_z rfl ?_ | refine l_r ?_ | refine l_x ?_ | refine k_seq ?_ | refine k_blk ?_ | refine k_reg ?_ | refine k_ret ?_ | refine k_exit ?_ | refine k_skip ?_ | refine Zs ?_))
    refine c_dec rfl (fun hlt => ?_) (fun hge2 => ?_)
    · obtain ⟨p, hx⟩ : ∃ p, c.ps[j]? = some p := ⟨_, List.getElem?_eq_getElem (by omega)⟩
      have hpm := List.mem_of_getElem? hx
      obtain ⟨f1, f2, f3⟩ := form_at hf hpm
      have hfr := (hfc j p hx).1
      obtain ⟨b, o, rfl, _, hc⟩ := (hp.kp0 kwm).at hx
      (repeat (first | refine k_nil ?_ | refine k_n ?_ | refine k_r ?_ | refine k_x ?_ | refine b_n ?_ | refine b_r ?_ | refine b_y rfl ?_ | refine b_z rfl ?_ | refine l_r ?_ | refine l_x ?_ | refine k_seq ?_ | refine k_blk ?_ | refine k_reg ?_ | refine k_ret ?_ | refine k_exit ?_ | refine k_skip ?_ | refine Zs ?_))
      refine s_v (r_ia rfl rfl rfl rfl (by omega) (by omega)) ?_
      refine s_v (r_lda (vs := pc p) rfl rfl rfl rfl hc) ?_
      refine s_al rfl (fun b6 m1 n6 => ?_)
      have g6 := n6.ge
      refine s_st (vs := pc p) rfl rfl rfl rfl rfl n6.blk (Nat.le_of_ble_eq_true rfl) (fun m2 s2 => ?_)
      have k2m : Kp No m m2 := n6.kp.trans s2.kp (fun _ _ e => by omega)
      have e6 : m2.heap[b6]? = some (.cells [Value.string p.nm, .int .i64 p.fr, .int .i64 p.to, .int .i64 p.pa, .int .i64 p.sl, .int .i64 p.ty].toArray 32 (0, 0)) := s2.blk
      have e12m := k2m.get0 e1m
      have z6 := k2m.size
      (repeat (first | refine k_nil ?_ | refine k_n ?_ | refine k_r ?_ | refine k_x ?_ | refine b_n ?_ | refine b_r ?_ | refine b_y rfl ?_ | refine b_z rfl ?_ | refine l_r ?_ | refine l_x ?_ | refine k_seq ?_ | refine k_blk ?_ | refine k_reg ?_ | refine k_ret ?_ | refine k_exit ?_ | refine k_skip ?_ | refine Zs ?_))
      refine s_v (r_ldb (vs := [.slice (some ⟨b, o, none⟩) c.ps.length cp, .slice al c.is.length cl]) rfl rfl rfl e12m rfl rfl) ?_
      refine s_v (r_ldb (vs := pc p) rfl rfl rfl e6 rfl rfl) ?_
      (repeat (first | refine k_nil ?_ | refine k_n ?_ | refine k_r ?_ | refine k_x ?_ | refine b_n ?_ | refine b_r ?_ | refine b_y rfl ?_ | refine b_z rfl ?_ | refine l_r ?_ | refine l_x ?_ | refine k_seq ?_ | refine k_blk ?_ | refine k_reg ?_ | refine k_ret ?_ | refine k_exit ?_ | refine k_skip ?_ | refine Zs ?_))
      refine s_box (cs := [.slice (some ⟨b, o, none⟩) c.ps.length cp, .slice al c.is.length cl, .string p.nm, .int .i64 p.fr, .int .i64 p.to, .int .i64 p.pa, .int .i64 p.sl, .int .i64 p.ty, .slice (some ⟨hb, 0, none⟩) c.is.length c.is.length, .slice none 0 0]) rfl rfl (fun b7 m3 n7 => ?_)
      have g7 := n7.ge
      have z7 := lt_of_get n7.blk
      have k3m := k2m.no n7.kp
      have kw3 : Kp No w m3 := kwm.no k3m
      have hbm3 := k3m.get0 hbm
      have e13m := n7.kp.get0 e12m
      have hpa : ∀ q ∈ c.ps, 0 ≤ q.pa := fun q hq => by
        obtain ⟨i, hi⟩ := List.mem_iff_getElem?.1 hq
        exact (hfc i q hi).2.2.2.1.1
      have C : Clm m3.heap.size b7 hb (.slice (some ⟨b, o, none⟩) c.ps.length cp) (.slice al c.is.length cl) p L [] m3 :=
        ⟨by omega, hbm3, none, 0, by rw [hLl]; exact n7.blk, World.ownsRow_nil _ _ _ _, by simp [Value.ownBlock], by simp [Value.ownBlock]⟩
      have hneg' : ∀ (k : Nat) y, p.fr ≤ k → (k : Int) < p.to → L[k]? = some y → y = -1 := fun k y q1 _ hy => hneg k y (by omega) hy
      refine s_call (us := []) (zs := []) (by kernel_rfl) rfl rfl (climbF m3.heap.size b7 hb c (some ⟨b, o, none⟩) al cp cl p L m3 (Nat.le_refl _) C w kw3 ⟨by omega, by omega, by omega⟩ hs hp hi hn hm hLl f1 f2 f3 (hft p hpm) hpa hneg') ?_
      rintro _ m4 ⟨⟨r, L', td, rfl, C4, R⟩, k4m⟩
      have e14m := k4m.get e13m (show ¬ (b1 = b7 ∨ b1 = hb ∨ m3.heap.size ≤ b1) by omega)
      have kw5 : Kp No w m4 := kw3.trans k4m (fun q hq e => by omega)
      have hbm4 := C4.hts
      (repeat (first | refine k_nil ?_ | refine k_n ?_ | refine k_r ?_ | refine k_x ?_ | refine b_n ?_ | refine b_r ?_ | refine b_y rfl ?_ | refine b_z rfl ?_ | refine l_r ?_ | refine l_x ?_ | refine k_seq ?_ | refine k_blk ?_ | refine k_reg ?_ | refine k_ret ?_ | refine k_exit ?_ | refine k_skip ?_ | refine Zs ?_))
      rcases R with ⟨rfl, hlab', I'⟩ | ⟨rfl, hbad⟩
      · refine c_f rfl ?_
        (repeat (first | refine k_nil ?_ | refine k_n ?_ | refine k_r ?_ | refine k_x ?_ | refine b_n ?_ | refine b_r ?_ | refine b_y rfl ?_ | refine b_z rfl ?_ | refine l_r ?_ | refine l_x ?_ | refine k_seq ?_ | refine k_blk ?_ | refine k_reg ?_ | refine k_ret ?_ | refine k_exit ?_ | refine k_skip ?_ | refine Zs ?_))
        have hout := I'.out
        refine l_next (j + 1, L') ⟨rfl, rfl, rfl, rfl, rfl, trivial⟩ ⟨by show j + 1 ≤ _; omega, ?_, I'.len.trans hLl, hbm4, ?_, ?_⟩ (by show c.ps.length - (j + 1) < c.ps.length - j; omega)
        · exact (km.no k3m).trans k4m (fun q hq e => by show q = hb; omega)
        · intro q x hq hx2
          by_cases e : q = j
          · subst e
            rw [hx] at hx2
            cases hx2
            exact ⟨hlab', I'.rch⟩
          · obtain ⟨l1, l2⟩ := hlab q x (by simp only at hq; omega) hx2
            obtain ⟨x1, x2, x3⟩ := form_at hf (List.mem_of_getElem? hx2)
            have hle : x.to ≤ p.fr := by
              have := cum_le hfc (q := q + 1) (j := j) (by simp only at hq; omega) (by omega)
              rw [cum_succ hx2] at this
              omega
            have hc : ∀ k : Nat, x.fr ≤ k → (k : Int) < x.to → L'[k]? = L[k]? := fun k q1 q2 => hout k (by omega)
            exact ⟨l1.cong x1 x2 hc, l2.cong hc⟩
        · intro k y hk hy
          simp only at hk hy
          rw [cum_succ hx] at hk
          rw [hout k (by omega)] at hy
          exact hneg k y (by omega) hy
      · refine c_t rfl ?_
        (repeat (first | refine k_nil ?_ | refine k_n ?_ | refine k_r ?_ | refine k_x ?_ | refine b_n ?_ | refine b_r ?_ | refine b_y rfl ?_ | refine b_z rfl ?_ | refine l_r ?_ | refine l_x ?_ | refine k_seq ?_ | refine k_blk ?_ | refine k_reg ?_ | refine k_ret ?_ | refine k_exit ?_ | refine k_skip ?_ | refine Zs ?_))
        exact ret_2 rfl rfl rfl ⟨kw5, .inl ⟨rfl, fun h => h.2 p hpm hbad⟩⟩
    · obtain rfl : j = c.ps.length := by omega
      (repeat (first | refine k_nil ?_ | refine k_n ?_ | refine k_r ?_ | refine k_x ?_ | refine b_n ?_ | refine b_r ?_ | refine b_y rfl ?_ | refine b_z rfl ?_ | refine l_r ?_ | refine l_x ?_ | refine k_seq ?_ | refine k_blk ?_ | refine k_reg ?_ | refine k_ret ?_ | refine k_exit ?_ | refine k_skip ?_ | refine Zs ?_))
      refine ret_2 rfl rfl rfl ⟨kwm, .inr ⟨hb, L, by rw [hLl], ⟨hf, hLl, fun p hp => ?_, fun p hp => ?_⟩, by omega, hbm⟩⟩
      · obtain ⟨q, hq⟩ := List.mem_iff_getElem?.1 hp
        exact (hlab q p (List.getElem?_eq_some_iff.1 hq).1 hq).1
      · obtain ⟨q, hq⟩ := List.mem_iff_getElem?.1 hp
        exact (hlab q p (List.getElem?_eq_some_iff.1 hq).1 hq).2
theorem GoodF (c : Cde) (ap al : Option Addr) (cp cl : Nat) (w : World) (hg : Tk.Glob w) (hs : Shp w) (hp : RP w ap c.ps) (hi : RI w al c.is) (hn : c.ps.length ≤ 1000000) (hm : c.is.length ≤ 400000) (hcl : c.is.length ≤ cl) (hz : ∀ p ∈ c.ps, p.nm.size ≤ 1000000) :
    Ret Tryd.prog 7 [.agg #[.slice ap c.ps.length cp, .slice al c.is.length cl]] w fun v w1 => Kp No w w1 ∧ ∃ r, v = .bool r ∧ (r = true ↔ Gd c) := by
  refine ret_enter Tryd.func7 rfl Tryd.ntmps7 rfl ?_
  (repeat (first | refine k_nil ?_ | refine k_n ?_ | refine k_r ?_ | refine k_x ?_ | refine b_n ?_ | refine b_r ?_ | refine b_y rfl ?_ | refine b_z rfl ?_ | refine l_r ?_ | refine l_x ?_ | refine k_seq ?_ | refine k_blk ?_ | refine k_reg ?_ | refine k_ret ?_ | refine k_exit ?_ | refine k_skip ?_ | refine Zs ?_))
  refine s_box (cs := [.slice ap c.ps.length cp, .slice al c.is.length cl]) rfl rfl (fun b1 w1 n1 => ?_)
  have e1 := n1.blk
  have kw1 := n1.kp
  (repeat (first | refine k_nil ?_ | refine k_n ?_ | refine k_r ?_ | refine k_x ?_ | refine b_n ?_ | refine b_r ?_ | refine b_y rfl ?_ | refine b_z rfl ?_ | refine l_r ?_ | refine l_x ?_ | refine k_seq ?_ | refine k_blk ?_ | refine k_reg ?_ | refine k_ret ?_ | refine k_exit ?_ | refine k_skip ?_ | refine Zs ?_))
  refine s_v (r_ldb (vs := [.slice ap c.ps.length cp, .slice al c.is.length cl]) rfl rfl rfl e1 rfl rfl) ?_
  refine s_call (us := []) (zs := []) (by kernel_rfl) rfl rfl (HeightsF c ap al cp cl w1 (hg.kp kw1) (hs.kp kw1) (hp.kp0 kw1) (hi.kp0 kw1) hn hm hcl hz) ?_
  rintro _ w2 ⟨k2, ⟨rfl, hng⟩ | ⟨g, L, rfl, hh, _⟩⟩
  · (repeat (first | refine k_nil ?_ | refine k_n ?_ | refine k_r ?_ | refine k_x ?_ | refine b_n ?_ | refine b_r ?_ | refine b_y rfl ?_ | refine b_z rfl ?_ | refine l_r ?_ | refine l_x ?_ | refine k_seq ?_ | refine k_blk ?_ | refine k_reg ?_ | refine k_ret ?_ | refine k_exit ?_ | refine k_skip ?_ | refine Zs ?_))
    exact ret_1 rfl rfl ⟨kw1.no k2, false, rfl, (fun h => by cases h), fun h => (hng h).elim⟩
  · (repeat (first | refine k_nil ?_ | refine k_n ?_ | refine k_r ?_ | refine k_x ?_ | refine b_n ?_ | refine b_r ?_ | refine b_y rfl ?_ | refine b_z rfl ?_ | refine l_r ?_ | refine l_x ?_ | refine k_seq ?_ | refine k_blk ?_ | refine k_reg ?_ | refine k_ret ?_ | refine k_exit ?_ | refine k_skip ?_ | refine Zs ?_))
    exact ret_1 rfl rfl ⟨kw1.no k2, true, rfl, fun _ => hh.gd, fun _ => rfl⟩
end Cd
end Go.Proofs.YtpamkidcmjfieaaDoor
