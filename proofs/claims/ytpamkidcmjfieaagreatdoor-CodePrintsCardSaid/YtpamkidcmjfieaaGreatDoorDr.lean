/- Code: the law CodeGoods. -/
import Derived.Test.YtpamkidcmjfieaaGreatDoorDn
import Derived.Test.YtpamkidcmjfieaaGreatDoorDc
import Derived.Test.YtpamkidcmjfieaaGreatDoorCo
namespace Go.Proofs.YtpamkidcmjfieaaGreatDoor
open Go Go.RowKit Fw Nu
set_option linter.unusedVariables false
set_option maxRecDepth 20000
namespace Cd
theorem r_beq' {P : Program} {w : World} {ρ : Operand → Value} {dst : Option Tmp} {ty : TypeId} {pos : String} {af : Array Edge} {g : Option (Nat × Bool)} {t t' : TypeId} {x y : Operand} {p q : Bool} (ht : P.underlying t = some .bool) (hx : ρ x = .bool p) (hy : ρ y = .bool q) (h : p = q) :
    Rn P ρ ⟨dst, .binOp .eql t x y t', ty, pos, af, g⟩ w (.ok (.value (.bool true)) w) := by
  subst h
  have := r_beq (w := w) (ty := ty) (pos := pos) (af := af) (g := g) (dst := dst) (t' := t') ht hx hy
  simpa using this
set_option maxHeartbeats 4000000 in
theorem Goods (c : Cde) (ap al : Option Addr) (cp cl : Nat) (w : World) (hg : Glob w) (hp : RP w ap c.ps) (hi : RI w al c.is) (hcp : c.ps.length ≤ cp) (hcl : c.is.length ≤ cl) (hm : cp ≤ maxLen) (hm2 : cl ≤ maxLen) :
    Ret Tryz.prog 5 [.agg #[.slice ap c.ps.length cp, .slice al c.is.length cl]] w fun v w1 => v = .bool true ∧ Kp No w w1 := by
  have hbig : c.ps.length ≤ 9223372036854775807 := by unfold maxLen at hm; omega
  refine ret_enter Tryz.func5 rfl Tryz.ntmps5 rfl ?_
  (repeat (first | refine k_nil ?_ | refine k_n ?_ | refine k_r ?_ | refine k_x ?_ | refine b_n ?_ | refine b_r ?_ | refine b_y rfl ?_ | refine b_z rfl ?_ | refine l_r ?_ | refine l_x ?_ | refine k_seq ?_ | refine k_blk ?_ | refine k_reg ?_ | refine k_ret ?_ | refine k_exit ?_ | refine k_skip ?_ | refine Zs ?_))
  refine s_box (cs := [.slice ap c.ps.length cp, .slice al c.is.length cl]) rfl rfl (fun b1 w1 n1 => ?_)
  have e1 := n1.blk
  have kw1 := n1.kp
  (repeat (first | refine k_nil ?_ | refine k_n ?_ | refine k_r ?_ | refine k_x ?_ | refine b_n ?_ | refine b_r ?_ | refine b_y rfl ?_ | refine b_z rfl ?_ | refine l_r ?_ | refine l_x ?_ | refine k_seq ?_ | refine k_blk ?_ | refine k_reg ?_ | refine k_ret ?_ | refine k_exit ?_ | refine k_skip ?_ | refine Zs ?_))
  refine s_call (us := []) (zs := []) (by kernel_rfl) rfl rfl (awakeF w1 (hg.kp kw1)) ?_
  rintro _ w2 ⟨rfl, k2⟩
  have e2 := k2.get0 e1
  have kw2 := kw1.no k2
  (repeat (first | refine k_nil ?_ | refine k_n ?_ | refine k_r ?_ | refine k_x ?_ | refine b_n ?_ | refine b_r ?_ | refine b_y rfl ?_ | refine b_z rfl ?_ | refine l_r ?_ | refine l_x ?_ | refine k_seq ?_ | refine k_blk ?_ | refine k_reg ?_ | refine k_ret ?_ | refine k_exit ?_ | refine k_skip ?_ | refine Zs ?_ | refine Zn ?_ | refine Zu ?_ | refine Zg ?_))
  refine s_gv rfl (r_ldb (vs := [.slice ap c.ps.length cp, .slice al c.is.length cl]) rfl rfl rfl e2 rfl rfl) ?_
  refine s_gcall (us := []) (zs := []) rfl (by kernel_rfl) rfl rfl (fewF c ap al cp cl w2 (hp.kp0 kw2) hbig) ?_
  rintro _ w3 ⟨⟨b, rfl, hfew⟩, k3⟩
  have e3 := k3.get0 e2
  have kw3 := kw2.no k3
  cases b with
  | false =>
    (repeat (first | refine k_nil ?_ | refine k_n ?_ | refine k_r ?_ | refine k_x ?_ | refine b_n ?_ | refine b_r ?_ | refine b_y rfl ?_ | refine b_z rfl ?_ | refine l_r ?_ | refine l_x ?_ | refine k_seq ?_ | refine k_blk ?_ | refine k_reg ?_ | refine k_ret ?_ | refine k_exit ?_ | refine k_skip ?_ | refine Zs ?_ | refine Zn ?_ | refine Zu ?_ | refine Zg ?_))
    refine c_t rfl ?_
    (repeat (first | refine k_nil ?_ | refine k_n ?_ | refine k_r ?_ | refine k_x ?_ | refine b_n ?_ | refine b_r ?_ | refine b_y rfl ?_ | refine b_z rfl ?_ | refine l_r ?_ | refine l_x ?_ | refine k_seq ?_ | refine k_blk ?_ | refine k_reg ?_ | refine k_ret ?_ | refine k_exit ?_ | refine k_skip ?_ | refine Zs ?_))
    refine s_call (us := []) (zs := []) (by kernel_rfl) rfl rfl (awakeF w3 (hg.kp kw3)) ?_
    rintro _ w4 ⟨rfl, k4⟩
    (repeat (first | refine k_nil ?_ | refine k_n ?_ | refine k_r ?_ | refine k_x ?_ | refine b_n ?_ | refine b_r ?_ | refine b_y rfl ?_ | refine b_z rfl ?_ | refine l_r ?_ | refine l_x ?_ | refine k_seq ?_ | refine k_blk ?_ | refine k_reg ?_ | refine k_ret ?_ | refine k_exit ?_ | refine k_skip ?_ | refine Zs ?_))
    exact ret_1 rfl rfl ⟨rfl, kw3.no k4⟩
  | true =>
  obtain ⟨hf1, hf2, hf3⟩ := hfew.1 rfl
  have hnz : ∀ p ∈ c.ps, p.nm.size ≤ 1000000 := fun p hp => by have := hf1 p hp; omega
  (repeat (first | refine k_nil ?_ | refine k_n ?_ | refine k_r ?_ | refine k_x ?_ | refine b_n ?_ | refine b_r ?_ | refine b_y rfl ?_ | refine b_z rfl ?_ | refine l_r ?_ | refine l_x ?_ | refine k_seq ?_ | refine k_blk ?_ | refine k_reg ?_ | refine k_ret ?_ | refine k_exit ?_ | refine k_skip ?_ | refine Zs ?_ | refine Zn ?_ | refine Zu ?_ | refine Zg ?_))
  refine c_f rfl ?_
  (repeat (first | refine k_nil ?_ | refine k_n ?_ | refine k_r ?_ | refine k_x ?_ | refine b_n ?_ | refine b_r ?_ | refine b_y rfl ?_ | refine b_z rfl ?_ | refine l_r ?_ | refine l_x ?_ | refine k_seq ?_ | refine k_blk ?_ | refine k_reg ?_ | refine k_ret ?_ | refine k_exit ?_ | refine k_skip ?_ | refine Zs ?_))
  refine s_v (r_ldb (vs := [.slice ap c.ps.length cp, .slice al c.is.length cl]) rfl rfl rfl e3 rfl rfl) ?_
  refine s_call (us := []) (zs := []) (by kernel_rfl) rfl rfl (HeightsF c ap al cp cl w3 (hg.kp kw3).tk (hg.kp kw3).sh (hp.kp0 kw3) (hi.kp0 kw3) (by omega) (by omega) hcl hnz) ?_
  rintro v4 w4 ⟨k4, H⟩
  have e4 := k4.get0 e3
  have kw4 := kw3.no k4
  obtain ⟨L, a, cc, good, rfl, hgood, hRN, hH, hno, hLl⟩ : ∃ (L : List Int) (a : Option Addr) (cc : Nat) (good : Bool), v4 = .tuple #[.slice a L.length cc, .bool good] ∧ (good = true ↔ Gd c) ∧ RN w4 a L ∧ (good = true → Hts c L) ∧ (good = false → L = []) ∧ L.length ≤ 120 := by
    rcases H with ⟨rfl, hng⟩ | ⟨g, L, rfl, hh, _, hb⟩
    · exact ⟨[], none, 0, false, rfl, ⟨fun h => (by cases h), fun h => (hng h).elim⟩, .inl rfl, fun h => (by cases h), fun _ => rfl, by decide⟩
    · exact ⟨L, _, _, true, rfl, ⟨fun _ => hh.gd, fun _ => rfl⟩, RN.blk hb, fun _ => hh, fun h => (by cases h), by rw [hh.len]; exact hf3⟩
  (repeat (first | refine k_nil ?_ | refine k_n ?_ | refine k_r ?_ | refine k_x ?_ | refine b_n ?_ | refine b_r ?_ | refine b_y rfl ?_ | refine b_z rfl ?_ | refine l_r ?_ | refine l_x ?_ | refine k_seq ?_ | refine k_blk ?_ | refine k_reg ?_ | refine k_ret ?_ | refine k_exit ?_ | refine k_skip ?_ | refine Zs ?_))
  refine s_v (r_ldb (vs := [.slice ap c.ps.length cp, .slice al c.is.length cl]) rfl rfl rfl e4 rfl rfl) ?_
  refine s_call (us := []) (zs := []) (by kernel_rfl) rfl rfl (RefF c ap al cp cl w4 (hp.kp0 kw4) (hi.kp0 kw4) (by omega) (by omega)) ?_
  rintro _ w5 ⟨⟨ap', al', cp', cl', rfl, hRP, hRI, _, _⟩, k5⟩
  refine s_call (us := []) (zs := []) (by kernel_rfl) rfl rfl (rHeights c ap' al' cp' cl' w5 hRP hRI (by omega) (by omega) hnz) ?_
  rintro v6 w6 ⟨k6, H2⟩
  obtain ⟨a2, cc2, rfl, hRN2⟩ : ∃ (a2 : Option Addr) (cc2 : Nat), v6 = .tuple #[.slice a2 L.length cc2, .bool good] ∧ RN w6 a2 L := by
    rcases H2 with ⟨rfl, hng⟩ | ⟨g, M, rfl, hh, _, hb⟩
    · cases good with
      | true => exact (hng (hgood.1 rfl)).elim
      | false => rw [hno rfl]; exact ⟨none, 0, rfl, .inl rfl⟩
    · cases good with
      | false => exact absurd (hgood.2 hh.gd) (by decide)
      | true =>
        have := (hH rfl).one hh
        subst this
        exact ⟨_, _, rfl, RN.blk hb⟩
  have k46 := k5.no k6
  have e6 := k46.get0 e4
  have kw6 := kw4.no k46
  (repeat (first | refine k_nil ?_ | refine k_n ?_ | refine k_r ?_ | refine k_x ?_ | refine b_n ?_ | refine b_r ?_ | refine b_y rfl ?_ | refine b_z rfl ?_ | refine l_r ?_ | refine l_x ?_ | refine k_seq ?_ | refine k_blk ?_ | refine k_reg ?_ | refine k_ret ?_ | refine k_exit ?_ | refine k_skip ?_ | refine Zs ?_))
  refine s_v (r_beq' rfl rfl rfl rfl) ?_
  (repeat (first | refine k_nil ?_ | refine k_n ?_ | refine k_r ?_ | refine k_x ?_ | refine b_n ?_ | refine b_r ?_ | refine b_y rfl ?_ | refine b_z rfl ?_ | refine l_r ?_ | refine l_x ?_ | refine k_seq ?_ | refine k_blk ?_ | refine k_reg ?_ | refine k_ret ?_ | refine k_exit ?_ | refine k_skip ?_ | refine Zs ?_ | refine Zn ?_ | refine Zu ?_ | refine Zg ?_))
  refine s_gv rfl (r_ldb (vs := [.slice ap c.ps.length cp, .slice al c.is.length cl]) rfl rfl rfl e6 rfl rfl) ?_
  refine s_gcall (us := []) (zs := []) rfl (by kernel_rfl) rfl rfl (GoodF c ap al cp cl w6 (hg.kp kw6).tk (hg.kp kw6).sh (hp.kp0 kw6) (hi.kp0 kw6) (by omega) (by omega) hcl hnz) ?_
  rintro _ w7 ⟨k7, r, rfl, hr⟩
  have hrg : r = good := by
    cases r with
    | true => exact (hgood.2 (hr.1 rfl)).symm
    | false => cases good with
      | false => rfl
      | true => exact absurd (hr.2 (hgood.1 rfl)) (by decide)
  (repeat (first | refine k_nil ?_ | refine k_n ?_ | refine k_r ?_ | refine k_x ?_ | refine b_n ?_ | refine b_r ?_ | refine b_y rfl ?_ | refine b_z rfl ?_ | refine l_r ?_ | refine l_x ?_ | refine k_seq ?_ | refine k_blk ?_ | refine k_reg ?_ | refine k_ret ?_ | refine k_exit ?_ | refine k_skip ?_ | refine Zs ?_ | refine Zn ?_ | refine Zu ?_ | refine Zg ?_))
  refine s_gv rfl (r_beq' rfl rfl rfl hrg) ?_
  (repeat (first | refine k_nil ?_ | refine k_n ?_ | refine k_r ?_ | refine k_x ?_ | refine b_n ?_ | refine b_r ?_ | refine b_y rfl ?_ | refine b_z rfl ?_ | refine l_r ?_ | refine l_x ?_ | refine k_seq ?_ | refine k_blk ?_ | refine k_reg ?_ | refine k_ret ?_ | refine k_exit ?_ | refine k_skip ?_ | refine Zs ?_ | refine Zn ?_ | refine Zu ?_ | refine Zg ?_))
  refine s_gcall (us := []) (zs := []) rfl (by kernel_rfl) rfl rfl (intsT L a a2 cc cc2 w7 ((hRN.kp0 k46).kp0 k7) (hRN2.kp0 k7) (by omega)) ?_
  rintro _ w8 ⟨rfl, k8⟩
  (repeat (first | refine k_nil ?_ | refine k_n ?_ | refine k_r ?_ | refine k_x ?_ | refine b_n ?_ | refine b_r ?_ | refine b_y rfl ?_ | refine b_z rfl ?_ | refine l_r ?_ | refine l_x ?_ | refine k_seq ?_ | refine k_blk ?_ | refine k_reg ?_ | refine k_ret ?_ | refine k_exit ?_ | refine k_skip ?_ | refine Zs ?_ | refine Zn ?_ | refine Zu ?_ | refine Zg ?_))
  exact ret_1 rfl rfl ⟨rfl, (kw6.no k7).no k8⟩
end Cd
end Go.Proofs.YtpamkidcmjfieaaGreatDoor
