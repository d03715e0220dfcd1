/- Code: numbers; an instruction's fields. -/
import Derived.Test.YtpamkidcmjfieaaDoorCs
import Derived.Test.YtpamkidcmjfieaaDoorCw
namespace Go.Proofs.YtpamkidcmjfieaaDoor
open Go Go.RowKit Fw Nu
set_option linter.unusedVariables false
set_option maxRecDepth 20000
namespace Cd
def InB (L : List Int) : Prop := ∀ c ∈ L, 0 ≤ c ∧ c < 256
theorem B_str {p : List Int} (h : InB p) : B (strOfNums p) = p := B_nums h
theorem sv_size {p : List Int} (h : InB p) : (strOfNums p).size = p.length := by rw [← B_len, B_str h]
set_option maxHeartbeats 4000000 in
theorem numbers (ps : List (List Int)) (a : Option Addr) (cp : Nat) (w : World) (hg : Lb.Glob w) (h : RS w a ps) (hr : ∀ p ∈ ps, InB p) (hl : ps.length ≤ 1000000) (hpl : ∀ p ∈ ps, p.length ≤ 1000000) :
    Ret Tryd.prog 25 [.slice a ps.length cp] w fun v w1 => Kp No w w1 ∧
      ((∃ (zs : List Int) (a' : Option Addr) (c' : Nat), v = .tuple #[.slice a' zs.length c', .bool true] ∧ ps.map num = zs.map some ∧ w1.ownsRow w.heap.size 3 1 (.slice a' zs.length c') zs.length (zs.map (.int .i64))) ∨ (v = .tuple #[.slice none 0 0, .bool false] ∧ ∃ p ∈ ps, num p = none)) := by
  refine ret_enter Tryd.func25 rfl Tryd.ntmps25 rfl ?_
  (repeat (first | refine k_nil ?_ | refine k_n ?_ | refine k_r ?_ | refine k_x ?_ | refine b_n ?_ | refine b_r ?_ | refine b_y rfl ?_ | refine b_z rfl ?_ | refine l_r ?_ | refine l_x ?_ | refine k_seq ?_ | refine k_blk ?_ | refine k_reg ?_ | refine k_ret ?_ | refine k_exit ?_ | refine k_skip ?_ | refine Zs ?_))
  refine k_loop (σ := List Int × Option Addr × Nat) (fun t => [(4, .slice t.2.1 t.1.length t.2.2), (9, .slice a ps.length cp), (10, .int .i64 ps.length), (11, .int .i64 t.1.length)])
    (fun t m => t.1.length ≤ ps.length ∧ Kp No w m ∧ (ps.take t.1.length).map num = t.1.map some ∧ m.ownsRow w.heap.size 3 1 (.slice t.2.1 t.1.length t.2.2) t.1.length (t.1.map (.int .i64))) (fun t => ps.length - t.1.length) ([], none, 0) ⟨rfl, rfl, rfl, rfl, trivial⟩ ⟨Nat.zero_le _, Kp.refl _ _, rfl, World.ownsRow_nil _ _ _ _⟩ ?_
  rintro ⟨zs, ao, co⟩ l m ⟨hj, km, hmap, own⟩
  simp only at hj hmap own
  try dsimp only
  have zm := km.size
  (repeat (first | refine k_nil ?_ | refine k_n ?_ | refine k_r ?_ | refine k_x ?_ | refine b_n ?_ | refine b_r ?_ | refine b_y rfl ?_ | refine b_z rfl ?_ | refine l_r ?_ | refine l_x ?_ | refine k_seq ?_ | refine k_blk ?_ | refine k_reg ?_ | refine k_ret ?_ | refine k_exit ?_ | refine k_skip ?_ | refine Zs ?_))
  refine c_dec rfl (fun hlt => ?_) (fun hge => ?_)
  · obtain ⟨p, hx⟩ : ∃ p, ps[zs.length]? = some p := ⟨_, List.getElem?_eq_getElem (by omega)⟩
    have hpm := List.mem_of_getElem? hx
    obtain ⟨b, o, rfl, _, hc⟩ := (h.kp0 km).at hx
    have hc' : m.cell? ⟨b, o + (zs.length : Int).toNat * 1, none⟩ = some (.string (strOfNums p)) := hc
    (repeat (first | refine k_nil ?_ | refine k_n ?_ | refine k_r ?_ | refine k_x ?_ | refine b_n ?_ | refine b_r ?_ | refine b_y rfl ?_ | refine b_z rfl ?_ | refine l_r ?_ | refine l_x ?_ | refine k_seq ?_ | refine k_blk ?_ | refine k_reg ?_ | refine k_ret ?_ | refine k_exit ?_ | refine k_skip ?_ | refine Zs ?_))
    refine s_v (r_ia (i := zs.length) rfl rfl rfl rfl (by omega) (by omega)) ?_
    (repeat (first | refine k_nil ?_ | refine k_n ?_ | refine k_r ?_ | refine k_x ?_ | refine b_n ?_ | refine b_r ?_ | refine b_y rfl ?_ | refine b_z rfl ?_ | refine l_r ?_ | refine l_x ?_ | refine k_seq ?_ | refine k_blk ?_ | refine k_reg ?_ | refine k_ret ?_ | refine k_exit ?_ | refine k_skip ?_ | refine Zs ?_))
    refine s_call (us := []) (zs := []) (by kernel_rfl) rfl rfl (Lb.Atoi (strOfNums p) m (hg.kp km) (by rw [sv_size (hr p hpm)]; have := hpl p hpm; omega)) ?_
    rintro _ m1 ⟨k1, ⟨n, rfl, h1, hI⟩ | ⟨n, t, pp, rfl, hbad⟩⟩
    · have hnum := Lb.num_ok h1
      rw [B_str (hr p hpm)] at hnum
      (repeat (first | refine k_nil ?_ | refine k_n ?_ | refine k_r ?_ | refine k_x ?_ | refine b_n ?_ | refine b_r ?_ | refine b_y rfl ?_ | refine b_z rfl ?_ | refine l_r ?_ | refine l_x ?_ | refine k_seq ?_ | refine k_blk ?_ | refine k_reg ?_ | refine k_ret ?_ | refine k_exit ?_ | refine k_skip ?_ | refine Zs ?_))
      refine s_v (r_ine Tryd.underlying80 rfl rfl rfl) ?_
      (repeat (first | refine k_nil ?_ | refine k_n ?_ | refine k_r ?_ | refine k_x ?_ | refine b_n ?_ | refine b_r ?_ | refine b_y rfl ?_ | refine b_z rfl ?_ | refine l_r ?_ | refine l_x ?_ | refine k_seq ?_ | refine k_blk ?_ | refine k_reg ?_ | refine k_ret ?_ | refine k_exit ?_ | refine k_skip ?_ | refine Zs ?_))
      refine s_set 22 false rfl rfl ?_
      (repeat (first | refine k_nil ?_ | refine k_n ?_ | refine k_r ?_ | refine k_x ?_ | refine b_n ?_ | refine b_r ?_ | refine b_y rfl ?_ | refine b_z rfl ?_ | refine l_r ?_ | refine l_x ?_ | refine k_seq ?_ | refine k_blk ?_ | refine k_reg ?_ | refine k_ret ?_ | refine k_exit ?_ | refine k_skip ?_ | refine Zs ?_ | refine Zn ?_ | refine Zu ?_ | refine Zg ?_))
      refine s_gcall (us := []) (zs := []) rfl (by kernel_rfl) rfl rfl (Lb.Itoa n m1 ((hg.kp km).kp k1) hI) ?_
      rintro _ m2 ⟨⟨d, rfl, hd⟩, k2⟩
      (repeat (first | refine k_nil ?_ | refine k_n ?_ | refine k_r ?_ | refine k_x ?_ | refine b_n ?_ | refine b_r ?_ | refine b_y rfl ?_ | refine b_z rfl ?_ | refine l_r ?_ | refine l_x ?_ | refine k_seq ?_ | refine k_blk ?_ | refine k_reg ?_ | refine k_ret ?_ | refine k_exit ?_ | refine k_skip ?_ | refine Zs ?_ | refine Zn ?_ | refine Zu ?_ | refine Zg ?_))
      have km2 := (km.no k1).no k2
      refine c_b rfl (fun hb => ?_) (fun hb => ?_)
      · have hne : ¬ dc n = p := fun e => by
          have hb : (!(d.toList == (strOfNums p).toList)) = true := hb
          rw [str_eq, hd, B_str (hr p hpm), e] at hb
          simp at hb
        (repeat (first | refine k_nil ?_ | refine k_n ?_ | refine k_r ?_ | refine k_x ?_ | refine b_n ?_ | refine b_r ?_ | refine b_y rfl ?_ | refine b_z rfl ?_ | refine l_r ?_ | refine l_x ?_ | refine k_seq ?_ | refine k_blk ?_ | refine k_reg ?_ | refine k_ret ?_ | refine k_exit ?_ | refine k_skip ?_ | refine Zs ?_))
        exact ret_2 rfl rfl rfl ⟨km2, .inr ⟨rfl, p, hpm, by rw [hnum, if_neg hne]⟩⟩
      · have heq : dc n = p := by
          have hb : (!(d.toList == (strOfNums p).toList)) = false := hb
          rw [str_eq, hd, B_str (hr p hpm)] at hb
          simpa using hb
        rw [if_pos heq] at hnum
        have own2 := own_kp (own_kp own k1 (fun _ _ => id)) k2 (fun _ _ => id)
        have zm2 := km2.size
        (repeat (first | refine k_nil ?_ | refine k_n ?_ | refine k_r ?_ | refine k_x ?_ | refine b_n ?_ | refine b_r ?_ | refine b_y rfl ?_ | refine b_z rfl ?_ | refine l_r ?_ | refine l_x ?_ | refine k_seq ?_ | refine k_blk ?_ | refine k_reg ?_ | refine k_ret ?_ | refine k_exit ?_ | refine k_skip ?_ | refine Zs ?_))
        refine s_bs (cs := [.int .i64 n]) (e := 3) rfl (fun b6 w6 n6 => ?_)
        have own6 := own_kp own2 n6.kp (fun _ _ => id)
        have z6 := n6.kp.size
        have g6 := n6.ge
        refine s_app (size := 1) (bytes := 8) (base := w.heap.size) (news := [.int .i64 n]) rfl rfl rfl rfl rfl rfl rfl rfl own6 rfl (blk_cells n6.blk) rfl rfl (by omega) (by omega) (by omega) ?_
        rintro v w7 ⟨own7, k7, _, hrow⟩
        have own8 := own7
        obtain ⟨a', c', rfl, hc, hnn, hcell⟩ := own_read own7
        have hbs : ∀ g, (Value.slice ao zs.length co).ownBlock = some g → w.heap.size ≤ g := fun g e => (own_lt own6 e).1
        have hl1 : (zs ++ [n]).length = zs.length + 1 := by simp
        (repeat (first | refine k_nil ?_ | refine k_n ?_ | refine k_r ?_ | refine k_x ?_ | refine b_n ?_ | refine b_r ?_ | refine b_y rfl ?_ | refine b_z rfl ?_ | refine l_r ?_ | refine l_x ?_ | refine k_seq ?_ | refine k_blk ?_ | refine k_reg ?_ | refine k_ret ?_ | refine k_exit ?_ | refine k_skip ?_ | refine Zs ?_))
        refine l_next (zs ++ [n], a', c') ⟨by rw [hl1]; rfl, rfl, rfl, by rw [hl1]; rfl, trivial⟩ ⟨by show (zs ++ [n]).length ≤ _; omega, (km2.no n6.kp).trans k7 (fun g hgw e => by have := hbs g e.symm; omega), ?_, ?_⟩ (by show ps.length - (zs ++ [n]).length < ps.length - zs.length; omega)
        · show (ps.take (zs ++ [n]).length).map num = (zs ++ [n]).map some
          rw [hl1, List.take_add_one, hx, List.map_append, hmap, List.map_append]
          simp [hnum]
        · show w7.ownsRow w.heap.size 3 1 (.slice a' (zs ++ [n]).length c') (zs ++ [n]).length ((zs ++ [n]).map (.int .i64))
          rw [hl1, List.map_append]; exact own8
    · have hnum := Lb.num_bad hbad
      rw [B_str (hr p hpm)] at hnum
      (repeat (first | refine k_nil ?_ | refine k_n ?_ | refine k_r ?_ | refine k_x ?_ | refine b_n ?_ | refine b_r ?_ | refine b_y rfl ?_ | refine b_z rfl ?_ | refine l_r ?_ | refine l_x ?_ | refine k_seq ?_ | refine k_blk ?_ | refine k_reg ?_ | refine k_ret ?_ | refine k_exit ?_ | refine k_skip ?_ | refine Zs ?_))
      refine s_v (r_ine Tryd.underlying80 rfl rfl rfl) ?_
      (repeat (first | refine k_nil ?_ | refine k_n ?_ | refine k_r ?_ | refine k_x ?_ | refine b_n ?_ | refine b_r ?_ | refine b_y rfl ?_ | refine b_z rfl ?_ | refine l_r ?_ | refine l_x ?_ | refine k_seq ?_ | refine k_blk ?_ | refine k_reg ?_ | refine k_ret ?_ | refine k_exit ?_ | refine k_skip ?_ | refine Zs ?_))
      refine s_set 22 true rfl rfl ?_
      (repeat (first | refine k_nil ?_ | refine k_n ?_ | refine k_r ?_ | refine k_x ?_ | refine b_n ?_ | refine b_r ?_ | refine b_y rfl ?_ | refine b_z rfl ?_ | refine l_r ?_ | refine l_x ?_ | refine k_seq ?_ | refine k_blk ?_ | refine k_reg ?_ | refine k_ret ?_ | refine k_exit ?_ | refine k_skip ?_ | refine Zs ?_ | refine Zn ?_ | refine Zu ?_ | refine Zg ?_))
      refine c_t rfl ?_
      (repeat (first | refine k_nil ?_ | refine k_n ?_ | refine k_r ?_ | refine k_x ?_ | refine b_n ?_ | refine b_r ?_ | refine b_y rfl ?_ | refine b_z rfl ?_ | refine l_r ?_ | refine l_x ?_ | refine k_seq ?_ | refine k_blk ?_ | refine k_reg ?_ | refine k_ret ?_ | refine k_exit ?_ | refine k_skip ?_ | refine Zs ?_))
      exact ret_2 rfl rfl rfl ⟨km.no k1, .inr ⟨rfl, p, hpm, hnum⟩⟩
  · have he : zs.length = ps.length := by omega
    rw [he, List.take_length] at hmap
    (repeat (first | refine k_nil ?_ | refine k_n ?_ | refine k_r ?_ | refine k_x ?_ | refine b_n ?_ | refine b_r ?_ | refine b_y rfl ?_ | refine b_z rfl ?_ | refine l_r ?_ | refine l_x ?_ | refine k_seq ?_ | refine k_blk ?_ | refine k_reg ?_ | refine k_ret ?_ | refine k_exit ?_ | refine k_skip ?_ | refine Zs ?_))
    exact ret_2 rfl rfl rfl ⟨km, .inl ⟨zs, ao, co, rfl, hmap, own⟩⟩
end Cd
end Go.Proofs.YtpamkidcmjfieaaDoor
