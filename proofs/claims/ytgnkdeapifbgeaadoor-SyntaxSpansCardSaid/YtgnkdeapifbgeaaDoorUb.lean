/- Tokens' texts: walks. -/
import Derived.Test.YtgnkdeapifbgeaaDoorUa
import Derived.Test.YtgnkdeapifbgeaaDoorProg
namespace Go.Proofs.YtgnkdeapifbgeaaDoor.Tk
open Go Go.RowKit Fw
set_option linter.unusedVariables false
set_option maxRecDepth 20000
theorem rd_of {w : World} {base c : Nat} {T : TypeId} {a : Option Addr} {ls : List ByteArray} (h : w.ownsRow base T 1 (.slice a ls.length c) ls.length (sc ls)) : Rd w a ls := by
  obtain ⟨a', c', e, hc, ha, hr⟩ := own_read h
  simp only [Value.slice.injEq, true_and] at e
  obtain ⟨rfl, rfl⟩ := e
  cases a with
  | none => exact .inl (List.length_eq_zero_iff.1 (ha rfl))
  | some ad =>
    obtain ⟨g, rfl, _, _, hcell⟩ := hr _ rfl
    exact .inr ⟨g, 0, rfl, fun j s hj => hcell j _ (sc_get hj)⟩
theorem Cut (s : ByteArray) (f t : Int) (w : World) (hf : 0 ≤ f) (hft : f ≤ t) (ht : t ≤ s.size) :
    Ret Tryd.prog 25 [.string s, .agg #[.int .i64 f, .int .i64 t]] w fun v w1 => v = .string (s.extract f.toNat t.toNat) ∧ Kp No w w1 := by
  refine ret_enter Tryd.func25 rfl Tryd.ntmps25 rfl ?_
  (repeat (first | refine k_nil ?_ | refine k_n ?_ | refine k_r ?_ | refine k_x ?_ | refine b_n ?_ | refine b_r ?_ | refine b_y rfl ?_ | refine b_z rfl ?_ | refine l_r ?_ | refine l_x ?_ | refine k_seq ?_ | refine k_blk ?_ | refine k_reg ?_ | refine k_ret ?_ | refine k_exit ?_ | refine k_skip ?_ | refine Zs ?_))
  refine s_box rfl rfl (fun b1 w1 n1 => ?_)
  have h1 : w1.heap[b1]? = some (.cells [.int .i64 f, .int .i64 t].toArray 32 (0, 0)) := n1.blk
  (repeat (first | refine k_nil ?_ | refine k_n ?_ | refine k_r ?_ | refine k_x ?_ | refine b_n ?_ | refine b_r ?_ | refine b_y rfl ?_ | refine b_z rfl ?_ | refine l_r ?_ | refine l_x ?_ | refine k_seq ?_ | refine k_blk ?_ | refine k_reg ?_ | refine k_ret ?_ | refine k_exit ?_ | refine k_skip ?_ | refine Zs ?_))
  refine s_v (r_ss rfl rfl rfl rfl (by omega) (by omega) (by omega)) ?_
  (repeat (first | refine k_nil ?_ | refine k_n ?_ | refine k_r ?_ | refine k_x ?_ | refine b_n ?_ | refine b_r ?_ | refine b_y rfl ?_ | refine b_z rfl ?_ | refine l_r ?_ | refine l_x ?_ | refine k_seq ?_ | refine k_blk ?_ | refine k_reg ?_ | refine k_ret ?_ | refine k_exit ?_ | refine k_skip ?_ | refine Zs ?_))
  exact ret_1 rfl rfl ⟨rfl, n1.kp⟩
theorem Text (s : ByteArray) (a : Option Addr) (c : Nat) (ts : List T3) (w : World) (h : RdT w a ts) (hl : ts.length ≤ 100000) (hb : ∀ t ∈ ts, 0 ≤ t.2.1 ∧ t.2.1 ≤ t.2.2 ∧ t.2.2 ≤ (s.size : Int)) :
    Ret Tryd.prog 16 [.string s, .slice a ts.length c] w fun v w1 => w1.ownsRow w.heap.size 9 1 v ts.length (sc (ts.map (tx s))) ∧ Kp No w w1 := by
  refine ret_enter Tryd.func16 rfl Tryd.ntmps16 rfl ?_
  (repeat (first | refine k_nil ?_ | refine k_n ?_ | refine k_r ?_ | refine k_x ?_ | refine b_n ?_ | refine b_r ?_ | refine b_y rfl ?_ | refine b_z rfl ?_ | refine l_r ?_ | refine l_x ?_ | refine k_seq ?_ | refine k_blk ?_ | refine k_reg ?_ | refine k_ret ?_ | refine k_exit ?_ | refine k_skip ?_ | refine Zs ?_))
  refine k_loop (σ := Nat × Value) (fun t => [(0, .string s), (5, t.2), (8, .slice a ts.length c), (9, .int .i64 ts.length), (10, .int .i64 t.1)])
    (fun t w' => t.1 ≤ ts.length ∧ w'.ownsRow w.heap.size 9 1 t.2 t.1 (sc ((ts.take t.1).map (tx s))) ∧ Kp No w w') (fun t => ts.length - t.1) (0, .slice none 0 0) ⟨rfl, rfl, rfl, rfl, rfl, trivial⟩ ⟨Nat.zero_le _, ⟨by simp [sc], .inl ⟨rfl, rfl⟩⟩, Kp.refl _ _⟩ ?_
  rintro ⟨i, v⟩ l w1 ⟨hi, hown, k1⟩
  simp only at hi hown
  dsimp only
  obtain ⟨av, cv, rfl, _, _, _⟩ := own_read hown
  (repeat (first | refine k_nil ?_ | refine k_n ?_ | refine k_r ?_ | refine k_x ?_ | refine b_n ?_ | refine b_r ?_ | refine b_y rfl ?_ | refine b_z rfl ?_ | refine l_r ?_ | refine l_x ?_ | refine k_seq ?_ | refine k_blk ?_ | refine k_reg ?_ | refine k_ret ?_ | refine k_exit ?_ | refine k_skip ?_ | refine Zs ?_))
  refine c_dec rfl (fun hlt => ?_) (fun hge => ?_)
  · obtain ⟨t, ht⟩ : ∃ t, ts[i]? = some t := ⟨_, List.getElem?_eq_getElem (by omega)⟩
    have htb := hb t (List.mem_of_getElem? ht)
    obtain ⟨b, o, rfl, hct⟩ := (h.kp0 k1).at ht
    (repeat (first | refine k_nil ?_ | refine k_n ?_ | refine k_r ?_ | refine k_x ?_ | refine b_n ?_ | refine b_r ?_ | refine b_y rfl ?_ | refine b_z rfl ?_ | refine l_r ?_ | refine l_x ?_ | refine k_seq ?_ | refine k_blk ?_ | refine k_reg ?_ | refine k_ret ?_ | refine k_exit ?_ | refine k_skip ?_ | refine Zs ?_))
    refine s_v (r_ia rfl rfl rfl rfl (by omega) (by omega)) ?_
    refine s_v (r_lda (n := 3) rfl rfl rfl rfl (hct w1 (Kp.refl _ _))) ?_
    refine s_al rfl (fun b7 w2 n2 => ?_)
    refine s_st rfl rfl rfl rfl rfl n2.blk (Nat.le_of_ble_eq_true rfl) (fun w3 s3 => ?_)
    have y2 := n2.ge
    have x2 := n2.lt
    have z3 := s3.sz
    have z1 := k1.size
    have z2 := n2.kp.size
    have k3 : Kp No w1 w3 := n2.kp.trans s3.kp (fun _ _ e => by omega)
    have hb7 : w3.heap[b7]? = some (.cells [.int .i64 t.1, .int .i64 t.2.1, .int .i64 t.2.2].toArray 70 (0, 0)) := s3.blk
    have own3 := own_kp hown k3 (fun _ _ => id)
    (repeat (first | refine k_nil ?_ | refine k_n ?_ | refine k_r ?_ | refine k_x ?_ | refine b_n ?_ | refine b_r ?_ | refine b_y rfl ?_ | refine b_z rfl ?_ | refine l_r ?_ | refine l_x ?_ | refine k_seq ?_ | refine k_blk ?_ | refine k_reg ?_ | refine k_ret ?_ | refine k_exit ?_ | refine k_skip ?_ | refine Zs ?_))
    refine s_v (r_ldb (vs := [.int .i64 t.2.1, .int .i64 t.2.2]) rfl rfl rfl hb7 rfl rfl) ?_
    refine s_call (us := []) (zs := []) (by kernel_rfl) rfl rfl (Cut s t.2.1 t.2.2 w3 htb.1 htb.2.1 htb.2.2) ?_
    rintro _ w4 ⟨rfl, k4⟩
    have z4 := k4.size
    refine s_bs rfl (fun b8 w5 n5 => ?_)
    have z5 := n5.kp.size
    have own5 := own_kp (own_kp own3 k4 (fun _ _ => id)) n5.kp (fun _ _ => id)
    refine s_app (size := 1) (bytes := 16) (base := w.heap.size) (news := [.string (s.extract t.2.1.toNat t.2.2.toNat)]) rfl rfl rfl rfl rfl rfl rfl rfl own5 rfl (blk_cells n5.blk) rfl rfl (by omega) (by omega) (by omega) ?_
    intro v6 w6 a6
    obtain ⟨a6', c6, rfl, _, _, _⟩ := own_read a6.own
    (repeat (first | refine k_nil ?_ | refine k_n ?_ | refine k_r ?_ | refine k_x ?_ | refine b_n ?_ | refine b_r ?_ | refine b_y rfl ?_ | refine b_z rfl ?_ | refine l_r ?_ | refine l_x ?_ | refine k_seq ?_ | refine k_blk ?_ | refine k_reg ?_ | refine k_ret ?_ | refine k_exit ?_ | refine k_skip ?_ | refine Zs ?_))
    refine l_next (i + 1, .slice a6' (i + 1) c6) ⟨rfl, rfl, rfl, rfl, rfl, trivial⟩ ⟨by show i + 1 ≤ ts.length; omega, ?_, (((k1.no k3).no k4).no n5.kp).trans a6.kp (fun j hj e => by have := (own_lt hown e.symm).1; omega)⟩ (by show ts.length - (i + 1) < ts.length - i; omega)
    have := a6.own
    show w6.ownsRow w.heap.size 9 1 (.slice a6' (i + 1) c6) (i + 1) (sc ((ts.take (i + 1)).map (tx s)))
    rw [List.take_add_one, ht]
    simpa [sc, tx] using this
  · have : i = ts.length := by omega
    subst this
    rw [List.take_length] at hown
    (repeat (first | refine k_nil ?_ | refine k_n ?_ | refine k_r ?_ | refine k_x ?_ | refine b_n ?_ | refine b_r ?_ | refine b_y rfl ?_ | refine b_z rfl ?_ | refine l_r ?_ | refine l_x ?_ | refine k_seq ?_ | refine k_blk ?_ | refine k_reg ?_ | refine k_ret ?_ | refine k_exit ?_ | refine k_skip ?_ | refine Zs ?_))
    exact ret_1 rfl rfl ⟨hown, k1⟩
end Go.Proofs.YtgnkdeapifbgeaaDoor.Tk
