/- The parser's small parts. -/
import Derived.Test.YtgnkdeapifbgeaaDoorGb
namespace Go.Proofs.YtgnkdeapifbgeaaDoor.Sy
open Go Go.RowKit Fw
set_option linter.unusedVariables false
set_option maxRecDepth 20000
/-- Where the tokens, and the texts, lie. -/
theorem At.tokens {X : Cx} {w : World} {s : PS} {V : VS} (h : At X w s V) : ∃ g c, X.tv = .slice (some ⟨g, 0, none⟩) X.T.length c ∧ ∀ (i : Nat) (t : Tk.T3), X.T[i]? = some t →
    w.cell? ⟨g, 0 + (i : Int).toNat * 3, none⟩ = some (.int .i64 t.1) ∧ w.cell? ⟨g, 0 + (i : Int).toNat * 3 + 1, none⟩ = some (.int .i64 t.2.1) ∧ w.cell? ⟨g, 0 + (i : Int).toNat * 3 + 2, none⟩ = some (.int .i64 t.2.2) := by
  obtain ⟨a, c, e, hnc, h0, hr⟩ := own_read h.tk
  cases a with
  | none => have := h0 rfl; have := h.lt; omega
  | some ad =>
    obtain ⟨g, rfl, _, _, hc⟩ := hr _ rfl
    refine ⟨g, c, e, fun i t ht => ?_⟩
    obtain ⟨h1, h2, h3⟩ := Tk.tc_get ht
    exact ⟨hc _ _ h1, hc _ _ h2, hc _ _ h3⟩
theorem At.texts {X : Cx} {w : World} {s : PS} {V : VS} (h : At X w s V) (ok : Ok X) : ∃ g c, X.wv = .slice (some ⟨g, 0, none⟩) X.wl.length c ∧ ∀ (i : Nat) (x : ByteArray), X.wl[i]? = some x → w.cell? ⟨g, 0 + (i : Int).toNat * 1, none⟩ = some (.string x) := by
  obtain ⟨a, c, e, hnc, h0, hr⟩ := own_read h.wd
  cases a with
  | none => have := h0 rfl; have := h.lt; have := ok.len; omega
  | some ad =>
    obtain ⟨g, rfl, _, _, hc⟩ := hr _ rfl
    refine ⟨g, c, e, fun i x hx => ?_⟩
    have := hc i (.string x) (by rw [List.getElem?_map, hx]; rfl)
    simpa using this
theorem hereF {X : Cx} {w : World} {s : PS} {V : VS} (h : At X w s V) (ok : Ok X) : Ret Tryd.prog 26 [.pointer (some ⟨X.p, 0, none⟩)] w fun v w1 => v = .int .i64 (hr X.E s) ∧ Kp No w w1 := by
  obtain ⟨t, x, ht, hx, e1, e2, e3⟩ := h.tok ok
  obtain ⟨g, c, e, hc⟩ := h.tokens
  obtain ⟨c1, c2, c3⟩ := hc _ _ ht
  have hb := h.blk
  rw [e] at hb
  have hl := h.lt
  refine ret_enter Tryd.func26 rfl Tryd.ntmps26 rfl ?_
  (repeat (first | refine k_nil ?_ | refine k_n ?_ | refine k_r ?_ | refine k_x ?_ | refine b_n ?_ | refine b_r ?_ | refine b_y rfl ?_ | refine b_z rfl ?_ | refine l_r ?_ | refine l_x ?_ | refine k_seq ?_ | refine k_blk ?_ | refine k_reg ?_ | refine k_ret ?_ | refine k_exit ?_ | refine k_skip ?_ | refine Zs ?_))
  refine k_q (by kernel_rfl) (by kernel_rfl) ?_
  (repeat (first | refine Zq ?_ | refine Zqn ?_ | refine Zqu ?_ | refine Zqg ?_))
  refine q_nil (fun w1 k1 => ?_)
  (repeat (first | refine k_nil ?_ | refine k_n ?_ | refine k_r ?_ | refine k_x ?_ | refine b_n ?_ | refine b_r ?_ | refine b_y rfl ?_ | refine b_z rfl ?_ | refine l_r ?_ | refine l_x ?_ | refine k_seq ?_ | refine k_blk ?_ | refine k_reg ?_ | refine k_ret ?_ | refine k_exit ?_ | refine k_skip ?_ | refine Zs ?_))
  exact ret_1 rfl rfl ⟨by rw [e2], k1⟩
theorem any_eq (ls : List ByteArray) (x : ByteArray) : (ls.any fun y => x.toList == y.toList) = decide (B x ∈ ls.map B) := by
  simp only [str_eq]
  rw [Bool.eq_iff_iff, List.any_eq_true, decide_eq_true_eq, List.mem_map]
  constructor
  · rintro ⟨y, hy, h⟩; exact ⟨y, hy, (of_decide_eq_true h).symm⟩
  · rintro ⟨y, hy, h⟩; exact ⟨y, hy, decide_eq_true h.symm⟩
theorem nz {x : ByteArray} (h : B x ≠ []) : (x.toList == (⟨#[]⟩ : ByteArray).toList) = false := by
  rw [str_eq]; exact decide_eq_false h
theorem ez : ((⟨#[]⟩ : ByteArray).toList == (⟨#[]⟩ : ByteArray).toList) = true := by rw [str_eq]; exact decide_eq_true rfl
theorem isF {X : Cx} {w : World} {s : PS} {V : VS} (h : At X w s V) (ok : Ok X) (ls : List ByteArray) (a : Option Addr) (c : Nat) (hr : Tk.Rd w a ls) (hl : ls.length ≤ 1000) (hn : [] ∉ ls.map B) :
    Ret Tryd.prog 27 [.pointer (some ⟨X.p, 0, none⟩), .slice a ls.length c] w fun v w1 => v = .bool (decide (Sy.wd X.E s ∈ ls.map B)) ∧ Kp No w w1 := by
  obtain ⟨t, x, ht, hx, e1, e2, e3⟩ := h.tok ok
  obtain ⟨g, cw, e, hc⟩ := h.texts ok
  have c1 := hc _ _ hx
  have hb := h.blk
  rw [e] at hb
  have hlt := h.lt
  have hll := ok.len
  rw [e3]
  refine ret_enter Tryd.func27 rfl Tryd.ntmps27 rfl ?_
  (repeat (first | refine k_nil ?_ | refine k_n ?_ | refine k_r ?_ | refine k_x ?_ | refine b_n ?_ | refine b_r ?_ | refine b_y rfl ?_ | refine b_z rfl ?_ | refine l_r ?_ | refine l_x ?_ | refine k_seq ?_ | refine k_blk ?_ | refine k_reg ?_ | refine k_ret ?_ | refine k_exit ?_ | refine k_skip ?_ | refine Zs ?_))
  refine k_q (by kernel_rfl) (by kernel_rfl) ?_
  (repeat (first | refine Zq ?_ | refine Zqn ?_ | refine Zqu ?_ | refine Zqg ?_))
  refine q_call (us := []) (zs := []) (v := .bool (ls.any fun y => x.toList == y.toList)) (by kernel_rfl) rfl rfl (fun w' hw => (Tk.Contains ls a c x w' (hr.kp hw) hl).mono (by rintro _ _ ⟨rfl, rfl⟩; exact ⟨rfl, hw⟩)) ?_
  (repeat (first | refine Zq ?_ | refine Zqn ?_ | refine Zqu ?_ | refine Zqg ?_))
  by_cases q : B x ∈ ls.map B
  · refine q_set 17 true rfl (by rw [any_eq]; exact decide_eq_true q) ?_
    (repeat (first | refine Zq ?_ | refine Zqn ?_ | refine Zqu ?_ | refine Zqg ?_))
    refine q_nil (fun w1 k1 => ?_)
    (repeat (first | refine k_nil ?_ | refine k_n ?_ | refine k_r ?_ | refine k_x ?_ | refine b_n ?_ | refine b_r ?_ | refine b_y rfl ?_ | refine b_z rfl ?_ | refine l_r ?_ | refine l_x ?_ | refine k_seq ?_ | refine k_blk ?_ | refine k_reg ?_ | refine k_ret ?_ | refine k_exit ?_ | refine k_skip ?_ | refine Zs ?_))
    refine ret_1 rfl rfl ⟨?_, k1⟩
    have hz := nz (x := x) (fun e => hn (e ▸ q))
    show Value.bool (!(x.toList == _)) = _
    rw [hz, decide_eq_true q]; rfl
  · refine q_set 17 false rfl (by rw [any_eq]; exact decide_eq_false q) ?_
    (repeat (first | refine Zq ?_ | refine Zqn ?_ | refine Zqu ?_ | refine Zqg ?_))
    refine q_nil (fun w1 k1 => ?_)
    (repeat (first | refine k_nil ?_ | refine k_n ?_ | refine k_r ?_ | refine k_x ?_ | refine b_n ?_ | refine b_r ?_ | refine b_y rfl ?_ | refine b_z rfl ?_ | refine l_r ?_ | refine l_x ?_ | refine k_seq ?_ | refine k_blk ?_ | refine k_reg ?_ | refine k_ret ?_ | refine k_exit ?_ | refine k_skip ?_ | refine Zs ?_))
    exact ret_1 rfl rfl ⟨by rw [decide_eq_false q], k1⟩
theorem failF {X : Cx} {w : World} {s : PS} {V : VS} (h : At X w s V) (ok : Ok X) (k : Int) :
    RetP Tryd.prog 28 [.pointer (some ⟨X.p, 0, none⟩), .int .i64 k] w (fun _ _ => False) fun c w1 => c = thrown k (hr X.E s) ∧ Kp No w w1 := by
  refine retP_enter Tryd.func28 rfl Tryd.ntmps28 rfl ?_
  (repeat (first | refine k_nil ?_ | refine k_n ?_ | refine k_r ?_ | refine k_x ?_ | refine b_n ?_ | refine b_r ?_ | refine b_y rfl ?_ | refine b_z rfl ?_ | refine l_r ?_ | refine l_x ?_ | refine k_seq ?_ | refine k_blk ?_ | refine k_reg ?_ | refine k_ret ?_ | refine k_exit ?_ | refine k_skip ?_ | refine Zs ?_))
  refine s_call (us := []) (zs := []) (by kernel_rfl) rfl rfl (hereF h ok) ?_
  rintro v w1 ⟨rfl, k1⟩
  (repeat (first | refine k_nil ?_ | refine k_n ?_ | refine k_r ?_ | refine k_x ?_ | refine b_n ?_ | refine b_r ?_ | refine b_y rfl ?_ | refine b_z rfl ?_ | refine l_r ?_ | refine l_x ?_ | refine k_seq ?_ | refine k_blk ?_ | refine k_reg ?_ | refine k_ret ?_ | refine k_exit ?_ | refine k_skip ?_ | refine Zs ?_))
  refine s_v (r_mi rfl rfl rfl) ?_
  exact s_panic rfl ⟨rfl, k1⟩
/-- The parser's place, one on. -/
theorem At.adv {X : Cx} {w w1 : World} {s : PS} {V : VS} (h : At X w s V) (ok : Ok X) (hne : Sy.wd X.E s ≠ [] ∨ kd X.E s ≠ 0) (k : Sb w X.p [X.tv, X.wv, .int .i64 ((s.i + 1 : Nat) : Int), V.x, V.s, V.f] 64 w1) : Sg X w V w1 (adv s) V := by
  obtain ⟨t, x, ht, hx, e1, e2, e3⟩ := h.tok ok
  have hlt : s.i + 1 < X.T.length := by
    rcases Nat.lt_or_ge (s.i + 1) X.T.length with h1 | h1
    · exact h1
    · have h2 : s.i + 1 = X.T.length := by have := h.lt; omega
      rcases hne with hne | hne
      · exact (hne (by rw [e3]; exact ok.lastw _ _ hx h2)).elim
      · exact (hne (by rw [e1]; exact ok.last _ _ ht h2)).elim
  have hk : ∀ {base : Nat} {e : TypeId} {size : Nat} {v : Value} {n : Nat} {cs : List Value}, w.ownsRow base e size v n cs → Nat.beq e 64 = false → w1.ownsRow base e size v n cs := fun ho he => own_kp ho k.kp fun g hg => by
    obtain ⟨c, hc⟩ := own_ty ho hg
    exact ty_ne hc h.blk he
  obtain ⟨rx, a1, o1, l1⟩ := h.xs
  obtain ⟨ry, a2, o2, l2⟩ := h.ss
  obtain ⟨rz, a3, o3, l3⟩ := h.fs
  exact ⟨⟨k.blk, hk h.tk rfl, hk h.wd rfl, ⟨rx, a1, hk o1 rfl, fun r hr => ⟨hk (l1 r hr).1 rfl, (l1 r hr).2⟩⟩, ⟨ry, a2, hk o2 rfl, fun r hr => ⟨⟨hk (l2 r hr).1.1 rfl, (l2 r hr).1.2⟩, hk (l2 r hr).2.1 rfl, (l2 r hr).2.2⟩⟩, ⟨rz, a3, hk o3 rfl, fun r hr => ⟨⟨hk (l3 r hr).1.1 rfl, (l3 r hr).1.2⟩, hk (l3 r hr).2.1 rfl, (l3 r hr).2.2⟩⟩,
    hlt, by have := h.xl; show s.ex.length ≤ s.i + 1; omega, h.sl, h.fl, fun b hb => Nat.lt_of_lt_of_le (h.ob b hb) k.kp.size⟩, ⟨k.kp.mono fun i _ e => .inl e, fun b _ hs => hs, fun b _ hs => hs⟩⟩
theorem takeF {X : Cx} {w : World} {s : PS} {V : VS} (h : At X w s V) (ok : Ok X) (ls : List ByteArray) (a : Option Addr) (c : Nat) (hr : Tk.Rd w a ls) (hl : ls.length ≤ 1000) (hn : [] ∉ ls.map B) :
    Ret Tryd.prog 31 [.pointer (some ⟨X.p, 0, none⟩), .slice a ls.length c] w fun v w1 => ∃ x, B x = Sy.wd X.E s ∧
      ((Sy.wd X.E s ∈ ls.map B ∧ v = .string x ∧ (x.toList == (⟨#[]⟩ : ByteArray).toList) = false ∧ Sg X w V w1 (adv s) V) ∨ (Sy.wd X.E s ∉ ls.map B ∧ v = .string ⟨#[]⟩ ∧ Kp No w w1)) := by
  obtain ⟨t, x, ht, hx, e1, e2, e3⟩ := h.tok ok
  have hlt := h.lt
  have hll := ok.len
  have hbig := ok.big
  refine ret_enter Tryd.func31 rfl Tryd.ntmps31 rfl ?_
  (repeat (first | refine k_nil ?_ | refine k_n ?_ | refine k_r ?_ | refine k_x ?_ | refine b_n ?_ | refine b_r ?_ | refine b_y rfl ?_ | refine b_z rfl ?_ | refine l_r ?_ | refine l_x ?_ | refine k_seq ?_ | refine k_blk ?_ | refine k_reg ?_ | refine k_ret ?_ | refine k_exit ?_ | refine k_skip ?_ | refine Zs ?_))
  refine s_call (us := []) (zs := []) (by kernel_rfl) rfl rfl (isF h ok ls a c hr hl hn) ?_
  rintro v w1 ⟨rfl, k1⟩
  have h1 := h.no k1
  obtain ⟨g, cw, e, hc⟩ := h1.texts ok
  have c1 := hc _ _ hx
  have hb := h1.blk
  rw [e] at hb
  (repeat (first | refine k_nil ?_ | refine k_n ?_ | refine k_r ?_ | refine k_x ?_ | refine b_n ?_ | refine b_r ?_ | refine b_y rfl ?_ | refine b_z rfl ?_ | refine l_r ?_ | refine l_x ?_ | refine k_seq ?_ | refine k_blk ?_ | refine k_reg ?_ | refine k_ret ?_ | refine k_exit ?_ | refine k_skip ?_ | refine Zs ?_))
  refine c_b rfl (fun q => ?_) (fun q => ?_)
  · have q : (!decide (Sy.wd X.E s ∈ ls.map B)) = true := q
    have q : Sy.wd X.E s ∉ ls.map B := by simpa using q
    (repeat (first | refine k_nil ?_ | refine k_n ?_ | refine k_r ?_ | refine k_x ?_ | refine b_n ?_ | refine b_r ?_ | refine b_y rfl ?_ | refine b_z rfl ?_ | refine l_r ?_ | refine l_x ?_ | refine k_seq ?_ | refine k_blk ?_ | refine k_reg ?_ | refine k_ret ?_ | refine k_exit ?_ | refine k_skip ?_ | refine Zs ?_))
    exact ret_1 rfl rfl ⟨x, e3.symm, .inr ⟨q, rfl, k1⟩⟩
  · have q : (!decide (Sy.wd X.E s ∈ ls.map B)) = false := q
    have q : Sy.wd X.E s ∈ ls.map B := by simpa using q
    have hne : Sy.wd X.E s ≠ [] := fun e => hn (e ▸ q)
    (repeat (first | refine k_nil ?_ | refine k_n ?_ | refine k_r ?_ | refine k_x ?_ | refine b_n ?_ | refine b_r ?_ | refine b_y rfl ?_ | refine b_z rfl ?_ | refine l_r ?_ | refine l_x ?_ | refine k_seq ?_ | refine k_blk ?_ | refine k_reg ?_ | refine k_ret ?_ | refine k_exit ?_ | refine k_skip ?_ | refine Zs ?_))
    refine s_st (vs := [.int .i64 ((s.i : Int) + 1)]) rfl rfl rfl rfl rfl hb (Nat.le_of_ble_eq_true rfl) (fun w2 s2 => ?_)
    have s2' : Sb w1 X.p [X.tv, X.wv, .int .i64 ((s.i + 1 : Nat) : Int), V.x, V.s, V.f] 64 w2 := ⟨s2.kp, s2.sz, by rw [e]; exact s2.blk⟩
    have g2 := h1.adv ok (.inl hne) s2'
    have hb2 : w2.heap[X.p]? = some (.cells [X.tv, .slice (some ⟨g, 0, none⟩) X.wl.length cw, .int .i64 ((s.i : Int) + 1), V.x, V.s, V.f].toArray 64 (0, 0)) := s2.blk
    obtain ⟨g', cw', e', hc'⟩ := g2.at_.texts ok
    rw [e] at e'
    cases e'
    have c2 : w2.cell? ⟨g, 0 + ((s.i : Int) + 1 - 1).toNat * 1, none⟩ = some (.string x) := by
      have := hc' _ _ hx
      have e4 : ((s.i : Int) + 1 - 1).toNat = (s.i : Int).toNat := by omega
      rw [e4]; exact this
    (repeat (first | refine k_nil ?_ | refine k_n ?_ | refine k_r ?_ | refine k_x ?_ | refine b_n ?_ | refine b_r ?_ | refine b_y rfl ?_ | refine b_z rfl ?_ | refine l_r ?_ | refine l_x ?_ | refine k_seq ?_ | refine k_blk ?_ | refine k_reg ?_ | refine k_ret ?_ | refine k_exit ?_ | refine k_skip ?_ | refine Zs ?_))
    refine k_q (by kernel_rfl) (by kernel_rfl) ?_
    (repeat (first | refine Zq ?_ | refine Zqn ?_ | refine Zqu ?_ | refine Zqg ?_))
    refine q_nil (fun w3 k3 => ?_)
    (repeat (first | refine k_nil ?_ | refine k_n ?_ | refine k_r ?_ | refine k_x ?_ | refine b_n ?_ | refine b_r ?_ | refine b_y rfl ?_ | refine b_z rfl ?_ | refine l_r ?_ | refine l_x ?_ | refine k_seq ?_ | refine k_blk ?_ | refine k_reg ?_ | refine k_ret ?_ | refine k_exit ?_ | refine k_skip ?_ | refine Zs ?_))
    exact ret_1 rfl rfl ⟨x, e3.symm, .inl ⟨q, rfl, nz (by rw [← e3]; exact hne), (Sg.no ⟨g2.at_, ⟨Kp.trans (k1.mono fun _ _ h => h.elim) g2.gs.kp (fun _ _ h => h), fun b hb hs => hs, fun b hb hs => hs⟩⟩ k3)⟩⟩
end Go.Proofs.YtgnkdeapifbgeaaDoor.Sy
