/- A program in memory, read; the law's awake; SyntaxCuts: its walk. -/
import Derived.Test.YtgnkdeapifbgeaaDoorHf
import Derived.Test.YtgnkdeapifbgeaaDoorHg
namespace Go.Proofs.YtgnkdeapifbgeaaDoor.Sy
open Go Go.RowKit Fw
set_option linter.unusedVariables false
set_option maxRecDepth 20000
theorem Tr.nil0 {w : World} : Tr w nilS nilS nilS ⟨0, [], [], []⟩ := ⟨⟨[], rfl, nilown, fun r hr => (by cases hr)⟩, ⟨[], rfl, nilown, fun r hr => (by cases hr)⟩, ⟨[], rfl, nilown, fun r hr => (by cases hr)⟩⟩
/-- What Parse hands back, in one piece. -/
theorem ParseG (s : ByteArray) (w : World) (hg : Tk.Glob w) (hs : s.size ≤ 1000000) :
    Ret Tryd.prog 11 [.string s] w fun v w' => Kp No w w' ∧ ∃ (ux us uf : Value) (S : PS) (a e : Int), v = .tuple #[.agg #[ux, us, uf], .int .i64 a, .int .i64 e] ∧ Tr w' ux us uf S ∧
      ((prs (B s) = .ok () S ∧ a = 0 ∧ e = 0 ∧ S.fn ≠ []) ∨ (prs (B s) = .er e a ∧ S = ⟨0, [], [], []⟩ ∧ e ≠ 0 ∧ 0 ≤ a ∧ a ≤ (s.size : Int))) := by
  refine (ParseF s w hg hs).mono ?_
  rintro v w' ⟨k, h⟩
  refine ⟨k, ?_⟩
  obtain ⟨R, hR⟩ : ∃ R, prs (B s) = R := ⟨_, rfl⟩
  rw [hR] at h ⊢
  cases R with
  | ok x S =>
    obtain ⟨ux, us, uf, rfl, ht⟩ := h
    exact ⟨ux, us, uf, S, 0, 0, rfl, ht, .inl ⟨rfl, rfl, rfl, prs_fn hR⟩⟩
  | er c p =>
    have h : v = .tuple #[.agg #[nilS, nilS, nilS], .int .i64 p, .int .i64 c] := h
    subst h
    obtain ⟨h1, h2, h3⟩ := prs_er hR
    rw [B_len] at h3
    exact ⟨nilS, nilS, nilS, ⟨0, [], [], []⟩, p, c, rfl, Tr.nil0, .inr ⟨rfl, rfl, h1, h2, h3⟩⟩
  | out => exact h.elim
theorem Tr.val {w : World} {ux us uf : Value} {S : PS} (h : Tr w ux us uf S) : ∃ a b c a' b' c', ux = .slice a S.ex.length a' ∧ us = .slice b S.st.length b' ∧ uf = .slice c S.fn.length c' := by
  obtain ⟨⟨rx, e1, o1, l1⟩, ⟨ry, e2, o2, l2⟩, rz, e3, o3, l3⟩ := h
  obtain ⟨a, a', h1, _⟩ := own_read o1
  obtain ⟨b, b', h2, _⟩ := own_read o2
  obtain ⟨c, c', h3, _⟩ := own_read o3
  exact ⟨a, b, c, a', b', c', h1, h2, h3⟩
theorem Tr.ex {w : World} {us uf : Value} {S : PS} {a : Option Addr} {n c : Nat} (h : Tr w (.slice a n c) us uf S) {i : Nat} {x : Ex} (hx : S.ex[i]? = some x) :
    ∃ g lv, a = some ⟨g, 0, none⟩ ∧ LI w lv x.l ∧ ∀ (j : Nat) (u : Value), (exC (x, lv))[j]? = some u → w.cell? ⟨g, 0 + (i : Int).toNat * 9 + j, none⟩ = some u := by
  obtain ⟨⟨rx, e1, o1, l1⟩, _⟩ := h
  rw [← e1, List.getElem?_map, Option.map_eq_some_iff] at hx
  obtain ⟨r, hr, rfl⟩ := hx
  obtain ⟨a', c', e, _, h0, hc⟩ := own_read o1
  simp only [Value.slice.injEq] at e
  obtain ⟨rfl, rfl, rfl⟩ := e
  have hl : 0 < S.ex.length := by
    rw [← e1, List.length_map]
    have := (List.getElem?_eq_some_iff.1 hr).1
    omega
  cases a with
  | none => have := h0 rfl; omega
  | some ad =>
    obtain ⟨g, rfl, _, _, hcell⟩ := hc _ rfl
    refine ⟨g, r.2, rfl, (l1 r (List.mem_of_getElem? hr)).1, fun j u hj => ?_⟩
    have hj9 : j < 9 := (List.getElem?_eq_some_iff.1 hj).1
    rw [Nat.add_assoc]
    exact hcell _ _ (by rw [Int.toNat_natCast, flat_get (f := exC) (sz := 9) (fun _ => rfl) rx i j r hr hj9]; exact hj)
theorem Tr.st {w : World} {ux uf : Value} {S : PS} {a : Option Addr} {n c : Nat} (h : Tr w ux (.slice a n c) uf S) {i : Nat} {x : St} (hx : S.st[i]? = some x) :
    ∃ g lv mv, a = some ⟨g, 0, none⟩ ∧ LI w lv x.th ∧ LI w mv x.el ∧ ∀ (j : Nat) (u : Value), (stC (x, lv, mv))[j]? = some u → w.cell? ⟨g, 0 + (i : Int).toNat * 9 + j, none⟩ = some u := by
  obtain ⟨_, ⟨rx, e1, o1, l1⟩, _⟩ := h
  rw [← e1, List.getElem?_map, Option.map_eq_some_iff] at hx
  obtain ⟨r, hr, rfl⟩ := hx
  obtain ⟨a', c', e, _, h0, hc⟩ := own_read o1
  simp only [Value.slice.injEq] at e
  obtain ⟨rfl, rfl, rfl⟩ := e
  have hl : 0 < S.st.length := by
    rw [← e1, List.length_map]
    have := (List.getElem?_eq_some_iff.1 hr).1
    omega
  cases a with
  | none => have := h0 rfl; omega
  | some ad =>
    obtain ⟨g, rfl, _, _, hcell⟩ := hc _ rfl
    refine ⟨g, r.2.1, r.2.2, rfl, (l1 r (List.mem_of_getElem? hr)).1.1, (l1 r (List.mem_of_getElem? hr)).2.1, fun j u hj => ?_⟩
    have hj9 : j < 9 := (List.getElem?_eq_some_iff.1 hj).1
    rw [Nat.add_assoc]
    exact hcell _ _ (by rw [Int.toNat_natCast, flat_get (f := stC) (sz := 9) (fun _ => rfl) rx i j r hr hj9]; exact hj)
theorem Tr.fn {w : World} {ux us : Value} {S : PS} {a : Option Addr} {n c : Nat} (h : Tr w ux us (.slice a n c) S) {i : Nat} {x : Fn} (hx : S.fn[i]? = some x) :
    ∃ g lv mv, a = some ⟨g, 0, none⟩ ∧ LS w lv x.ps ∧ LI w mv x.bd ∧ ∀ (j : Nat) (u : Value), (fnC (x, lv, mv))[j]? = some u → w.cell? ⟨g, 0 + (i : Int).toNat * 6 + j, none⟩ = some u := by
  obtain ⟨_, _, rx, e1, o1, l1⟩ := h
  rw [← e1, List.getElem?_map, Option.map_eq_some_iff] at hx
  obtain ⟨r, hr, rfl⟩ := hx
  obtain ⟨a', c', e, _, h0, hc⟩ := own_read o1
  simp only [Value.slice.injEq] at e
  obtain ⟨rfl, rfl, rfl⟩ := e
  have hl : 0 < S.fn.length := by
    rw [← e1, List.length_map]
    have := (List.getElem?_eq_some_iff.1 hr).1
    omega
  cases a with
  | none => have := h0 rfl; omega
  | some ad =>
    obtain ⟨g, rfl, _, _, hcell⟩ := hc _ rfl
    refine ⟨g, r.2.1, r.2.2, rfl, (l1 r (List.mem_of_getElem? hr)).1.1, (l1 r (List.mem_of_getElem? hr)).2.1, fun j u hj => ?_⟩
    have hj6 : j < 6 := (List.getElem?_eq_some_iff.1 hj).1
    rw [Nat.add_assoc]
    exact hcell _ _ (by rw [Int.toNat_natCast, flat_get (f := fnC) (sz := 6) (fun _ => rfl) rx i j r hr hj6]; exact hj)
def awakeS : ByteArray := ⟨#[102, 117, 110, 99, 32, 109, 97, 105, 110, 40, 41, 32, 123, 32, 112, 114, 105, 110, 116, 32, 49, 32, 43, 32, 50, 32, 42, 32, 51, 59, 32, 125]⟩
def awakeT : Bool := match prs (B awakeS) with | .ok _ S => decide (S.st.length = 1 ∧ S.ex.length = 5 ∧ (S.ex[4]?.map Ex.op) = some [43]) | _ => false
theorem awake_ok : awakeT = true := by decide +kernel
theorem awakeF (w : World) (hg : Tk.Glob w) : Ret Tryd.prog 10 [] w fun v w1 => v = .bool true ∧ Kp No w w1 := by
  have ha := awake_ok
  unfold awakeT at ha
  refine ret_enter Tryd.func10 rfl Tryd.ntmps10 rfl ?_
  (repeat (first | refine k_nil ?_ | refine k_n ?_ | refine k_r ?_ | refine k_x ?_ | refine b_n ?_ | refine b_r ?_ | refine b_y rfl ?_ | refine b_z rfl ?_ | refine l_r ?_ | refine l_x ?_ | refine k_seq ?_ | refine k_blk ?_ | refine k_reg ?_ | refine k_ret ?_ | refine k_exit ?_ | refine k_skip ?_ | refine Zs ?_))
  refine s_call (us := []) (zs := []) (by kernel_rfl) rfl rfl (ParseG awakeS w hg (by decide)) ?_
  rintro _ w1 ⟨k1, ux, us, uf, S, a, e, rfl, ht, hp⟩
  rcases hp.symm with ⟨hq, _⟩ | ⟨hq, ea, ee, _⟩
  · rw [hq] at ha; cases ha
  subst ea ee
  rw [hq] at ha
  simp only [decide_eq_true_eq] at ha
  obtain ⟨h1, h2, h3⟩ := ha
  obtain ⟨xa, sa, fa, xc, sc, fc, rfl, rfl, rfl⟩ := ht.val
  obtain ⟨x, hx, hop⟩ := Option.map_eq_some_iff.1 h3
  (repeat (first | refine k_nil ?_ | refine k_n ?_ | refine k_r ?_ | refine k_x ?_ | refine b_n ?_ | refine b_r ?_ | refine b_y rfl ?_ | refine b_z rfl ?_ | refine l_r ?_ | refine l_x ?_ | refine k_seq ?_ | refine k_blk ?_ | refine k_reg ?_ | refine k_ret ?_ | refine k_exit ?_ | refine k_skip ?_ | refine Zs ?_))
  refine s_al rfl (fun b w2 n2 => ?_)
  refine s_st (vs := [.slice xa S.ex.length xc, .slice sa S.st.length sc, .slice fa S.fn.length fc]) rfl rfl rfl rfl rfl n2.blk (Nat.le_of_ble_eq_true rfl) (fun w3 s3 => ?_)
  have k3 : Kp No w1 w3 := n2.kp.trans s3.kp fun i hi e => by have := n2.ge; omega
  have hb : w3.heap[b]? = some (.cells [.slice xa S.ex.length xc, .slice sa S.st.length sc, .slice fa S.fn.length fc].toArray 27 (0, 0)) := s3.blk
  obtain ⟨g, lv, rfl, _, hc⟩ := (ht.kp k3).ex hx
  have hc5 := hc 5 _ rfl
  simp only at hc5
  rw [hop] at hc5
  rw [h1, h2] at hb ⊢
  (repeat (first | refine k_nil ?_ | refine k_n ?_ | refine k_r ?_ | refine k_x ?_ | refine b_n ?_ | refine b_r ?_ | refine b_y rfl ?_ | refine b_z rfl ?_ | refine l_r ?_ | refine l_x ?_ | refine k_seq ?_ | refine k_blk ?_ | refine k_reg ?_ | refine k_ret ?_ | refine k_exit ?_ | refine k_skip ?_ | refine Zs ?_ | refine Zn ?_ | refine Zu ?_ | refine Zg ?_))
  refine s_gv rfl (r_ia (size := 9) rfl rfl rfl rfl (by omega) (by omega)) ?_
  (repeat (first | refine k_nil ?_ | refine k_n ?_ | refine k_r ?_ | refine k_x ?_ | refine b_n ?_ | refine b_r ?_ | refine b_y rfl ?_ | refine b_z rfl ?_ | refine l_r ?_ | refine l_x ?_ | refine k_seq ?_ | refine k_blk ?_ | refine k_reg ?_ | refine k_ret ?_ | refine k_exit ?_ | refine k_skip ?_ | refine Zs ?_ | refine Zn ?_ | refine Zu ?_ | refine Zg ?_))
  exact ret_1 rfl rfl ⟨by show Value.bool ((Tk.strOf [43]).toList == _) = _; rw [str_eq]; rfl, k1.no k3⟩
end Go.Proofs.YtgnkdeapifbgeaaDoor.Sy
