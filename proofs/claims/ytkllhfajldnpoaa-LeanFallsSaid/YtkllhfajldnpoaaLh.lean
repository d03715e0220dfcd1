/- Leans of a small graph: walked; the fixed text of layer 9. -/
import Derived.Test.YtkllhfajldnpoaaLg
import Derived.Test.YtkllhfajldnpoaaPk11
namespace Go.Proofs.Ytkllhfajldnpoaa.Ck
open Go Go.RowKit Fw Sy Rf Fn
set_option linter.unusedVariables false
set_option maxRecDepth 20000
/-! sorting what is one at most -/
abbrev fcmp : Value := .func (.func 50) #[] #[]
theorem wrap_u8 {n : Int} (h : 0 ≤ n ∧ n < 256) : IntKind.u8.wrap n = n := by
  simp [IntKind.wrap, IntKind.signed, IntKind.bits]; omega
theorem len64F (x : Int) (w : World) (h : 0 ≤ x ∧ x < 256) : Ret Try.prog 86 [.int .u64 x] w fun v w1 => w1 = w ∧ ∃ y, v = .int .i64 y := by
  refine ret_enter Try.func86 rfl Try.ntmps86 rfl ?_
  (repeat refine Zr ?_)
  refine c_dec rfl (fun h1 => (by omega : False).elim) (fun _ => ?_)
  (repeat refine Zr ?_)
  refine c_dec rfl (fun h1 => (by omega : False).elim) (fun _ => ?_)
  (repeat refine Zr ?_)
  refine c_dec rfl (fun h1 => (by omega : False).elim) (fun _ => ?_)
  (repeat refine Zr ?_)
  refine s_re 21 (v' := .int .u8 x) rfl (congrArg _ (wrap_u8 h)) ?_
  refine s_v (r_ix rfl rfl rfl h.1 (by show x < ((256 : Nat) : Int); exact h.2)) ?_
  (repeat refine Zr ?_)
  exact ret_1 rfl rfl ⟨rfl, _, rfl⟩
theorem lenF (x : Int) (w : World) (h : 0 ≤ x ∧ x < 256) : Ret Try.prog 65 [.int .u64 x] w fun v w1 => w1 = w ∧ ∃ y, v = .int .i64 y := by
  refine ret_enter Try.func65 rfl Try.ntmps65 rfl ?_
  (repeat refine Zr ?_)
  refine c_f rfl ?_
  (repeat refine Zr ?_)
  refine s_call (us := []) (zs := []) (by kernel_rfl) rfl rfl (len64F x w h) ?_
  rintro _ w1 ⟨rfl, y, rfl⟩
  (repeat refine Zr ?_)
  exact ret_1 rfl rfl ⟨rfl, y, rfl⟩
theorem insF (a : Option Addr) (n c : Nat) (hn : n ≤ 1) (w : World) : Ret Try.prog 77 [.slice a n c, .int .i64 0, .int .i64 n, fcmp] w fun v w1 => v = .tuple #[] ∧ Kp No w w1 := by
  refine ret_enter Try.func77 rfl Try.ntmps77 rfl ?_
  (repeat refine Zr ?_)
  refine k_loop (σ := Unit) (fun _ => [(0, .slice a n c), (1, .int .i64 0), (2, .int .i64 (n : Int)), (3, fcmp), (8, .int .i64 1)]) (fun _ m => m = w) (fun _ => 0) () ⟨rfl, rfl, rfl, rfl, rfl, trivial⟩ rfl ?_
  rintro _ l m rfl
  (repeat refine Zr ?_)
  refine c_dec rfl (fun h => (by omega : False).elim) (fun _ => ?_)
  (repeat refine Zr ?_)
  exact end_0 rfl ⟨rfl, Kp.refl _ _⟩
theorem pdqF (a : Option Addr) (n c : Nat) (hn : n ≤ 1) (y : Int) (w : World) : Ret Try.prog 64 [.slice a n c, .int .i64 0, .int .i64 n, .int .i64 y, fcmp] w fun v w1 => v = .tuple #[] ∧ Kp No w w1 := by
  refine ret_enter Try.func64 rfl Try.ntmps64 rfl ?_
  (repeat refine Zr ?_)
  refine k_loop (σ := Unit) (fun _ => [(0, .slice a n c), (1, .int .i64 0), (2, .int .i64 (n : Int)), (3, .int .i64 y), (4, fcmp)]) (fun _ m => m = w) (fun _ => 0) () ⟨rfl, rfl, rfl, rfl, rfl, trivial⟩ rfl ?_
  rintro _ l m rfl
  (repeat refine Zr ?_)
  refine c_dec rfl (fun _ => ?_) (fun h => (by omega : False).elim)
  (repeat refine Zr ?_)
  refine s_call (us := []) (zs := []) (by kernel_rfl) rfl rfl (insF a n c hn m) ?_
  rintro _ w1 ⟨rfl, k1⟩
  (repeat refine Zr ?_)
  exact ret_0 rfl ⟨rfl, k1⟩
theorem sortF (a : Option Addr) (n c : Nat) (hn : n ≤ 1) (w : World) : Ret Try.prog 49 [.slice a n c, fcmp] w fun v w1 => v = .tuple #[] ∧ Kp No w w1 := by
  refine ret_enter Try.func49 rfl Try.ntmps49 rfl ?_
  (repeat refine Zr ?_)
  refine s_re 10 (v' := .int .u64 (n : Int)) rfl (congrArg _ (show IntKind.u64.wrap (n : Int) = n from by simp [IntKind.wrap, IntKind.signed, IntKind.bits]; omega)) ?_
  refine s_call (us := []) (zs := []) (by kernel_rfl) rfl rfl (lenF n w (by omega)) ?_
  rintro _ w1 ⟨rfl, y, rfl⟩
  (repeat refine Zr ?_)
  refine s_call (us := []) (zs := []) (by kernel_rfl) rfl rfl (pdqF a n c hn y _) ?_
  rintro _ w1 ⟨rfl, k1⟩
  (repeat refine Zr ?_)
  exact end_0 rfl ⟨rfl, k1⟩
abbrev tLean : TypeId := 77
abbrev tLL : TypeId := 75
def leC (p : Int × Int) : List Value := [.int .i64 p.1, .int .i64 p.2]
/-- Lists that grow, each in memory of its own, in a row. -/
structure Bl (base : Nat) (w : World) (g : Nat) (vs : List Sl) (rs : List (List (Int × Int))) : Prop where
  len : vs.length = rs.length
  blk : w.heap[g]? = some (.cells (vs.map Sl.v).toArray tLL (0, 0))
  own : ∀ (i : Nat) v l, vs[i]? = some v → rs[i]? = some l → w.ownsRow base tLean 2 v.v l.length (l.flatMap leC)
  dj : ∀ (i j : Nat) v u b, vs[i]? = some v → vs[j]? = some u → v.v.ownBlock = some b → u.v.ownBlock = some b → i = j
section
variable {base g : Nat} {w w1 w2 : World} {vs : List Sl} {rs : List (List (Int × Int))}
theorem Bl.no (h : Bl base w g vs rs) (k : Kp No w w1) : Bl base w1 g vs rs := ⟨h.len, k.get0 h.blk, fun i v l a b => own_kp (h.own i v l a b) k fun _ _ h => h, h.dj⟩
theorem Bl.app (h : Bl base w g vs rs) {i : Nat} {v v' : Sl} {l : List (Int × Int)} {x : Int × Int} (hv : vs[i]? = some v) (hl : rs[i]? = some l) (a : Ap w base tLean 2 v.v (l.length + 1) (l.flatMap leC ++ leC x) v'.v w1) (s : Sb w1 g ((vs.set i v').map Sl.v) tLL w2) : Bl base w2 g (vs.set i v') (rs.set i (l ++ [x])) := by
  have ho := h.own i v l hv hl
  have hS : ∀ {u : Value} {n : Nat} {cs : List Value}, w1.ownsRow base tLean 2 u n cs → w2.ownsRow base tLean 2 u n cs := fun ho => own_kp ho s.kp fun b hb e => by
    obtain ⟨c, hc⟩ := own_ty ho hb
    exact ty_ne hc (by rw [e]; exact a.get (base := base) (by exact h.own i v l hv hl) h.blk rfl) rfl rfl
  refine ⟨by rw [List.length_set, List.length_set]; exact h.len, s.blk, fun j u m hj hm => ?_, fun j k u t b hj hk h1 h2 => ?_⟩
  · rw [List.getElem?_set] at hj hm
    split at hj
    · rename_i e
      rw [if_pos e] at hm
      split at hj
      · split at hm
        · cases hj; cases hm
          rw [List.length_append, List.flatMap_append]
          exact hS (by simpa using a.own)
        · cases hm
      · cases hj
    · rename_i e
      rw [if_neg e] at hm
      exact hS (own_kp (h.own j u m hj hm) a.kp fun b hb e2 => e (h.dj i j v u b hv hj e2.symm hb))
  · have old : ∀ {j : Nat} {u : Sl}, vs[j]? = some u → v'.v.ownBlock = some b → u.v.ownBlock = some b → i = j := fun {j u} hj h1 h2 => by
      rcases a.row b h1 with h3 | h3
      · exact h.dj i j v u b hv hj h3 h2
      · have hjr : j < rs.length := by rw [← h.len]; exact (List.getElem?_eq_some_iff.1 hj).1
        have := own_lt (h.own j u _ hj (List.getElem?_eq_getElem hjr)) h2
        omega
    rw [List.getElem?_set] at hj hk
    split at hj
    · rename_i e
      split at hk
      · rename_i e'; omega
      · split at hj
        · cases hj
          rw [← e]
          exact old hk h1 h2
        · cases hj
    · split at hk
      · rename_i _ e'
        split at hk
        · cases hk
          rw [← e']
          exact (old hj h2 h1).symm
        · cases hk
      · exact h.dj j k u t b hj hk h1 h2
end
/-! what leans, by steps -/
def leS (fen : List Int) (stop at_ way : Int) : Nat → Int → List (List (Int × Int)) → List (List (Int × Int))
  | 0, _, rs => rs
  | n + 1, s, rs => if s ≠ stop ∧ s ≠ -1 then leS fen stop at_ way n (gi fen s) (rs.set s.toNat (rs.getD s.toNat [] ++ [(at_, way)])) else rs
def leR (fen : List Int) (N : Nat) (stop at_ : Int) : Nat → List Int → List (List (Int × Int)) → List (List (Int × Int))
  | _, [], rs => rs
  | k, s :: r, rs => leR fen N stop at_ (k + 1) r (leS fen stop at_ k (N + 1) s rs)
def leA (fen : List Int) (N : Nat) : Nat → List (List Int) → List (List (Int × Int)) → List (List (Int × Int))
  | _, [], rs => rs
  | i, l :: r, rs => leA fen N (i + 1) r (if l.length < 2 then rs else leR fen N (gi fen i) i 0 l rs)
def nx9 : List (List Int) := [[1], [0, -1]]
theorem fen9 : fenL nx9 = [1, -1] := by decide +kernel
theorem le9 : leA (fenL nx9) 2 0 nx9 [[], []] = [[(1, 0)], [(1, 0)]] := by rw [fen9]; decide +kernel
set_option maxHeartbeats 4000000 in
theorem ofF (W : Wel nx9) {w : World} {fs : Sl} {v : Value} (hN : NX w v nx9) :
    Ret Try.prog 34 [.agg #[fs.v, v]] w (fun u w1 => ∃ g vs base, u = .slice (some ⟨g, 0, none⟩) 2 2 ∧ Bl base w1 g vs [[(1, 0)], [(1, 0)]] ∧ Kp No w w1) := by
  obtain ⟨nx, hnx⟩ : ∃ nx, nx9 = nx := ⟨_, rfl⟩
  have hl2 : nx.length = 2 := by rw [← hnx]; rfl
  have hle := le9
  rw [hnx] at W hN hle
  obtain ⟨va, vc, rfl⟩ := hN.val
  have hfl : (fenL nx).length = nx.length := W.fen.len
  refine ret_enter Try.func34 rfl Try.ntmps34 rfl ?_
  (repeat refine Zlr ?_)
  refine s_box (cs := [fs.v, .slice va nx.length vc]) rfl rfl (fun b1 w1 n1 => ?_)
  have hb1 := n1.blk
  (repeat refine Zlr ?_)
  refine s_call (us := []) (zs := []) (by kernel_rfl) rfl rfl (nextFn W (by omega) (by omega) (fs := fs) (hN.kp n1.kp)) ?_
  rintro _ w2 ⟨gf, rfl, hf, k2⟩
  have hb2 := k2.get0 hb1
  have k2 := n1.kp.no k2
  (repeat refine Zlr ?_)
  refine s_ms1 (m := nx.length) (c := nx.length) rfl rfl rfl rfl rfl rfl rfl (Nat.le_refl _) (by show 24 * _ ≤ _; omega) (by omega) (fun g w3 n3 => ?_)
  have hB : Bl w2.heap.size w3 g (List.replicate nx.length nS) (List.replicate nx.length []) := by
    refine ⟨by simp, by rw [List.map_replicate]; exact n3.blk, fun i v l hv hl => ?_, fun i j v u b hv hu h1 _ => ?_⟩
    · have e1 : v = nS := (List.mem_replicate.1 (List.mem_of_getElem? hv)).2
      have e2 : l = [] := (List.mem_replicate.1 (List.mem_of_getElem? hl)).2
      rw [e1, e2]
      exact World.ownsRow_nil _ _ _ _
    · have e1 : v = nS := (List.mem_replicate.1 (List.mem_of_getElem? hv)).2
      rw [e1] at h1; cases h1
  have hg : w2.heap.size ≤ g := n3.ge
  have k23 : Kp No w2 w3 := n3.kp
  have hb3 := n3.kp.get0 hb2
  obtain ⟨_, _, e, hfat⟩ := li_at hf
  rw [Value.slice.injEq] at e
  obtain ⟨rfl, _, rfl⟩ := e
  have rd : ∀ {i : Int}, Nd nx.length i → ∀ w', Kp No w2 w' → w'.cell? ⟨gf, 0 + i.toNat * 1, none⟩ = some (.int .i64 (gi (fenL nx) i)) := fun {i} hi w' k => by
    have i0 := hi.1
    have iN := hi.2
    obtain ⟨y, hy⟩ : ∃ y, (fenL nx)[i.toNat]? = some y := ⟨_, List.getElem?_eq_getElem (by omega)⟩
    have hgy : gi (fenL nx) i = y := by unfold gi; rw [List.getD_eq_getElem?_getD, hy]; rfl
    obtain ⟨g', hg', hc⟩ := hfat _ y hy
    cases hg'
    have := hc w' k
    rw [show ((i.toNat : Nat) : Int).toNat = i.toNat by omega] at this
    rw [hgy]
    exact this
  clear hb1 n3
  (repeat refine Zlr ?_)
  refine k_loop (σ := Nat × List Sl × List (List (Int × Int))) (fun t => [(3, .slice (some ⟨gf, 0, none⟩) nx.length nx.length), (4, .slice (some ⟨g, 0, none⟩) nx.length nx.length), (18, .slice va nx.length vc), (19, .int .i64 (nx.length : Int)), (20, .int .i64 (t.1 : Int))])
    (fun t w' => t.1 ≤ nx.length ∧ t.2.2.length = nx.length ∧ (∀ l ∈ t.2.2, l.length ≤ 10 * t.1) ∧ leA (fenL nx) 2 t.1 (nx.drop t.1) t.2.2 = [[(1, 0)], [(1, 0)]] ∧ Bl w2.heap.size w' g t.2.1 t.2.2 ∧ Kp No w2 w') (fun t => nx.length - t.1) (0, List.replicate nx.length nS, List.replicate nx.length []) ⟨rfl, rfl, rfl, rfl, rfl, trivial⟩
    ⟨Nat.zero_le _, List.length_replicate, fun l hl => by rw [(List.mem_replicate.1 hl).2]; exact Nat.zero_le _, by rw [List.drop_zero]; show leA (fenL nx) 2 0 nx (List.replicate nx.length []) = _; rw [hl2]; exact hle, hB, k23⟩ ?_
  clear hB hb2 hb3 k23
  rintro ⟨i, vs, rs⟩ l3 w4 ⟨hi, hrl, hll, hbk, hB, k4⟩
  simp only at hi hrl hll hbk hB k4
  try dsimp only
  (repeat refine Zlr ?_)
  refine c_dec rfl (fun hlt => ?_) (fun hge => ?_)
  · have hlt : i < nx.length := by omega
    have hni : Nd nx.length (i : Int) := ⟨by omega, by omega⟩
    obtain ⟨vg, la, lc, rfl, hl, hvc⟩ := hN.at_ hni
    obtain ⟨L, hL⟩ : ∃ L, gl nx (i : Int) = L := ⟨_, rfl⟩
    have eL : nx[i] = L := by
      rw [← hL]; unfold gl
      rw [List.getD_eq_getElem?_getD, Int.toNat_natCast, List.getElem?_eq_getElem hlt]; rfl
    have hL2 : L.length ≤ 2 := by rw [← hL]; exact (W.hr _ hni).1
    have hLt : ∀ t ∈ L, t = -1 ∨ Nd nx.length t := by rw [← hL]; exact (W.hr _ hni).2
    rw [List.drop_eq_getElem_cons hlt, eL, leA] at hbk
    rw [hL] at hl hvc
    obtain ⟨_, _, e, hlat⟩ := li_at hl
    cases e
    (repeat refine Zlr ?_)
    refine s_v (r_ia (size := 1) rfl rfl rfl rfl (by omega) (by omega)) ?_
    refine s_v (r_ld rfl rfl (hvc _ (k2.no k4))) ?_
    (repeat refine Zlr ?_)
    refine c_dec rfl (fun hlen => ?_) (fun hlen => ?_)
    · rw [if_pos (by omega)] at hbk
      (repeat refine Zlr ?_)
      exact l_next (i + 1, vs, rs) ⟨rfl, rfl, rfl, rfl, rfl, trivial⟩ ⟨hlt, hrl, fun l hl => by have := hll l hl; show l.length ≤ 10 * (i + 1); omega, hbk, hB, k4⟩ (by show nx.length - (i + 1) < nx.length - i; omega)
    rw [if_neg (by omega)] at hbk
    obtain ⟨st, hst⟩ : ∃ st, gi (fenL nx) (i : Int) = st := ⟨_, rfl⟩
    have hcst := fun w' (k : Kp No w2 w') => rd hni w' k
    rw [hst] at hcst hbk
    (repeat refine Zlr ?_)
    refine k_loop (σ := Nat × List Sl × List (List (Int × Int))) (fun t => [(3, .slice (some ⟨gf, 0, none⟩) nx.length nx.length), (4, .slice (some ⟨g, 0, none⟩) nx.length nx.length), (5, .int .i64 (i : Int)), (18, .slice (some ⟨vg, 0, none⟩) nx.length vc), (19, .int .i64 (nx.length : Int)), (20, .int .i64 (i : Int)), (28, .slice la L.length lc), (29, .int .i64 (L.length : Int)), (30, .int .i64 (t.1 : Int))])
      (fun t w' => t.1 ≤ L.length ∧ t.2.2.length = nx.length ∧ (∀ l ∈ t.2.2, l.length ≤ 10 * i + 5 * t.1) ∧ leR (fenL nx) 2 st i t.1 (L.drop t.1) t.2.2 = leR (fenL nx) 2 st i 0 L rs ∧ Bl w2.heap.size w' g t.2.1 t.2.2 ∧ Kp No w2 w') (fun t => L.length - t.1) (0, vs, rs) ⟨rfl, rfl, rfl, rfl, rfl, rfl, rfl, rfl, rfl, trivial⟩
      ⟨Nat.zero_le _, hrl, hll, by rw [List.drop_zero], hB, k4⟩ ?_
    clear hB k4 hll hrl
    rintro ⟨k, vs2, rs2⟩ l5 w5 ⟨hk, hrl, hll, hR, hB, k5⟩
    simp only at hk hrl hll hR hB k5
    try dsimp only
    (repeat refine Zlr ?_)
    refine c_dec rfl (fun hlk => ?_) (fun hgk => ?_)
    · have hlk : k < L.length := by omega
      obtain ⟨s, hs⟩ : ∃ s, L[k]? = some s := ⟨_, List.getElem?_eq_getElem hlk⟩
      have es : L[k] = s := by rw [List.getElem?_eq_getElem hlk] at hs; exact Option.some.inj hs
      rw [List.drop_eq_getElem_cons hlk, es, leR] at hR
      obtain ⟨lg, hla, hlc⟩ := hlat k s hs
      have hls : Value.slice la L.length lc = .slice (some ⟨lg, 0, none⟩) L.length lc := by rw [hla]
      have hsn := hLt s (List.mem_of_getElem? hs)
      have hrk : rkL nx s < 3 := by
        rcases hsn with e | e
        · rw [e]; unfold rkL; rw [if_pos rfl]; omega
        · have := (W.rk e).2; omega
      (repeat refine Zlr ?_)
      refine s_v (r_ia (size := 1) rfl rfl hls rfl (by omega) (by omega)) ?_
      refine s_v (r_ld rfl rfl (hlc _ (k2.no k5))) ?_
      (repeat refine Zlr ?_)
      refine k_loop (σ := (Nat × Int) × List Sl × List (List (Int × Int))) (fun t => [(3, .slice (some ⟨gf, 0, none⟩) nx.length nx.length), (4, .slice (some ⟨g, 0, none⟩) nx.length nx.length), (5, .int .i64 (i : Int)), (7, .int .i64 (k : Int)), (8, .int .i64 t.1.2), (18, .slice (some ⟨vg, 0, none⟩) nx.length vc), (19, .int .i64 (nx.length : Int)), (20, .int .i64 (i : Int)), (28, .slice la L.length lc), (29, .int .i64 (L.length : Int)), (30, .int .i64 (k : Int))])
        (fun t w' => t.1.1 ≤ 3 ∧ rkL nx t.1.2 < t.1.1 ∧ (t.1.2 = -1 ∨ Nd nx.length t.1.2) ∧ t.2.2.length = nx.length ∧ (∀ l ∈ t.2.2, l.length + t.1.1 ≤ 10 * i + 5 * k + 3) ∧ leS (fenL nx) st i k t.1.1 t.1.2 t.2.2 = leS (fenL nx) st i k 3 s rs2 ∧ Bl w2.heap.size w' g t.2.1 t.2.2 ∧ Kp No w2 w') (fun t => t.1.1) ((3, s), vs2, rs2) ⟨rfl, rfl, rfl, rfl, rfl, rfl, rfl, rfl, rfl, rfl, rfl, trivial⟩
        ⟨Nat.le_refl _, hrk, hsn, hrl, fun l hl => by have := hll l hl; show l.length + 3 ≤ _; omega, rfl, hB, k5⟩ ?_
      clear hB k5 hll hrl hrk hsn
      rintro ⟨⟨n, z⟩, vs3, rs3⟩ l6 w6 ⟨hn3, hrk, hzn, hrl, hll, hS, hB, k6⟩
      simp only at hn3 hrk hzn hrl hll hS hB k6
      try dsimp only
      obtain ⟨n, rfl⟩ : ∃ m, n = m + 1 := ⟨n - 1, by omega⟩
      rw [leS] at hS
      have out : rs3 = leS (fenL nx) st i k 3 s rs2 → (k + 1 ≤ L.length ∧ rs3.length = nx.length ∧ (∀ l ∈ rs3, l.length ≤ 10 * i + 5 * (k + 1)) ∧ leR (fenL nx) 2 st i (k + 1) (L.drop (k + 1)) rs3 = leR (fenL nx) 2 st i 0 L rs) := fun h => ⟨hlk, hrl, fun l hl => by have := hll l hl; omega, by rw [h]; exact hR⟩
      have cst := hcst w6 k6
      (repeat refine Zlr ?_)
      refine s_v (r_ia (size := 1) rfl rfl rfl rfl (by omega) (by omega)) ?_
      refine s_v (r_ld rfl rfl cst) ?_
      (repeat refine Zlr ?_)
      by_cases hzs : z = st
      · rw [if_neg (fun h => h.1 hzs)] at hS
        obtain ⟨y1, y2, y3, y4⟩ := out hS
        refine s_set 41 false rfl (bne_eq_false_iff_eq.2 hzs) ?_
        (repeat (first | refine Zlr ?_ | refine Zn ?_ | refine Zu ?_ | refine Zg ?_ | refine Zgl ?_))
        refine c_f rfl ?_
        (repeat refine Zlr ?_)
        exact l_next (k + 1, vs3, rs3) ⟨rfl, rfl, rfl, rfl, rfl, rfl, rfl, rfl, rfl, trivial⟩ ⟨y1, y2, y3, y4, hB, k6⟩ (by show L.length - (k + 1) < L.length - k; omega)
      refine s_set 41 true rfl (bne_iff_ne.2 hzs) ?_
      (repeat (first | refine Zlr ?_ | refine Zn ?_ | refine Zu ?_ | refine Zg ?_ | refine Zgl ?_))
      refine c_ne rfl (fun hz1 => ?_) (fun hz1 => ?_)
      · rw [if_pos ⟨hzs, hz1⟩] at hS
        have hzN := hzn.resolve_left hz1
        have hz0 := hzN.1
        have hzL := hzN.2
        obtain ⟨sv', hsv⟩ : ∃ v, vs3[z.toNat]? = some v := ⟨_, List.getElem?_eq_getElem (by rw [hB.len]; omega)⟩
        obtain ⟨m, hm⟩ : ∃ m, rs3[z.toNat]? = some m := ⟨_, List.getElem?_eq_getElem (by omega)⟩
        have hgm : rs3.getD z.toNat [] = m := by rw [List.getD_eq_getElem?_getD, hm]; rfl
        have hml := hll m (List.mem_of_getElem? hm)
        rw [hgm] at hS
        have hcl : w6.cell? ⟨g, 0 + z.toNat * 1, none⟩ = some (sv'.v) := by
          have := blk_cells hB.blk z.toNat sv'.v (by rw [List.getElem?_map, hsv]; rfl)
          rw [show 0 + z.toNat * 1 = 0 + z.toNat by omega]; exact this
        (repeat refine Zlr ?_)
        refine s_v (r_ia (size := 1) rfl rfl rfl rfl (by omega) (by omega)) ?_
        refine s_v (r_ld rfl rfl hcl) ?_
        (repeat refine Zlr ?_)
        refine s_bs (cs := [.int .i64 (i : Int), .int .i64 (k : Int)]) (e := tLean) rfl (fun b9 w7 n9 => ?_)
        have hB := hB.no n9.kp
        have k7 := k6.no n9.kp
        have h9 := n9.blk
        refine s_app (v0 := sv'.v) (k := m.length) (m := 1) (size := 2) (bytes := 16) (base := w2.heap.size) (xs := m.flatMap leC) (news := leC ((i : Int), (k : Int))) rfl rfl rfl rfl rfl rfl rfl rfl (hB.own _ _ _ hsv hm) rfl (blk_cells h9) rfl rfl (by omega) (by omega) k7.size ?_
        intro v8 w8 ap
        obtain ⟨a9, c9, e9, _⟩ := own_read ap.own
        subst e9
        have hg8 := ap.get (hB.own _ _ _ hsv hm) hB.blk rfl
        (repeat refine Zlr ?_)
        refine s_v (r_ia (size := 1) rfl rfl rfl rfl (by omega) (by omega)) ?_
        refine s_st (vs := [.slice a9 (m.length + 1) c9]) rfl rfl rfl rfl rfl hg8 (by rw [List.length_map, hB.len]; show _ + 1 ≤ _; omega) (fun w9 s9 => ?_)
        have s9 : Sb w8 g ((vs3.set z.toNat ⟨a9, m.length + 1, c9⟩).map Sl.v) tLL w9 := by
          have hl : z.toNat < (vs3.map Sl.v).length := by rw [List.length_map, hB.len]; omega
          have e : setAt (vs3.map Sl.v) z.toNat [.slice a9 (m.length + 1) c9] = (vs3.set z.toNat ⟨a9, m.length + 1, c9⟩).map Sl.v := by
            rw [setAt_one _ _ _ hl, List.map_set]
          rw [← e]
          rw [show z.toNat = 0 + z.toNat * 1 by omega]
          exact s9
        have hB' := hB.app (v' := ⟨a9, m.length + 1, c9⟩) (x := ((i : Int), (k : Int))) hsv hm ap s9
        have k9 : Kp No w2 w9 := (k7.from0' ap.kp fun b hb e => (by have := own_lt (hB.own _ _ _ hsv hm) e.symm; omega)).from0' s9.kp fun b hb e => by omega
        have cz := rd hzN w9 k9
        (repeat refine Zlr ?_)
        refine s_v (r_ia (size := 1) rfl rfl rfl rfl (by omega) (by omega)) ?_
        refine s_v (r_ld rfl rfl cz) ?_
        (repeat refine Zlr ?_)
        refine l_next ((n, gi (fenL nx) z), vs3.set z.toNat ⟨a9, m.length + 1, c9⟩, rs3.set z.toNat (m ++ [((i : Int), (k : Int))])) ⟨rfl, rfl, rfl, rfl, rfl, rfl, rfl, rfl, rfl, rfl, rfl, trivial⟩ ⟨by show n ≤ 3; omega, ?_, ?_, by rw [List.length_set]; exact hrl, fun l hl => ?_, hS, hB', k9⟩ (by show n < n + 1; omega)
        · have := (W.rk hzN).1; show rkL nx (gi (fenL nx) z) < n; omega
        · exact (W.fen.i1 z hzN).imp id fun h => h.1
        · rcases List.mem_or_eq_of_mem_set hl with h | h
          · have := hll l h; show l.length + n ≤ _; omega
          · rw [h, List.length_append]; show m.length + 1 + n ≤ _; omega
      · rw [if_neg (fun h => h.2 hz1)] at hS
        obtain ⟨y1, y2, y3, y4⟩ := out hS
        (repeat refine Zlr ?_)
        exact l_next (k + 1, vs3, rs3) ⟨rfl, rfl, rfl, rfl, rfl, rfl, rfl, rfl, rfl, trivial⟩ ⟨y1, y2, y3, y4, hB, k6⟩ (by show L.length - (k + 1) < L.length - k; omega)
    · have hk : k = L.length := by omega
      subst hk
      rw [List.drop_length] at hR
      have hR : rs2 = leR (fenL nx) 2 st i 0 L rs := hR
      (repeat refine Zlr ?_)
      exact l_next (i + 1, vs2, rs2) ⟨rfl, rfl, rfl, rfl, rfl, trivial⟩ ⟨hlt, hrl, fun l hl => by have := hll l hl; show l.length ≤ 10 * (i + 1); omega, by rw [hR]; exact hbk, hB, k5⟩ (by show nx.length - (i + 1) < nx.length - i; omega)
  · have hi : i = nx.length := by omega
    subst hi
    rw [List.drop_length] at hbk
    have hbk : rs = [[(1, 0)], [(1, 0)]] := hbk
    subst hbk
    rw [hl2]
    have hg := hB.blk
    (repeat refine Zlr ?_)
    refine k_loop (σ := Nat) (fun i => [(4, .slice (some ⟨g, 0, none⟩) 2 2), (63, .slice (some ⟨g, 0, none⟩) 2 2), (64, .int .i64 2), (65, .int .i64 (i : Int))])
      (fun i w' => i ≤ 2 ∧ Bl w2.heap.size w' g vs [[(1, 0)], [(1, 0)]] ∧ Kp No w2 w') (fun i => 2 - i) 0 ⟨rfl, rfl, rfl, rfl, trivial⟩ ⟨Nat.zero_le _, hB, k4⟩ ?_
    clear hB k4 hg
    rintro j l5 w5 ⟨hj, hB, k5⟩
    (repeat refine Zlr ?_)
    refine c_dec rfl (fun hlt2 => ?_) (fun hge2 => ?_)
    · have hj2 : j < 2 := by omega
      obtain ⟨sv', hsv⟩ : ∃ v, vs[j]? = some v := ⟨_, List.getElem?_eq_getElem (by rw [hB.len]; exact hj2)⟩
      obtain ⟨m, hm⟩ : ∃ m, ([[(1, 0)], [(1, 0)]] : List (List (Int × Int)))[j]? = some m := ⟨_, List.getElem?_eq_getElem hj2⟩
      have hml : m.length ≤ 1 := by
        match j, hj2, hm with
        | 0, _, hm => cases hm; decide
        | 1, _, hm => cases hm; decide
      have hcl : w5.cell? ⟨g, 0 + (j : Int).toNat * 1, none⟩ = some (sv'.v) := by
        have := blk_cells hB.blk j sv'.v (by rw [List.getElem?_map, hsv]; rfl)
        rw [show 0 + (j : Int).toNat * 1 = 0 + j by omega]; exact this
      obtain ⟨sa, sc, es, _⟩ := own_read (hB.own _ _ _ hsv hm)
      rw [es] at hcl
      (repeat refine Zlr ?_)
      refine s_v (r_ia (size := 1) rfl rfl rfl rfl (by omega) (by omega)) ?_
      refine s_v (r_ld rfl rfl hcl) ?_
      (repeat refine Zlr ?_)
      refine s_call (us := []) (zs := []) (by kernel_rfl) rfl rfl (sortF sa m.length sc hml w5) ?_
      rintro _ w6 ⟨rfl, k6⟩
      (repeat refine Zlr ?_)
      exact l_next (j + 1) ⟨rfl, rfl, rfl, rfl, trivial⟩ ⟨hj2, hB.no k6, k5.no k6⟩ (by show 2 - (j + 1) < 2 - j; omega)
    · (repeat refine Zlr ?_)
      exact ret_c1 rfl (rv_t rfl) ⟨g, vs, _, rfl, hB, k2.no k5⟩
end Go.Proofs.Ytkllhfajldnpoaa.Ck
