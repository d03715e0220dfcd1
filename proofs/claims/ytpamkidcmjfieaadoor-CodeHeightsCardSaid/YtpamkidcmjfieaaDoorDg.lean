/- Code: Parse. -/
import Derived.Test.YtpamkidcmjfieaaDoorCa
import Derived.Test.YtpamkidcmjfieaaDoorCy
namespace Go.Proofs.YtpamkidcmjfieaaDoor
open Go Go.RowKit Fw Nu
set_option linter.unusedVariables false
set_option maxRecDepth 20000
namespace Cd
theorem eq_empty (s : ByteArray) : (s.toList == (ByteArray.mk #[]).toList) = decide (s.size = 0) := by
  rw [str_eq, ← B_len]
  by_cases h : (B s).length = 0
  · rw [decide_eq_true h, List.length_eq_zero_iff.1 h]; rfl
  · rw [decide_eq_false h]
    exact decide_eq_false (fun e => h (by rw [e]; rfl))
/-- Where a procedure ends: where the next one begins. -/
def nxt (ps : List Prc) (n : Int) (j : Nat) : Int := match ps[j + 1]? with | some x => x.fr | none => n
theorem tosL_get : ∀ (ps : List Prc) (n : Int) (j : Nat), (tosL ps n)[j]? = ps[j]?.map (fun p => (Prc.wt p (nxt ps n j))) := by
  intro ps n
  induction ps with
  | nil => intro j; rfl
  | cons p r ih =>
    intro j
    cases r with
    | nil =>
      cases j with
      | zero => rfl
      | succ j => rfl
    | cons q r =>
      cases j with
      | zero => rfl
      | succ j =>
        rw [tosL, List.getElem?_cons_succ, ih]
        rfl
theorem flat_set (v : Int) : ∀ (ps : List Prc) (i : Nat) (p : Prc), ps[i]? = some p → (ps.flatMap pc).set (i * 6 + 2) (.int .i64 v) = (ps.set i (Prc.wt p (v))).flatMap pc := by
  intro ps
  induction ps with
  | nil => intro i p h; simp at h
  | cons q r ih =>
    intro i p h
    cases i with
    | zero =>
      simp only [List.getElem?_cons_zero, Option.some.injEq] at h
      subst h
      simp [pc]
    | succ i =>
      rw [List.getElem?_cons_succ] at h
      rw [List.flatMap_cons, List.set_append_right _ _ (by show 6 ≤ _; omega), List.set_cons_succ, List.flatMap_cons, ← ih i p h]
      congr 2
      show (i + 1) * 6 + 2 - 6 = _
      omega
theorem own_put {w : World} {base : Nat} {e size n c : Nat} {a : Option Addr} {cs : List Value} {k : Nat} (h : w.ownsRow base e size (.slice a n c) n cs) (hk : k < cs.length) :
    ∃ g cur, a = some ⟨g, 0, none⟩ ∧ base ≤ g ∧ w.heap[g]? = some (.cells (List.toArray cur) e (0, 0)) ∧ k < cur.length ∧ ∀ w2 u, Sb w g (cur.set k u) e w2 → w2.ownsRow base e size (.slice a n c) n (cs.set k u) := by
  obtain ⟨hl, h⟩ := h
  rcases h with ⟨e1, h0⟩ | ⟨g, cap, cur, e1, hg, hb, hn, hm, hs, ht⟩
  · subst h0; rw [Nat.zero_mul] at hl; omega
  · cases e1
    have hcl : cs.length ≤ cur.toList.length := by rw [← ht, List.length_take]; omega
    refine ⟨g, cur.toList, rfl, hg, hb, by omega, fun w2 u s2 => ⟨by rw [List.length_set]; exact hl, .inr ⟨g, c, (cur.toList.set k u).toArray, rfl, hg, s2.blk, hn, hm, by simpa using hs, ?_⟩⟩⟩
    show (cur.toList.set k u).take (n * size) = _
    rw [List.take_set, ht]
/-- What a line adds. -/
theorem addL_sz {c d : Cde} {L : List Int} {M : Nat} (hb : InB L) (h : addL c L = some d) (hc : ∀ p ∈ c.ps, p.nm.size ≤ M) (hL : L.length ≤ M) : (∀ p ∈ d.ps, p.nm.size ≤ M) ∧ d.ps.length + d.is.length = c.ps.length + c.is.length + 1 := by
  unfold addL at h
  have hsub := Sp.spl_sub 32 L
  split at h
  · cases h
  · rename_i x r hsp
    rw [hsp] at hsub
    split at h
    · unfold addP at h
      split at h
      · rename_i h4
        split at h
        · split at h
          · simp only [Option.some.injEq] at h
            subst h
            refine ⟨fun p hp => ?_, by simp; omega⟩
            rcases List.mem_append.1 hp with hp | hp
            · exact hc p hp
            · rw [List.mem_singleton] at hp
              subst hp
              match r, h4 with
              | [a, x, y, z], _ =>
                have ha := hsub a (by simp)
                show (strOfNums a).size ≤ M
                rw [sv_size (fun q hq => hb q (ha.2 q hq))]
                omega
          · cases h
        · cases h
      · cases h
    · unfold addI at h
      split at h
      · split at h
        · cases h
        · split at h
          · simp only [Option.some.injEq] at h
            subst h
            exact ⟨hc, by simp; omega⟩
          · cases h
      · cases h
theorem step_qs {ps qs : List Prc} {n : Int} {j : Nat} {q : Prc} (hq : qs[j]? = some q) (h : ∀ (k : Nat) q, qs[k]? = some q → ∃ p, ps[k]? = some p ∧ q = (Prc.wt p (if k < j then nxt ps n k else p.to))) :
    ∀ (k : Nat) q', (qs.set j (Prc.wt q (nxt ps n j)))[k]? = some q' → ∃ p, ps[k]? = some p ∧ q' = (Prc.wt p (if k < j + 1 then nxt ps n k else p.to)) := by
  intro k q' hk
  by_cases e : k = j
  · subst e
    rw [List.getElem?_set_self (List.getElem?_eq_some_iff.1 hq).1] at hk
    obtain ⟨p, hp, rfl⟩ := h k q hq
    refine ⟨p, hp, ?_⟩
    rw [if_pos (by omega)]
    exact (Option.some.inj hk).symm
  · rw [List.getElem?_set_ne (Ne.symm e)] at hk
    obtain ⟨p, hp, rfl⟩ := h k q' hk
    refine ⟨p, hp, ?_⟩
    by_cases hkj : k < j
    · rw [if_pos hkj, if_pos (by omega)]
    · rw [if_neg hkj, if_neg (by omega)]
set_option maxHeartbeats 8000000 in
theorem ParseF (s : ByteArray) (w : World) (hg : Tk.Glob w) (hgl : Lb.Glob w) (hs : Shp w) (hsz : s.size ≤ 9223372036854775807) :
    Ret Tryd.prog 8 [.string s] w fun v w1 => Kp No w w1 ∧ ∃ (c : Cde) (n e : Int) (ap al : Option Addr) (cp cl : Nat), v = .tuple #[.agg #[.slice ap c.ps.length cp, .slice al c.is.length cl], .int .i64 n, .int .i64 e] ∧ PR (B s) c n e ∧
      RP w1 ap c.ps ∧ RI w1 al c.is ∧ c.ps.length ≤ cp ∧ c.is.length ≤ cl ∧ c.ps.length ≤ 200000 ∧ c.is.length ≤ 200000 ∧ ∀ p ∈ c.ps, p.nm.size ≤ 200000 := by
  refine ret_enter Tryd.func8 rfl Tryd.ntmps8 rfl ?_
  (repeat (first | refine k_nil ?_ | refine k_n ?_ | refine k_r ?_ | refine k_x ?_ | refine b_n ?_ | refine b_r ?_ | refine b_y rfl ?_ | refine b_z rfl ?_ | refine l_r ?_ | refine l_x ?_ | refine k_seq ?_ | refine k_blk ?_ | refine k_reg ?_ | refine k_ret ?_ | refine k_exit ?_ | refine k_skip ?_ | refine Zs ?_))
  refine s_al (cs := [.slice none 0 0, .slice none 0 0]) rfl (fun b2 w1 n1 => ?_)
  have g1 := n1.ge
  have l1 := n1.lt
  have none0 : ∀ (m : World), Kp No w m → ∀ n e : Int, PR (B s) ⟨[], []⟩ n e → Kp No w m ∧ ∃ (c : Cde) (n' e' : Int) (ap al : Option Addr) (cp cl : Nat), Value.tuple #[.agg #[.slice none 0 0, .slice none 0 0], .int .i64 n, .int .i64 e] = .tuple #[.agg #[.slice ap c.ps.length cp, .slice al c.is.length cl], .int .i64 n', .int .i64 e'] ∧ PR (B s) c n' e' ∧
      RP m ap c.ps ∧ RI m al c.is ∧ c.ps.length ≤ cp ∧ c.is.length ≤ cl ∧ c.ps.length ≤ 200000 ∧ c.is.length ≤ 200000 ∧ ∀ p ∈ c.ps, p.nm.size ≤ 200000 := fun m k n e h =>
    ⟨k, ⟨[], []⟩, n, e, none, none, 0, 0, rfl, h, .inl rfl, .inl rfl, Nat.le_refl _, Nat.le_refl _, Nat.zero_le _, Nat.zero_le _, fun p hp => by cases hp⟩
  (repeat (first | refine k_nil ?_ | refine k_n ?_ | refine k_r ?_ | refine k_x ?_ | refine b_n ?_ | refine b_r ?_ | refine b_y rfl ?_ | refine b_z rfl ?_ | refine l_r ?_ | refine l_x ?_ | refine k_seq ?_ | refine k_blk ?_ | refine k_reg ?_ | refine k_ret ?_ | refine k_exit ?_ | refine k_skip ?_ | refine Zs ?_))
  refine c_dec rfl (fun hlong => ?_) (fun hshort => ?_)
  · (repeat (first | refine k_nil ?_ | refine k_n ?_ | refine k_r ?_ | refine k_x ?_ | refine b_n ?_ | refine b_r ?_ | refine b_y rfl ?_ | refine b_z rfl ?_ | refine l_r ?_ | refine l_x ?_ | refine k_seq ?_ | refine k_blk ?_ | refine k_reg ?_ | refine k_ret ?_ | refine k_exit ?_ | refine k_skip ?_ | refine Zs ?_))
    refine s_st (vs := [.slice none 0 0, .slice none 0 0]) rfl rfl rfl rfl rfl n1.blk (Nat.le_of_ble_eq_true rfl) (fun w2 s2 => ?_)
    (repeat (first | refine k_nil ?_ | refine k_n ?_ | refine k_r ?_ | refine k_x ?_ | refine b_n ?_ | refine b_r ?_ | refine b_y rfl ?_ | refine b_z rfl ?_ | refine l_r ?_ | refine l_x ?_ | refine k_seq ?_ | refine k_blk ?_ | refine k_reg ?_ | refine k_ret ?_ | refine k_exit ?_ | refine k_skip ?_ | refine Zs ?_))
    refine ret_c3 rfl (rv_ag rfl rfl rfl s2.blk rfl rfl) (rv_t rfl) (rv_t rfl) (none0 w2 (n1.kp.trans s2.kp (fun q hq e => by have e : q = b2 := e; omega)) 0 1 (.inl ⟨by rw [B_len]; omega, rfl, rfl, rfl⟩))
  have hs2 : s.size ≤ 200000 := by omega
  have hL2 : (B s).length ≤ 200000 := by rw [B_len]; exact hs2
  (repeat (first | refine k_nil ?_ | refine k_n ?_ | refine k_r ?_ | refine k_x ?_ | refine b_n ?_ | refine b_r ?_ | refine b_y rfl ?_ | refine b_z rfl ?_ | refine l_r ?_ | refine l_x ?_ | refine k_seq ?_ | refine k_blk ?_ | refine k_reg ?_ | refine k_ret ?_ | refine k_exit ?_ | refine k_skip ?_ | refine Zs ?_))
  refine s_al (cs := [.slice none 0 0, .slice none 0 0]) rfl (fun b w2 n2 => ?_)
  have g2 := n2.ge
  have l2 := n2.lt
  have e2 := n2.kp.get0 n1.blk
  obtain ⟨base, hbase⟩ : ∃ base, base = w2.heap.size := ⟨_, rfl⟩
  have kw2 := n1.kp.no n2.kp
  have hCV0 : CV base b ⟨[], []⟩ w2 := ⟨by omega, none, 0, none, 0, n2.blk, World.ownsRow_nil _ _ _ _, World.ownsRow_nil _ _ _ _, fun g hg => by simp [Value.ownBlock] at hg⟩
  have keep : ∀ {m : World}, Kp (fun k => k = b ∨ base ≤ k) w2 m → Kp No w m := fun km => kw2.trans km (fun q hq e => by omega)
  (repeat (first | refine k_nil ?_ | refine k_n ?_ | refine k_r ?_ | refine k_x ?_ | refine b_n ?_ | refine b_r ?_ | refine b_y rfl ?_ | refine b_z rfl ?_ | refine l_r ?_ | refine l_x ?_ | refine k_seq ?_ | refine k_blk ?_ | refine k_reg ?_ | refine k_ret ?_ | refine k_exit ?_ | refine k_skip ?_ | refine Zs ?_))
  refine k_loop (σ := ByteArray × Nat × Cde) (fun t => [(0, .string t.1), (2, .pointer (some ⟨b2, 0, none⟩)), (5, .pointer (some ⟨b, 0, none⟩)), (6, .int .i64 t.2.1)])
    (fun t m => Kp (fun k => k = b ∨ base ≤ k) w2 m ∧ CV base b t.2.2 m ∧ t.2.1 + t.1.size ≤ s.size ∧ t.2.2.ps.length + t.2.2.is.length = t.2.1 ∧ (∀ p ∈ t.2.2.ps, p.nm.size ≤ 200000) ∧ pgo ⟨[], []⟩ 0 (Sp.spl 10 (B s)) = pgo t.2.2 t.2.1 (Sp.spl 10 (B t.1)) ∧ (Sp.spl 10 (B s)).length = t.2.1 + (Sp.spl 10 (B t.1)).length) (fun t => t.1.size) (s, 0, ⟨[], []⟩) ⟨rfl, rfl, rfl, rfl, trivial⟩ ⟨Kp.refl _ _, hCV0, by simp, rfl, fun p hp => (by cases hp), rfl, by simp⟩ ?_
  rintro ⟨t, n, c⟩ l m ⟨km, C, hts, hcn, hnm, hpg, hsl⟩
  simp only at C hts hcn hnm hpg hsl
  try dsimp only
  have zm := km.size
  have e2m := km.get e2 (show ¬ (b2 = b ∨ base ≤ b2) by omega)
  (repeat (first | refine k_nil ?_ | refine k_n ?_ | refine k_r ?_ | refine k_x ?_ | refine b_n ?_ | refine b_r ?_ | refine b_y rfl ?_ | refine b_z rfl ?_ | refine l_r ?_ | refine l_x ?_ | refine k_seq ?_ | refine k_blk ?_ | refine k_reg ?_ | refine k_ret ?_ | refine k_exit ?_ | refine k_skip ?_ | refine Zs ?_))
  refine c_b rfl (fun hne => ?_) (fun he => ?_)
  · have hne : (!(t.toList == (ByteArray.mk #[]).toList)) = true := hne
    rw [eq_empty] at hne
    have ht0 : ¬ t.size = 0 := by simpa using hne
    (repeat (first | refine k_nil ?_ | refine k_n ?_ | refine k_r ?_ | refine k_x ?_ | refine b_n ?_ | refine b_r ?_ | refine b_y rfl ?_ | refine b_z rfl ?_ | refine l_r ?_ | refine l_x ?_ | refine k_seq ?_ | refine k_blk ?_ | refine k_reg ?_ | refine k_ret ?_ | refine k_exit ?_ | refine k_skip ?_ | refine Zs ?_))
    refine s_call (us := []) (zs := []) (by kernel_rfl) rfl rfl (cut' t m (by omega)) ?_
    rintro _ m1 ⟨⟨a, r, f, rfl, H⟩, k1⟩
    have km1 := km.no k1
    have e21 := k1.get0 e2m
    (repeat (first | refine k_nil ?_ | refine k_n ?_ | refine k_r ?_ | refine k_x ?_ | refine b_n ?_ | refine b_r ?_ | refine b_y rfl ?_ | refine b_z rfl ?_ | refine l_r ?_ | refine l_x ?_ | refine k_seq ?_ | refine k_blk ?_ | refine k_reg ?_ | refine k_ret ?_ | refine k_exit ?_ | refine k_skip ?_ | refine Zs ?_))
    rcases H with ⟨hfst, rfl, rfl⟩ | ⟨i, hfst, ha, hr, rfl⟩
    · (repeat (first | refine k_nil ?_ | refine k_n ?_ | refine k_r ?_ | refine k_x ?_ | refine b_n ?_ | refine b_r ?_ | refine b_y rfl ?_ | refine b_z rfl ?_ | refine l_r ?_ | refine l_x ?_ | refine k_seq ?_ | refine k_blk ?_ | refine k_reg ?_ | refine k_ret ?_ | refine k_exit ?_ | refine k_skip ?_ | refine Zs ?_ | refine Zn ?_ | refine Zu ?_ | refine Zg ?_))
      refine c_t rfl ?_
      (repeat (first | refine k_nil ?_ | refine k_n ?_ | refine k_r ?_ | refine k_x ?_ | refine b_n ?_ | refine b_r ?_ | refine b_y rfl ?_ | refine b_z rfl ?_ | refine l_r ?_ | refine l_x ?_ | refine k_seq ?_ | refine k_blk ?_ | refine k_reg ?_ | refine k_ret ?_ | refine k_exit ?_ | refine k_skip ?_ | refine Zs ?_))
      refine s_st (vs := [.slice none 0 0, .slice none 0 0]) rfl rfl rfl rfl rfl e21 (Nat.le_of_ble_eq_true rfl) (fun m2 s2 => ?_)
      (repeat (first | refine k_nil ?_ | refine k_n ?_ | refine k_r ?_ | refine k_x ?_ | refine b_n ?_ | refine b_r ?_ | refine b_y rfl ?_ | refine b_z rfl ?_ | refine l_r ?_ | refine l_x ?_ | refine k_seq ?_ | refine k_blk ?_ | refine k_reg ?_ | refine k_ret ?_ | refine k_exit ?_ | refine k_skip ?_ | refine Zs ?_))
      refine ret_c3 rfl (rv_ag rfl rfl rfl s2.blk rfl rfl) (rv_t rfl) (rv_t rfl) (none0 m2 ((keep km1).trans s2.kp (fun q hq e => by have e : q = b2 := e; omega)) _ 3 (.inr ⟨hL2, .inl ⟨n + 1, ?_, rfl, by omega, rfl⟩⟩))
      rw [hpg, spl_end hfst, pgo, if_neg]
      intro e
      have := congrArg List.length e
      rw [B_len] at this
      exact ht0 this
    · have hi := (Sp.fst_some hfst).1
      rw [B_len] at hi
      have hal : a.size = i := by rw [← B_len, ha, List.length_take, B_len]; omega
      have hrl : r.size = t.size - (i + 1) := by rw [← B_len, hr, List.length_drop, B_len]
      have hspl := spl_cut hfst
      rw [← ha, ← hr] at hspl
      have hgo : pgo c n (Sp.spl 10 (B t)) = match addL c (B a) with | none => .inr (n + 1) | some d => pgo d (n + 1) (Sp.spl 10 (B r)) := by
        rw [hspl]
        cases hx : Sp.spl 10 (B r) with
        | nil => exact (Sp.spl_ne _ _ hx).elim
        | cons y z => rw [pgo]; cases addL c (B a) <;> rfl
      have hlen2 : (Sp.spl 10 (B t)).length = 1 + (Sp.spl 10 (B r)).length := by rw [hspl, List.length_cons]; omega
      (repeat (first | refine k_nil ?_ | refine k_n ?_ | refine k_r ?_ | refine k_x ?_ | refine b_n ?_ | refine b_r ?_ | refine b_y rfl ?_ | refine b_z rfl ?_ | refine l_r ?_ | refine l_x ?_ | refine k_seq ?_ | refine k_blk ?_ | refine k_reg ?_ | refine k_ret ?_ | refine k_exit ?_ | refine k_skip ?_ | refine Zs ?_ | refine Zn ?_ | refine Zu ?_ | refine Zg ?_))
      refine s_gcall (us := []) (zs := []) rfl (by kernel_rfl) rfl rfl (add base b c a m1 (by omega) (by have := k1.size; omega) (C.kp k1) w (keep km1) (by have := kw2.size; have := n1.kp.size; omega) hg hgl hs (by omega) (by omega)) ?_
      rintro _ m2 ⟨ok, rfl, hok, k2⟩
      have km2 : Kp (fun k => k = b ∨ base ≤ k) w2 m2 := km1.trans k2 (fun q _ e => e)
      have e22 := k2.get e21 (show ¬ (b2 = b ∨ base ≤ b2) by omega)
      rcases hok with ⟨rfl, d, hd, Cd'⟩ | ⟨rfl, hd⟩
      · obtain ⟨hnd, hdl⟩ := addL_sz (M := 200000) (inB_B a) hd hnm (by rw [B_len]; omega)
        (repeat (first | refine k_nil ?_ | refine k_n ?_ | refine k_r ?_ | refine k_x ?_ | refine b_n ?_ | refine b_r ?_ | refine b_y rfl ?_ | refine b_z rfl ?_ | refine l_r ?_ | refine l_x ?_ | refine k_seq ?_ | refine k_blk ?_ | refine k_reg ?_ | refine k_ret ?_ | refine k_exit ?_ | refine k_skip ?_ | refine Zs ?_ | refine Zn ?_ | refine Zu ?_ | refine Zg ?_))
        refine c_f rfl ?_
        (repeat (first | refine k_nil ?_ | refine k_n ?_ | refine k_r ?_ | refine k_x ?_ | refine b_n ?_ | refine b_r ?_ | refine b_y rfl ?_ | refine b_z rfl ?_ | refine l_r ?_ | refine l_x ?_ | refine k_seq ?_ | refine k_blk ?_ | refine k_reg ?_ | refine k_ret ?_ | refine k_exit ?_ | refine k_skip ?_ | refine Zs ?_))
        refine l_next (r, n + 1, d) ⟨rfl, rfl, rfl, rfl, trivial⟩ ⟨km2, Cd', by show n + 1 + r.size ≤ _; omega, by show d.ps.length + d.is.length = n + 1; omega, hnd, ?_, ?_⟩ (by show r.size < t.size; omega)
        · rw [hpg, hgo, hd]
        · show _ = n + 1 + (Sp.spl 10 (B r)).length; omega
      · (repeat (first | refine k_nil ?_ | refine k_n ?_ | refine k_r ?_ | refine k_x ?_ | refine b_n ?_ | refine b_r ?_ | refine b_y rfl ?_ | refine b_z rfl ?_ | refine l_r ?_ | refine l_x ?_ | refine k_seq ?_ | refine k_blk ?_ | refine k_reg ?_ | refine k_ret ?_ | refine k_exit ?_ | refine k_skip ?_ | refine Zs ?_ | refine Zn ?_ | refine Zu ?_ | refine Zg ?_))
        refine c_t rfl ?_
        (repeat (first | refine k_nil ?_ | refine k_n ?_ | refine k_r ?_ | refine k_x ?_ | refine b_n ?_ | refine b_r ?_ | refine b_y rfl ?_ | refine b_z rfl ?_ | refine l_r ?_ | refine l_x ?_ | refine k_seq ?_ | refine k_blk ?_ | refine k_reg ?_ | refine k_ret ?_ | refine k_exit ?_ | refine k_skip ?_ | refine Zs ?_))
        refine s_st (vs := [.slice none 0 0, .slice none 0 0]) rfl rfl rfl rfl rfl e22 (Nat.le_of_ble_eq_true rfl) (fun m3 s3 => ?_)
        (repeat (first | refine k_nil ?_ | refine k_n ?_ | refine k_r ?_ | refine k_x ?_ | refine b_n ?_ | refine b_r ?_ | refine b_y rfl ?_ | refine b_z rfl ?_ | refine l_r ?_ | refine l_x ?_ | refine k_seq ?_ | refine k_blk ?_ | refine k_reg ?_ | refine k_ret ?_ | refine k_exit ?_ | refine k_skip ?_ | refine Zs ?_))
        refine ret_c3 rfl (rv_ag rfl rfl rfl s3.blk rfl rfl) (rv_t rfl) (rv_t rfl) (none0 m3 ((keep km2).trans s3.kp (fun q hq e => by have e : q = b2 := e; omega)) _ 3 (.inr ⟨hL2, .inl ⟨n + 1, ?_, rfl, by omega, rfl⟩⟩))
        rw [hpg, hgo, hd]
  · have he : (!(t.toList == (ByteArray.mk #[]).toList)) = false := he
    rw [eq_empty] at he
    have ht0 : t.size = 0 := by simpa using he
    have hB0 : B t = [] := List.length_eq_zero_iff.1 (by rw [B_len]; exact ht0)
    rw [hB0] at hpg hsl
    have hpg' : pgo ⟨[], []⟩ 0 (Sp.spl 10 (B s)) = .inl c := hpg
    have hsl' : (Sp.spl 10 (B s)).length = n + 1 := hsl
    obtain ⟨hlt, ap, cp, al, cl, hblk, ownp, owni, hne⟩ := C
    (repeat (first | refine k_nil ?_ | refine k_n ?_ | refine k_r ?_ | refine k_x ?_ | refine b_n ?_ | refine b_r ?_ | refine b_y rfl ?_ | refine b_z rfl ?_ | refine l_r ?_ | refine l_x ?_ | refine k_seq ?_ | refine k_blk ?_ | refine k_reg ?_ | refine k_ret ?_ | refine k_exit ?_ | refine k_skip ?_ | refine Zs ?_))
    refine k_loop (σ := Nat × List Prc) (fun t => [(2, .pointer (some ⟨b2, 0, none⟩)), (5, .pointer (some ⟨b, 0, none⟩)), (6, .int .i64 n), (37, .int .i64 c.ps.length), (38, .int .i64 t.1)])
      (fun t m' => t.1 ≤ c.ps.length ∧ Kp (fun k => k = b ∨ base ≤ k) w2 m' ∧ t.2.length = c.ps.length ∧ (∀ (j : Nat) q, t.2[j]? = some q → ∃ p, c.ps[j]? = some p ∧ q = (Prc.wt p (if j < t.1 then nxt c.ps c.is.length j else p.to))) ∧
        m'.heap[b]? = some (.cells [Value.slice ap c.ps.length cp, .slice al c.is.length cl].toArray 25 (0, 0)) ∧ m'.ownsRow base 32 6 (.slice ap c.ps.length cp) c.ps.length (t.2.flatMap pc) ∧ m'.ownsRow base 34 3 (.slice al c.is.length cl) c.is.length (c.is.flatMap ic)) (fun t => c.ps.length - t.1) (0, c.ps) ⟨rfl, rfl, rfl, rfl, rfl, trivial⟩ ⟨Nat.zero_le _, km, rfl, fun j q hq => ⟨q, hq, by simp⟩, hblk, ownp, owni⟩ ?_
    rintro ⟨j, qs⟩ l3 m3 ⟨hj, km3, hql, hqs, hb3, ownp3, owni3⟩
    simp only at hj hql hqs ownp3
    try dsimp only
    (repeat (first | refine k_nil ?_ | refine k_n ?_ | refine k_r ?_ | refine k_x ?_ | refine b_n ?_ | refine b_r ?_ | refine b_y rfl ?_ | refine b_z rfl ?_ | refine l_r ?_ | refine l_x ?_ | refine k_seq ?_ | refine k_blk ?_ | refine k_reg ?_ | refine k_ret ?_ | refine k_exit ?_ | refine k_skip ?_ | refine Zs ?_))
    refine c_dec rfl (fun hlt2 => ?_) (fun hge2 => ?_)
    · obtain ⟨q, hq⟩ : ∃ q, qs[j]? = some q := ⟨_, List.getElem?_eq_getElem (by omega)⟩
      have hfl : (qs.flatMap pc).length = qs.length * 6 := flat_length (f := pc) (fun _ => rfl) qs
      obtain ⟨g, cur, rfl, hgb, hgblk, hkc, hst⟩ := own_put (k := 0 + j * 6 + 2) ownp3 (by rw [hfl]; omega)
      have hneg := hne g rfl
      (repeat (first | refine k_nil ?_ | refine k_n ?_ | refine k_r ?_ | refine k_x ?_ | refine b_n ?_ | refine b_r ?_ | refine b_y rfl ?_ | refine b_z rfl ?_ | refine l_r ?_ | refine l_x ?_ | refine k_seq ?_ | refine k_blk ?_ | refine k_reg ?_ | refine k_ret ?_ | refine k_exit ?_ | refine k_skip ?_ | refine Zs ?_))
      refine s_v (r_ia (i := j) rfl rfl rfl rfl (by omega) (by omega)) ?_
      (repeat (first | refine k_nil ?_ | refine k_n ?_ | refine k_r ?_ | refine k_x ?_ | refine b_n ?_ | refine b_r ?_ | refine b_y rfl ?_ | refine b_z rfl ?_ | refine l_r ?_ | refine l_x ?_ | refine k_seq ?_ | refine k_blk ?_ | refine k_reg ?_ | refine k_ret ?_ | refine k_exit ?_ | refine k_skip ?_ | refine Zs ?_))
      refine s_st rfl rfl rfl rfl rfl hgblk (by show 0 + j * 6 + 2 + 1 ≤ _; omega) (fun m4 s4 => ?_)
      have ownp4 := hst m4 (.int .i64 c.is.length) s4
      rw [Nat.zero_add, flat_set _ _ _ _ hq] at ownp4
      have hb4 := s4.kp.get hb3 (show ¬ b = g by omega)
      have owni4 := own_kp owni3 s4.kp (fun x hx e => hneg (by rw [hx, e]))
      have km4 : Kp (fun k => k = b ∨ base ≤ k) w2 m4 := km3.trans s4.kp (fun x _ e => by have e : x = g := e; omega)
      have hql4 : (qs.set j (Prc.wt q ((c.is.length : Int)))).length = c.ps.length := by rw [List.length_set]; exact hql
      (repeat (first | refine k_nil ?_ | refine k_n ?_ | refine k_r ?_ | refine k_x ?_ | refine b_n ?_ | refine b_r ?_ | refine b_y rfl ?_ | refine b_z rfl ?_ | refine l_r ?_ | refine l_x ?_ | refine k_seq ?_ | refine k_blk ?_ | refine k_reg ?_ | refine k_ret ?_ | refine k_exit ?_ | refine k_skip ?_ | refine Zs ?_))
      refine c_dec rfl (fun hlt3 => ?_) (fun hge3 => ?_)
      · obtain ⟨q2, hq2⟩ : ∃ q2, (qs.set j (Prc.wt q ((c.is.length : Int))))[j + 1]? = some q2 := ⟨_, List.getElem?_eq_getElem (by omega)⟩
        have hRP := RP.of (ps := qs.set j (Prc.wt q ((c.is.length : Int)))) (a := some ⟨g, 0, none⟩) (cp := cp) (by rw [hql4]; exact ownp4)
        obtain ⟨_, _, he, _, hc2⟩ := hRP.at hq2
        cases he
        have hc2' : m4.cell? ⟨g, 0 + (j + 1) * 6 + 1, none⟩ = some (.int .i64 q2.fr) := hc2 1 (by omega)
        have hj1 : ((j : Int) + 1).toNat = j + 1 := by omega
        obtain ⟨g', cur', he', _, hgblk', hkc', hst'⟩ := own_put (k := 0 + j * 6 + 2) ownp4 (by rw [flat_length (f := pc) (sz := 6) (fun _ => rfl), List.length_set]; omega)
        cases he'
        have hq22 : qs[j + 1]? = some q2 := by rw [← hq2, List.getElem?_set_ne (by omega)]
        obtain ⟨p2, hp2, hqp2⟩ := hqs (j + 1) q2 hq22
        have hn : nxt c.ps c.is.length j = q2.fr := by unfold nxt; rw [hp2, hqp2]
        (repeat (first | refine k_nil ?_ | refine k_n ?_ | refine k_r ?_ | refine k_x ?_ | refine b_n ?_ | refine b_r ?_ | refine b_y rfl ?_ | refine b_z rfl ?_ | refine l_r ?_ | refine l_x ?_ | refine k_seq ?_ | refine k_blk ?_ | refine k_reg ?_ | refine k_ret ?_ | refine k_exit ?_ | refine k_skip ?_ | refine Zs ?_))
        refine k_h (fun w' => Kp No m4 w') [(0, false), (1, false), (2, false), (3, false), (4, false), (5, false), (6, false), (7, false), (8, false), (9, false), (10, false), (11, false), (12, true)] 12 (by kernel_rfl) (by exact waits_of_last (by kernel_rfl)) (by kernel_rfl) (by kernel_rfl) rfl rfl (fun m5 k5 hh5 => ?_)
        refine h_v k5 (fun w' hw => r_fa rfl rfl) ?_
        refine h_v k5 (fun w' hw => r_ld rfl rfl (cell_of_blk (hw.get0 hb4) rfl)) ?_
        refine h_v k5 (fun w' hw => r_mv rfl) ?_
        refine h_v k5 (fun w' hw => r_fa rfl rfl) ?_
        refine h_v k5 (fun w' hw => r_ld rfl rfl (cell_of_blk (hw.get0 hb4) rfl)) ?_
        refine h_v k5 (fun w' hw => r_mv rfl) ?_
        refine h_v k5 (fun w' hw => r_add rfl rfl (by omega)) ?_
        refine h_v k5 (fun w' hw => r_ia rfl rfl rfl rfl (by omega) (by omega)) ?_
        refine h_v k5 (fun w' hw => r_fa rfl rfl) ?_
        refine h_v k5 (fun w' hw => r_ld rfl rfl (by rw [hj1]; exact hw.cell0 hc2')) ?_
        refine h_v k5 (fun w' hw => r_ia (i := j) rfl rfl rfl rfl (by omega) (by omega)) ?_
        refine h_v k5 (fun w' hw => r_fa rfl rfl) ?_
        refine h_st rfl rfl rfl rfl rfl (k5.get0 hgblk') (by show 0 + j * 6 + 2 + 1 ≤ _; omega) (fun m6 s6 => ⟨fun h => absurd rfl h, ?_⟩)
        have kg : Kp (fun k => k = g) m4 m6 := (k5.mono (fun _ _ e => e.elim)).trans s6.kp (fun _ _ e => e)
        have ownp6 := hst' m6 (.int .i64 q2.fr) ⟨kg, s6.sz.trans (by rw [hh5]), s6.blk⟩
        rw [Nat.zero_add, flat_set _ _ _ (Prc.wt q ((c.is.length : Int))) (by rw [List.getElem?_set_self (by omega)]), List.set_set] at ownp6
        refine h_nil ?_
        (repeat (first | refine k_nil ?_ | refine k_n ?_ | refine k_r ?_ | refine k_x ?_ | refine b_n ?_ | refine b_r ?_ | refine b_y rfl ?_ | refine b_z rfl ?_ | refine l_r ?_ | refine l_x ?_ | refine k_seq ?_ | refine k_blk ?_ | refine k_reg ?_ | refine k_ret ?_ | refine k_exit ?_ | refine k_skip ?_ | refine Zs ?_))
        refine l_next (j + 1, qs.set j (Prc.wt q (nxt c.ps c.is.length j))) ⟨rfl, rfl, rfl, rfl, rfl, trivial⟩ ⟨by show j + 1 ≤ _; omega, km4.trans kg (fun x _ e => by have e : x = g := e; omega), by show (qs.set j _).length = _; rw [List.length_set]; exact hql, step_qs hq hqs, kg.get hb4 (show ¬ b = g by omega), ?_, own_kp owni4 kg (fun x hx e => hneg (by rw [hx, e]))⟩ (by show c.ps.length - (j + 1) < c.ps.length - j; omega)
        rw [hn]; exact ownp6
      · have hn : nxt c.ps c.is.length j = c.is.length := by unfold nxt; rw [List.getElem?_eq_none (by omega)]
        (repeat (first | refine k_nil ?_ | refine k_n ?_ | refine k_r ?_ | refine k_x ?_ | refine b_n ?_ | refine b_r ?_ | refine b_y rfl ?_ | refine b_z rfl ?_ | refine l_r ?_ | refine l_x ?_ | refine k_seq ?_ | refine k_blk ?_ | refine k_reg ?_ | refine k_ret ?_ | refine k_exit ?_ | refine k_skip ?_ | refine Zs ?_))
        refine l_next (j + 1, qs.set j (Prc.wt q (nxt c.ps c.is.length j))) ⟨rfl, rfl, rfl, rfl, rfl, trivial⟩ ⟨by show j + 1 ≤ _; omega, km4, by show (qs.set j _).length = _; rw [List.length_set]; exact hql, step_qs hq hqs, hb4, ?_, owni4⟩ (by show c.ps.length - (j + 1) < c.ps.length - j; omega)
        rw [hn]; exact ownp4
    · obtain rfl : j = c.ps.length := by omega
      have hqt : qs = tosL c.ps c.is.length := by
        refine List.ext_getElem? fun k => ?_
        rw [tosL_get]
        cases hk : qs[k]? with
        | none => rw [List.getElem?_eq_none (by have := List.getElem?_eq_none_iff.1 hk; omega)]; rfl
        | some q =>
          obtain ⟨p, hp, rfl⟩ := hqs k q hk
          rw [hp, if_pos (List.getElem?_eq_some_iff.1 hp).1]; rfl
      have hdl : (tos c).ps.length = c.ps.length := by rw [← hql, hqt]; rfl
      have hRP : RP m3 ap (tos c).ps := RP.of (cp := cp) (base := base) (T := 32) (by rw [hdl, show (tos c).ps = qs from hqt.symm]; exact ownp3)
      have hRI : RI m3 al (tos c).is := RI.of (cp := cl) owni3
      obtain ⟨_, _, e1, hcp, _, _⟩ := own_read ownp3
      obtain ⟨_, _, e2', hcl, _, _⟩ := own_read owni3
      simp only [Value.slice.injEq, true_and] at e1 e2'
      obtain ⟨rfl, rfl⟩ := e1
      obtain ⟨rfl, rfl⟩ := e2'
      have hnmt : ∀ p ∈ (tos c).ps, p.nm.size ≤ 200000 := fun p hp => by
        have hp : p ∈ tosL c.ps c.is.length := hp
        obtain ⟨k, hk⟩ := List.mem_iff_getElem?.1 hp
        rw [tosL_get, Option.map_eq_some_iff] at hk
        obtain ⟨p', hp', rfl⟩ := hk
        exact hnm p' (List.mem_of_getElem? hp')
      have hG := GoodF (tos c) ap al cp cl m3 (hg.kp (keep km3)) (hs.kp (keep km3)) hRP hRI (by rw [hdl]; omega) (by show c.is.length ≤ _; omega) hcl (fun p hp => by have := hnmt p hp; omega)
      rw [hdl] at hG
      have e23 := km3.get e2 (show ¬ (b2 = b ∨ base ≤ b2) by omega)
      (repeat (first | refine k_nil ?_ | refine k_n ?_ | refine k_r ?_ | refine k_x ?_ | refine b_n ?_ | refine b_r ?_ | refine b_y rfl ?_ | refine b_z rfl ?_ | refine l_r ?_ | refine l_x ?_ | refine k_seq ?_ | refine k_blk ?_ | refine k_reg ?_ | refine k_ret ?_ | refine k_exit ?_ | refine k_skip ?_ | refine Zs ?_))
      refine s_v (r_ldb (vs := [.slice ap c.ps.length cp, .slice al c.is.length cl]) rfl rfl rfl hb3 rfl rfl) ?_
      refine s_call (us := []) (zs := []) (by kernel_rfl) rfl rfl hG ?_
      rintro _ m4 ⟨k4, r, rfl, hr⟩
      have e24 := k4.get0 e23
      have km4 := km3.no k4
      have hb4 := k4.get0 hb3
      (repeat (first | refine k_nil ?_ | refine k_n ?_ | refine k_r ?_ | refine k_x ?_ | refine b_n ?_ | refine b_r ?_ | refine b_y rfl ?_ | refine b_z rfl ?_ | refine l_r ?_ | refine l_x ?_ | refine k_seq ?_ | refine k_blk ?_ | refine k_reg ?_ | refine k_ret ?_ | refine k_exit ?_ | refine k_skip ?_ | refine Zs ?_))
      cases r with
      | false =>
        refine c_t rfl ?_
        (repeat (first | refine k_nil ?_ | refine k_n ?_ | refine k_r ?_ | refine k_x ?_ | refine b_n ?_ | refine b_r ?_ | refine b_y rfl ?_ | refine b_z rfl ?_ | refine l_r ?_ | refine l_x ?_ | refine k_seq ?_ | refine k_blk ?_ | refine k_reg ?_ | refine k_ret ?_ | refine k_exit ?_ | refine k_skip ?_ | refine Zs ?_))
        refine s_st (vs := [.slice none 0 0, .slice none 0 0]) rfl rfl rfl rfl rfl e24 (Nat.le_of_ble_eq_true rfl) (fun m5 s5 => ?_)
        (repeat (first | refine k_nil ?_ | refine k_n ?_ | refine k_r ?_ | refine k_x ?_ | refine b_n ?_ | refine b_r ?_ | refine b_y rfl ?_ | refine b_z rfl ?_ | refine l_r ?_ | refine l_x ?_ | refine k_seq ?_ | refine k_blk ?_ | refine k_reg ?_ | refine k_ret ?_ | refine k_exit ?_ | refine k_skip ?_ | refine Zs ?_))
        refine ret_c3 rfl (rv_ag rfl rfl rfl s5.blk rfl rfl) (rv_t rfl) (rv_t rfl) (none0 m5 ((keep km4).trans s5.kp (fun q hq e => by have e : q = b2 := e; omega)) _ 3 (.inr ⟨hL2, .inr ⟨c, hpg', .inr ⟨fun h => (by have := hr.2 h; cases this), rfl, by rw [hsl']; omega, rfl⟩⟩⟩))
      | true =>
        refine c_f rfl ?_
        (repeat (first | refine k_nil ?_ | refine k_n ?_ | refine k_r ?_ | refine k_x ?_ | refine b_n ?_ | refine b_r ?_ | refine b_y rfl ?_ | refine b_z rfl ?_ | refine l_r ?_ | refine l_x ?_ | refine k_seq ?_ | refine k_blk ?_ | refine k_reg ?_ | refine k_ret ?_ | refine k_exit ?_ | refine k_skip ?_ | refine Zs ?_))
        refine s_v (r_ldb (vs := [.slice ap c.ps.length cp, .slice al c.is.length cl]) rfl rfl rfl hb4 rfl rfl) ?_
        refine s_st (vs := [.slice ap c.ps.length cp, .slice al c.is.length cl]) rfl rfl rfl rfl rfl e24 (Nat.le_of_ble_eq_true rfl) (fun m5 s5 => ?_)
        have kb : Kp No w m5 := (keep km4).trans s5.kp (fun q hq e => by have e : q = b2 := e; omega)
        have hap : ∀ g, (Value.slice ap c.ps.length cp).ownBlock = some g → ¬ g = b2 := fun g hg e => by have := (own_lt ownp3 hg).1; omega
        have hal : ∀ g, (Value.slice al c.is.length cl).ownBlock = some g → ¬ g = b2 := fun g hg e => by have := (own_lt owni3 hg).1; omega
        have hRP5 : RP m5 ap (tos c).ps := RP.of (cp := cp) (base := base) (T := 32) (by rw [hdl, show (tos c).ps = qs from hqt.symm]; exact own_kp (own_kp ownp3 k4 (fun _ _ => id)) s5.kp hap)
        have hRI5 : RI m5 al (tos c).is := RI.of (cp := cl) (base := base) (T := 34) (own_kp (own_kp owni3 k4 (fun _ _ => id)) s5.kp hal)
        (repeat (first | refine k_nil ?_ | refine k_n ?_ | refine k_r ?_ | refine k_x ?_ | refine b_n ?_ | refine b_r ?_ | refine b_y rfl ?_ | refine b_z rfl ?_ | refine l_r ?_ | refine l_x ?_ | refine k_seq ?_ | refine k_blk ?_ | refine k_reg ?_ | refine k_ret ?_ | refine k_exit ?_ | refine k_skip ?_ | refine Zs ?_))
        refine ret_c3 rfl (rv_ag rfl rfl rfl s5.blk rfl rfl) (rv_t rfl) (rv_t rfl) ⟨kb, tos c, 0, 0, ap, al, cp, cl, by rw [hdl]; rfl, .inr ⟨hL2, .inr ⟨c, hpg', .inl ⟨hr.1 rfl, rfl, rfl, rfl⟩⟩⟩, hRP5, hRI5, by rw [hdl]; exact hcp, hcl, by rw [hdl]; omega, by show c.is.length ≤ _; omega, hnmt⟩
end Cd
end Go.Proofs.YtpamkidcmjfieaaDoor
