/- Code: the document's Parse. -/
import Derived.Test.YtpamkidcmjfieaaGreatDoorDf
namespace Go.Proofs.YtpamkidcmjfieaaGreatDoor
open Go Go.RowKit Fw Nu
set_option linter.unusedVariables false
set_option maxRecDepth 20000
namespace Fw
section
variable {P : Program} {w : World} {q : Pst P} {S : World → Prop} {z fuel : Nat} {n : Nat} {l : Slots} {ds : List Deferred} {listed : Array Bool} {i d : Nat} {ty : TypeId} {pos : String} {af : Array Edge} {ops : Array Oper}
theorem ts_call {f : FuncId} {c : Operand} {xs : List Operand} {vs us zs : List Value} {ats : Array TypeId} {R : Value → World → Prop} (hi : ops[i]? = some ⟨some d, .call ⟨.value c, xs.toArray, ats⟩, ty, pos, af, none⟩) (hf : callOk P f = true) (hcv : ev n l c = .func (.func f) us.toArray zs.toArray) (hxs : evs (ev n l) xs = some vs)
    (hc : Ret P f (us ++ vs ++ zs) w R) (h : ∀ v w1, R v w1 → (i ≠ z → S w1) ∧ Wt P ops q S z fuel (listed.setIfInBounds i true) n ((d, v) :: l) ds w1) : Ws P ops q S z fuel listed i n l ds w := by
  refine ⟨fun hd => ?_⟩
  unfold wpOp
  simp only [hi]
  rw [if_pos (by simp [Region.wanted])]
  refine .inl ?_
  unfold Oper.wp
  rw [eval_A, (run_call hf hcv hxs).eq, Oper.upon_enter]
  refine Calls.mono hc ?_
  rintro e w1 ⟨v, rfl, hR⟩
  simp only [put_A]
  exact ⟨(h _ _ hR).1, (h _ _ hR).2.up hd⟩
end
end Fw
namespace Cd
theorem RPd.of {w : World} {base cp : Nat} {a : Option Addr} {ps : List Prc} (h : w.ownsRow base 57 6 (.slice a ps.length cp) ps.length (ps.flatMap pc)) : RP w a ps := RP.of h
theorem own_ne {w : World} {base : Nat} {e e' : TypeId} {size n c b : Nat} {a : Option Addr} {cs cs' : List Value} (h : w.ownsRow base e size (.slice a n c) n cs) (hb : w.heap[b]? = some (.cells cs'.toArray e' (0, 0))) (he : e ≠ e') : ∀ g, (Value.slice a n c).ownBlock = some g → g ≠ b := by
  intro g hg e1
  subst e1
  rcases h.2 with ⟨h1, _⟩ | ⟨g', cap, cur, h1, _, h2, _⟩
  · rw [h1] at hg; cases hg
  · cases h1
    simp only [Value.ownBlock, Option.some.injEq] at hg
    rw [hg, hb] at h2
    simp only [Option.some.injEq, Obj.cells.injEq] at h2
    exact he h2.2.1.symm
theorem CR.kp {base : Nat} {c : Cde} {v : Value} {w w' : World} (h : CR base c v w) (k : Kp No w w') : CR base c v w' := by
  obtain ⟨ap, cp, al, cl, he, o1, o2, o3⟩ := h
  exact ⟨ap, cp, al, cl, he, own_kp o1 k (fun _ _ => id), own_kp o2 k (fun _ _ => id), o3⟩
theorem drop_cut {L : List Int} {f i : Nat} (hfi : f ≤ i) (hi : L[i]? = some 10) : L.drop f = (L.take i).drop f ++ 10 :: L.drop (i + 1) := by
  obtain ⟨hlt, he⟩ := List.getElem?_eq_some_iff.1 hi
  conv => lhs; rw [← List.take_append_drop i L]
  rw [List.drop_append_of_le_length (by rw [List.length_take]; omega), List.drop_eq_getElem_cons hlt, he]
set_option maxHeartbeats 16000000 in
theorem rParse (s : ByteArray) (w : World) (hsz : s.size ≤ 9223372036854775807) :
    Ret Tryz.prog 9 [.string s] w fun v w1 => Kp No w w1 ∧ ∃ (c : Cde) (n e : Int) (ap al : Option Addr) (cp cl : Nat), v = .tuple #[.agg #[.slice ap c.ps.length cp, .slice al c.is.length cl], .int .i64 n, .int .i64 e] ∧ PR (B s) c n e ∧
      RP w1 ap c.ps ∧ RI w1 al c.is ∧ c.ps.length ≤ cp ∧ c.is.length ≤ cl ∧ c.ps.length ≤ 200000 ∧ c.is.length ≤ 200000 ∧ ∀ p ∈ c.ps, p.nm.size ≤ 200000 := by
  refine ret_enter Tryz.func9 rfl Tryz.ntmps9 rfl ?_
  (repeat (first | refine k_nil ?_ | refine k_n ?_ | refine k_r ?_ | refine k_x ?_ | refine b_n ?_ | refine b_r ?_ | refine b_y rfl ?_ | refine b_z rfl ?_ | refine l_r ?_ | refine l_x ?_ | refine k_seq ?_ | refine k_blk ?_ | refine k_reg ?_ | refine k_ret ?_ | refine k_exit ?_ | refine k_skip ?_ | refine Zs ?_))
  refine s_al (cs := [.slice none 0 0, .slice none 0 0]) rfl (fun b2 w1 n1 => ?_)
  have g1 := n1.ge
  have l1 := n1.lt
  have none0 : ∀ (m : World), Kp No w m → ∀ n e : Int, PR (B s) ⟨[], []⟩ n e → Kp No w m ∧ ∃ (c : Cde) (n' e' : Int) (ap al : Option Addr) (cp cl : Nat), Value.tuple #[.agg #[.slice none 0 0, .slice none 0 0], .int .i64 n, .int .i64 e] = .tuple #[.agg #[.slice ap c.ps.length cp, .slice al c.is.length cl], .int .i64 n', .int .i64 e'] ∧ PR (B s) c n' e' ∧
      RP m ap c.ps ∧ RI m al c.is ∧ c.ps.length ≤ cp ∧ c.is.length ≤ cl ∧ c.ps.length ≤ 200000 ∧ c.is.length ≤ 200000 ∧ ∀ p ∈ c.ps, p.nm.size ≤ 200000 := fun m k n e h =>
    ⟨k, ⟨[], []⟩, n, e, none, none, 0, 0, rfl, h, .inl rfl, .inl rfl, Nat.le_refl _, Nat.le_refl _, Nat.zero_le _, Nat.zero_le _, fun p hp => by cases hp⟩
  (repeat (first | refine k_nil ?_ | refine k_n ?_ | refine k_r ?_ | refine k_x ?_ | refine b_n ?_ | refine b_r ?_ | refine b_y rfl ?_ | refine b_z rfl ?_ | refine l_r ?_ | refine l_x ?_ | refine k_seq ?_ | refine k_blk ?_ | refine k_reg ?_ | refine k_ret ?_ | refine k_exit ?_ | refine k_skip ?_ | refine Zs ?_))
  refine c_dec rfl (fun hlong => ?_) (fun hshort => ?_)
  · (repeat (first | refine k_nil ?_ | refine k_n ?_ | refine k_r ?_ | refine k_x ?_ | refine b_n ?_ | refine b_r ?_ | refine b_y rfl ?_ | refine b_z rfl ?_ | refine l_r ?_ | refine l_x ?_ | refine k_seq ?_ | refine k_blk ?_ | refine k_reg ?_ | refine k_ret ?_ | refine k_exit ?_ | refine k_skip ?_ | refine Zs ?_))
    refine s_st (vs := [.slice none 0 0, .slice none 0 0]) rfl rfl rfl rfl rfl n1.blk (Nat.le_of_ble_eq_true rfl) (fun w2 s2 => ?_)
    (repeat (first | refine k_nil ?_ | refine k_n ?_ | refine k_r ?_ | refine k_x ?_ | refine b_n ?_ | refine b_r ?_ | refine b_y rfl ?_ | refine b_z rfl ?_ | refine l_r ?_ | refine l_x ?_ | refine k_seq ?_ | refine k_blk ?_ | refine k_reg ?_ | refine k_ret ?_ | refine k_exit ?_ | refine k_skip ?_ | refine Zs ?_))
    refine ret_c3 rfl (rv_ag rfl rfl rfl s2.blk rfl rfl) (rv_t rfl) (rv_t rfl) (none0 w2 (n1.kp.trans s2.kp (fun q hq e => by have e : q = b2 := e; omega)) 0 1 (.inl ⟨by rw [B_len]; omega, rfl, rfl, rfl⟩))
  have hs2 : s.size ≤ 200000 := by omega
  have hL2 : (B s).length ≤ 200000 := by rw [B_len]; exact hs2
  (repeat (first | refine k_nil ?_ | refine k_n ?_ | refine k_r ?_ | refine k_x ?_ | refine b_n ?_ | refine b_r ?_ | refine b_y rfl ?_ | refine b_z rfl ?_ | refine l_r ?_ | refine l_x ?_ | refine k_seq ?_ | refine k_blk ?_ | refine k_reg ?_ | refine k_ret ?_ | refine k_exit ?_ | refine k_skip ?_ | refine Zs ?_))
  refine s_al (cs := [.slice none 0 0, .slice none 0 0]) rfl (fun b w2 n2 => ?_)
  have g2 := n2.ge
  have l2 := n2.lt
  have e2 := n2.kp.get0 n1.blk
  refine s_st (vs := [.slice none 0 0, .slice none 0 0]) rfl rfl rfl rfl rfl n2.blk (Nat.le_of_ble_eq_true rfl) (fun w3 s3 => ?_)
  have e2 := s3.kp.get e2 (show ¬ b2 = b by omega)
  have eb := s3.blk
  have kw3 : Kp No w w3 := (n1.kp.no n2.kp).trans s3.kp (fun q hq e => by have e : q = b := e; have := n1.kp.size; omega)
  have z3 := s3.sz
  obtain ⟨base, hbase⟩ : ∃ base, base = w3.heap.size := ⟨_, rfl⟩
  have zw3 := kw3.size
  have keep : ∀ {m : World}, Kp (fun k => k = b ∨ base ≤ k) w3 m → Kp No w m := fun km => kw3.trans km (fun q hq e => by have := n1.kp.size; omega)
  have hCR0 : CR base ⟨[], []⟩ (.agg #[.slice none 0 0, .slice none 0 0]) w3 := ⟨none, 0, none, 0, rfl, World.ownsRow_nil _ _ _ _, World.ownsRow_nil _ _ _ _, fun g hg => by simp [Value.ownBlock] at hg⟩
  have hwb := n1.kp.size
  (repeat (first | refine k_nil ?_ | refine k_n ?_ | refine k_r ?_ | refine k_x ?_ | refine b_n ?_ | refine b_r ?_ | refine b_y rfl ?_ | refine b_z rfl ?_ | refine l_r ?_ | refine l_x ?_ | refine k_seq ?_ | refine k_blk ?_ | refine k_reg ?_ | refine k_ret ?_ | refine k_exit ?_ | refine k_skip ?_ | refine Zs ?_))
  refine k_loop (σ := Nat × Nat × Nat × Cde × Value × Value) (fun t => [(0, .string s), (2, .pointer (some ⟨b2, 0, none⟩)), (5, .pointer (some ⟨b, 0, none⟩)), (6, .int .i64 ((t.2.1 : Int) + 1)), (7, .int .i64 t.2.2.1), (8, .int .i64 t.1)])
    (fun t m => t.1 ≤ s.size ∧ t.2.2.1 ≤ t.1 ∧ t.2.1 ≤ t.2.2.1 ∧ Kp (fun k => k = b ∨ base ≤ k) w3 m ∧ m.heap[b]? = some (.cells [t.2.2.2.2.1, t.2.2.2.2.2].toArray 33 (0, 0)) ∧ CR base t.2.2.2.1 (.agg #[t.2.2.2.2.1, t.2.2.2.2.2]) m ∧
      t.2.2.2.1.ps.length + t.2.2.2.1.is.length = t.2.1 ∧ (∀ p ∈ t.2.2.2.1.ps, p.nm.size ≤ 200000) ∧ pgo ⟨[], []⟩ 0 (Sp.spl 10 (B s)) = pgo t.2.2.2.1 t.2.1 (Sp.spl 10 ((B s).drop t.2.2.1)) ∧ (Sp.spl 10 (B s)).length = t.2.1 + (Sp.spl 10 ((B s).drop t.2.2.1)).length ∧
      ∀ x ∈ ((B s).take t.1).drop t.2.2.1, x ≠ 10) (fun t => s.size - t.1) (0, 0, 0, ⟨[], []⟩, .slice none 0 0, .slice none 0 0) ⟨rfl, rfl, rfl, rfl, rfl, rfl, trivial⟩ ⟨Nat.zero_le _, Nat.le_refl _, Nat.le_refl _, Kp.refl _ _, eb, hCR0, rfl, fun p hp => (by cases hp), rfl, by simp, fun x hx => (by simp at hx)⟩ ?_
  rintro ⟨i, n, f, c, u, v⟩ l m ⟨hi, hfi, hnf, km, hbm, C, hcn, hnm, hpg, hsl, hno⟩
  simp only at hi hfi hnf hbm C hcn hnm hpg hsl hno
  try dsimp only
  have zm := km.size
  have e2m := km.get e2 (show ¬ (b2 = b ∨ base ≤ b2) by omega)
  (repeat (first | refine k_nil ?_ | refine k_n ?_ | refine k_r ?_ | refine k_x ?_ | refine b_n ?_ | refine b_r ?_ | refine b_y rfl ?_ | refine b_z rfl ?_ | refine l_r ?_ | refine l_x ?_ | refine k_seq ?_ | refine k_blk ?_ | refine k_reg ?_ | refine k_ret ?_ | refine k_exit ?_ | refine k_skip ?_ | refine Zs ?_))
  refine c_dec rfl (fun hlt => ?_) (fun hge => ?_)
  · have hbt := B_at s i (by omega)
    (repeat (first | refine k_nil ?_ | refine k_n ?_ | refine k_r ?_ | refine k_x ?_ | refine b_n ?_ | refine b_r ?_ | refine b_y rfl ?_ | refine b_z rfl ?_ | refine l_r ?_ | refine l_x ?_ | refine k_seq ?_ | refine k_blk ?_ | refine k_reg ?_ | refine k_ret ?_ | refine k_exit ?_ | refine k_skip ?_ | refine Zs ?_))
    refine s_v (r_ix rfl rfl rfl (by omega) (by omega)) ?_
    (repeat (first | refine k_nil ?_ | refine k_n ?_ | refine k_r ?_ | refine k_x ?_ | refine b_n ?_ | refine b_r ?_ | refine b_y rfl ?_ | refine b_z rfl ?_ | refine l_r ?_ | refine l_x ?_ | refine k_seq ?_ | refine k_blk ?_ | refine k_reg ?_ | refine k_ret ?_ | refine k_exit ?_ | refine k_skip ?_ | refine Zs ?_))
    refine c_ne rfl (fun hne => ?_) (fun h10 => ?_)
    · (repeat (first | refine k_nil ?_ | refine k_n ?_ | refine k_r ?_ | refine k_x ?_ | refine b_n ?_ | refine b_r ?_ | refine b_y rfl ?_ | refine b_z rfl ?_ | refine l_r ?_ | refine l_x ?_ | refine k_seq ?_ | refine k_blk ?_ | refine k_reg ?_ | refine k_ret ?_ | refine k_exit ?_ | refine k_skip ?_ | refine Zs ?_))
      refine l_next (i + 1, n, f, c, u, v) ⟨rfl, rfl, rfl, rfl, rfl, rfl, trivial⟩ ⟨by show i + 1 ≤ _; omega, by show f ≤ i + 1; omega, hnf, km, hbm, C, hcn, hnm, hpg, hsl, fun x hx => ?_⟩ (by show s.size - (i + 1) < s.size - i; omega)
      have hx : x ∈ ((B s).take (i + 1)).drop f := hx
      rw [List.take_add_one, hbt, List.drop_append_of_le_length (by rw [List.length_take, B_len]; omega)] at hx
      rcases List.mem_append.1 hx with hx | hx
      · exact hno x hx
      · have : x = bt s i := by simpa using hx
        rw [this]; exact hne
    · rw [h10] at hbt
      have hcut := drop_cut hfi hbt
      have hspl : Sp.spl 10 ((B s).drop f) = ((B s).take i).drop f :: Sp.spl 10 ((B s).drop (i + 1)) := by rw [hcut]; exact Sp.spl_at 10 _ _ hno
      have hline : B (s.extract f i) = ((B s).take i).drop f := B_extract s f i
      have hlsz : (s.extract f i).size ≤ 200000 := by rw [← B_len, hline, List.length_drop, List.length_take, B_len]; omega
      have hgo : pgo c n (Sp.spl 10 ((B s).drop f)) = match addL c (((B s).take i).drop f) with | none => .inr (n + 1) | some d => pgo d (n + 1) (Sp.spl 10 ((B s).drop (i + 1))) := by
        rw [hspl]
        cases hx : Sp.spl 10 ((B s).drop (i + 1)) with
        | nil => exact (Sp.spl_ne _ _ hx).elim
        | cons y z => rw [pgo]; cases addL c (((B s).take i).drop f) <;> rfl
      have hlen2 : (Sp.spl 10 ((B s).drop f)).length = 1 + (Sp.spl 10 ((B s).drop (i + 1))).length := by rw [hspl, List.length_cons]; omega
      have hOw : ∀ k, Own2 (.agg #[u, v]) k → base ≤ k ∧ k < m.heap.size := fun k hk => by
        obtain ⟨ap, cp, al, cl, he, o1, o2, o3⟩ := C
        obtain ⟨x, y, e, hk⟩ := hk
        rw [he] at e
        simp only [Value.agg.injEq, Array.mk.injEq, List.cons.injEq, and_true] at e
        obtain ⟨rfl, rfl⟩ := e
        rcases hk with hk | hk
        · exact own_lt o1 hk
        · exact own_lt o2 hk
      have CRk : ∀ {m1 : World}, Kp No m m1 → CR base c (.agg #[u, v]) m1 := fun k1 => by
        obtain ⟨ap, cp, al, cl, he, o1, o2, o3⟩ := C
        exact ⟨ap, cp, al, cl, he, own_kp o1 k1 (fun _ _ => id), own_kp o2 k1 (fun _ _ => id), o3⟩
      have CRst : ∀ {d : Cde} {x y : Value} {m1 m2 : World} {b9 : Nat} {cs : List Value}, CR base d (.agg #[x, y]) m1 → m1.heap[b9]? = some (.cells cs.toArray 33 (0, 0)) → Kp (fun k => k = b9) m1 m2 → CR base d (.agg #[x, y]) m2 := fun {d x y m1 m2 b9 cs} hC hb k => by
        obtain ⟨ap, cp, al, cl, he, o1, o2, o3⟩ := hC
        refine ⟨ap, cp, al, cl, he, own_kp o1 k (fun g hg e => ?_), own_kp o2 k (fun g hg e => ?_), o3⟩
        · have e : g = b9 := e
          subst e
          exact own_ne o1 hb (by decide) g hg rfl
        · have e : g = b9 := e
          subst e
          exact own_ne o2 hb (by decide) g hg rfl
      (repeat (first | refine k_nil ?_ | refine k_n ?_ | refine k_r ?_ | refine k_x ?_ | refine b_n ?_ | refine b_r ?_ | refine b_y rfl ?_ | refine b_z rfl ?_ | refine l_r ?_ | refine l_x ?_ | refine k_seq ?_ | refine k_blk ?_ | refine k_reg ?_ | refine k_ret ?_ | refine k_exit ?_ | refine k_skip ?_ | refine Zs ?_))
      refine k_cutc (σ := Nat × Value × Value × Bool) (fun t => [(0, .string s), (2, .pointer (some ⟨b2, 0, none⟩)), (5, .pointer (some ⟨b, 0, none⟩)), (6, .int .i64 ((n : Int) + 1)), (8, .int .i64 i), (9, .pointer (some ⟨t.1, 0, none⟩)), (10, .bool t.2.2.2)])
        (fun t m' => Kp (fun k => base ≤ k) m m' ∧ m'.heap[t.1]? = some (.cells [t.2.1, t.2.2.1].toArray 33 (0, 0)) ∧ base ≤ t.1 ∧ [t.2.1, t.2.2.1].all Value.oneCell' = true ∧ ((t.2.2.2 = true ∧ ∃ d, addL c (((B s).take i).drop f) = some d ∧ CR base d (.agg #[t.2.1, t.2.2.1]) m') ∨ (t.2.2.2 = false ∧ addL c (((B s).take i).drop f) = none))) ?_ ?_
      · refine k_ht (fun w' => Kp (fun k => base ≤ k) m w') 99 (by kernel_rfl) (fun m1 k1 _ => ?_)
        have kS : Kp (fun k => base ≤ k) m m1 := k1.mono fun _ _ h => False.elim h
        refine t_q (i := 0) (by exact waits_of_out (by kernel_rfl)) (by kernel_rfl) rfl (by kernel_rfl) (by kernel_rfl) kS (fun w' hw => r_ldb (vs := [u, v]) rfl rfl rfl (hw.get hbm (show ¬ base ≤ b by omega)) rfl rfl) ?_
        refine t_q (i := 1) (by exact waits_of_out (by kernel_rfl)) (by kernel_rfl) rfl (by kernel_rfl) (by kernel_rfl) kS (fun w' hw => r_mv rfl) ?_
        refine t_q (i := 2) (by exact waits_of_out (by kernel_rfl)) (by kernel_rfl) rfl (by kernel_rfl) (by kernel_rfl) kS (fun w' hw => r_mv rfl) ?_
        refine t_q (i := 3) (by exact waits_of_out (by kernel_rfl)) (by kernel_rfl) rfl (by kernel_rfl) (by kernel_rfl) kS (fun w' hw => r_mv rfl) ?_
        refine t_q (i := 4) (by exact waits_of_out (by kernel_rfl)) (by kernel_rfl) rfl (by kernel_rfl) (by kernel_rfl) kS (fun w' hw => r_ss rfl rfl rfl rfl (by omega) (by omega) (by omega)) ?_
        rw [show ((f : Int)).toNat = f from rfl, show ((i : Int)).toNat = i from rfl]
        refine t_2 (i := 5) (i2 := 9) (by kernel_rfl) ?_ ?_
        · refine ts_call (us := []) (zs := []) rfl (by kernel_rfl) rfl rfl (rLine base c (.agg #[u, v]) (s.extract f i) m1 (CRk k1) (by have := k1.size; omega) hlsz (by omega) (by omega)) ?_
          rintro _ m2 ⟨⟨_, ok, rfl, ⟨xa, ya, xn, xc, yn, yc, rfl⟩, hok⟩, k2⟩
          rw [hline] at hok
          have k12 : Kp (fun k => base ≤ k) m m2 := kS.trans k2 (fun q _ e => (hOw q e).1)
          refine ⟨fun _ => k12, ?_⟩
          refine t_q (i := 6) (by exact waits_of_out (by kernel_rfl)) (by kernel_rfl) rfl (by kernel_rfl) (by kernel_rfl) k12 (fun w' hw => r_mv rfl) ?_
          refine t_q (i := 7) (by exact waits_of_out (by kernel_rfl)) (by kernel_rfl) rfl (by kernel_rfl) (by kernel_rfl) k12 (fun w' hw => r_ex rfl) ?_
          refine t_q (i := 8) (by exact waits_of_out (by kernel_rfl)) (by kernel_rfl) rfl (by kernel_rfl) (by kernel_rfl) k12 (fun w' hw => r_ex rfl) ?_
          refine t_1 (i := 9) (by kernel_rfl) ?_
          refine ts_nb (r := fun a => .pointer (some a)) rfl (r_al rfl) (fun b9 m3 n9 => ⟨fun _ => k12.no n9.kp, ?_⟩)
          have g9 := n9.ge
          have z2 := k12.size
          refine t_o (ord := [(10, true), (11, false)]) (by exact waits_of_out (by kernel_rfl)) (by kernel_rfl) (by kernel_rfl) rfl rfl ?_
          refine h_st (vs := [.slice xa xn xc, .slice ya yn yc]) rfl rfl rfl rfl rfl n9.blk (Nat.le_of_ble_eq_true rfl) (fun m4 s4 => ⟨fun _ => (k12.no n9.kp).trans s4.kp (fun q _ e => by have e : q = b9 := e; omega), ?_⟩)
          have k14 : Kp (fun k => base ≤ k) m m4 := (k12.no n9.kp).trans s4.kp (fun q _ e => by have e : q = b9 := e; omega)
          refine h_v k14 (fun w' hw => r_as rfl) ?_
          refine h_nil ?_
          refine l_cut (b9, .slice xa xn xc, .slice ya yn yc, ok) ⟨rfl, rfl, rfl, rfl, rfl, rfl, rfl, trivial⟩ ⟨k14, s4.blk, by show base ≤ b9; omega, rfl, ?_⟩
          rcases hok with ⟨h1, d, hd, hC⟩ | h
          · exact .inl ⟨h1, d, hd, CRst (CR.kp hC n9.kp) n9.blk s4.kp⟩
          · exact .inr h
        · refine ts_nb (r := fun a => .pointer (some a)) rfl (r_al rfl) (fun b9 m3 n9 => ⟨fun _ => kS.no n9.kp, ?_⟩)
          have g9 := n9.ge
          have z1 := k1.size
          refine t_1 (i := 5) (by kernel_rfl) ?_
          refine ts_call (us := []) (zs := []) rfl (by kernel_rfl) rfl rfl (rLine base c (.agg #[u, v]) (s.extract f i) m3 (CRk (k1.no n9.kp)) (by have := n9.kp.size; omega) hlsz (by omega) (by omega)) ?_
          rintro _ m2 ⟨⟨_, ok, rfl, ⟨xa, ya, xn, xc, yn, yc, rfl⟩, hok⟩, k2⟩
          rw [hline] at hok
          have k12 : Kp (fun k => base ≤ k) m m2 := (kS.no n9.kp).trans k2 (fun q _ e => (hOw q e).1)
          have hb9 := k2.get n9.blk (fun e => by have := (hOw _ e).2; omega)
          refine ⟨fun _ => k12, ?_⟩
          refine t_q (i := 6) (by exact waits_of_out (by kernel_rfl)) (by kernel_rfl) rfl (by kernel_rfl) (by kernel_rfl) k12 (fun w' hw => r_mv rfl) ?_
          refine t_q (i := 7) (by exact waits_of_out (by kernel_rfl)) (by kernel_rfl) rfl (by kernel_rfl) (by kernel_rfl) k12 (fun w' hw => r_ex rfl) ?_
          refine t_q (i := 8) (by exact waits_of_out (by kernel_rfl)) (by kernel_rfl) rfl (by kernel_rfl) (by kernel_rfl) k12 (fun w' hw => r_ex rfl) ?_
          refine t_o (ord := [(10, true), (11, false)]) (by exact waits_of_out (by kernel_rfl)) (by kernel_rfl) (by kernel_rfl) rfl rfl ?_
          refine h_st (vs := [.slice xa xn xc, .slice ya yn yc]) rfl rfl rfl rfl rfl hb9 (Nat.le_of_ble_eq_true rfl) (fun m4 s4 => ⟨fun _ => k12.trans s4.kp (fun q _ e => by have e : q = b9 := e; omega), ?_⟩)
          have k14 : Kp (fun k => base ≤ k) m m4 := k12.trans s4.kp (fun q _ e => by have e : q = b9 := e; omega)
          refine h_v k14 (fun w' hw => r_as rfl) ?_
          refine h_nil ?_
          refine l_cut (b9, .slice xa xn xc, .slice ya yn yc, ok) ⟨rfl, rfl, rfl, rfl, rfl, rfl, rfl, trivial⟩ ⟨k14, s4.blk, by show base ≤ b9; omega, rfl, ?_⟩
          rcases hok with ⟨h1, d, hd, hC⟩ | h
          · exact .inl ⟨h1, d, hd, CRst hC hb9 s4.kp⟩
          · exact .inr h
      rintro ⟨b9, x, y, ok⟩ l5 m4 ⟨k14, e9, hb9, hone, hok⟩
      simp only at e9 hb9 hone hok
      try dsimp only
      have km4 : Kp (fun k => k = b ∨ base ≤ k) w3 m4 := km.trans k14 (fun q _ e => .inr e)
      have e24 := k14.get e2m (show ¬ base ≤ b2 by omega)
      have eb4 := k14.get hbm (show ¬ base ≤ b by omega)
      (repeat (first | refine k_nil ?_ | refine k_n ?_ | refine k_r ?_ | refine k_x ?_ | refine b_n ?_ | refine b_r ?_ | refine b_y rfl ?_ | refine b_z rfl ?_ | refine l_r ?_ | refine l_x ?_ | refine k_seq ?_ | refine k_blk ?_ | refine k_reg ?_ | refine k_ret ?_ | refine k_exit ?_ | refine k_skip ?_ | refine Zs ?_))
      rcases hok with ⟨rfl, d, hd, Cd'⟩ | ⟨rfl, hd⟩
      · obtain ⟨hnd, hdl⟩ := addL_sz (M := 200000) (fun q hq => inB_B s q (List.mem_of_mem_take (List.mem_of_mem_drop hq))) hd hnm (by rw [← hline, B_len]; exact hlsz)
        refine c_f rfl ?_
        (repeat (first | refine k_nil ?_ | refine k_n ?_ | refine k_r ?_ | refine k_x ?_ | refine b_n ?_ | refine b_r ?_ | refine b_y rfl ?_ | refine b_z rfl ?_ | refine l_r ?_ | refine l_x ?_ | refine k_seq ?_ | refine k_blk ?_ | refine k_reg ?_ | refine k_ret ?_ | refine k_exit ?_ | refine k_skip ?_ | refine Zs ?_))
        refine s_v (r_ldb (vs := [x, y]) rfl rfl rfl e9 rfl rfl) ?_
        refine s_st (vs := [x, y]) rfl rfl rfl rfl hone eb4 (Nat.le_of_ble_eq_true rfl) (fun m5 s5 => ?_)
        have km5 : Kp (fun k => k = b ∨ base ≤ k) w3 m5 := km4.trans s5.kp (fun q _ e => .inl e)
        have z4 := k14.size
        (repeat (first | refine k_nil ?_ | refine k_n ?_ | refine k_r ?_ | refine k_x ?_ | refine b_n ?_ | refine b_r ?_ | refine b_y rfl ?_ | refine b_z rfl ?_ | refine l_r ?_ | refine l_x ?_ | refine k_seq ?_ | refine k_blk ?_ | refine k_reg ?_ | refine k_ret ?_ | refine k_exit ?_ | refine k_skip ?_ | refine Zs ?_))
        refine l_next (i + 1, n + 1, i + 1, d, x, y) ⟨rfl, rfl, rfl, rfl, rfl, rfl, trivial⟩ ⟨by show i + 1 ≤ _; omega, Nat.le_refl _, by show n + 1 ≤ i + 1; omega, km5, s5.blk, ?_, by show d.ps.length + d.is.length = n + 1; omega, hnd, ?_, ?_, fun z hz => ?_⟩ (by show s.size - (i + 1) < s.size - i; omega)
        · obtain ⟨ap, cp, al, cl, he, o1, o2, o3⟩ := Cd'
          exact ⟨ap, cp, al, cl, he, own_kp o1 s5.kp (fun g hg e => by have := (own_lt o1 hg).1; have e : g = b := e; omega), own_kp o2 s5.kp (fun g hg e => by have := (own_lt o2 hg).1; have e : g = b := e; omega), o3⟩
        · show _ = pgo d (n + 1) (Sp.spl 10 ((B s).drop (i + 1)))
          rw [hpg, hgo, hd]
        · show _ = n + 1 + (Sp.spl 10 ((B s).drop (i + 1))).length; omega
        · have hz : z ∈ ((B s).take (i + 1)).drop (i + 1) := hz
          rw [List.drop_of_length_le (by rw [List.length_take]; omega)] at hz
          cases hz
      · refine c_t rfl ?_
        (repeat (first | refine k_nil ?_ | refine k_n ?_ | refine k_r ?_ | refine k_x ?_ | refine b_n ?_ | refine b_r ?_ | refine b_y rfl ?_ | refine b_z rfl ?_ | refine l_r ?_ | refine l_x ?_ | refine k_seq ?_ | refine k_blk ?_ | refine k_reg ?_ | refine k_ret ?_ | refine k_exit ?_ | refine k_skip ?_ | refine Zs ?_))
        refine s_st (vs := [.slice none 0 0, .slice none 0 0]) rfl rfl rfl rfl rfl e24 (Nat.le_of_ble_eq_true rfl) (fun m5 s5 => ?_)
        (repeat (first | refine k_nil ?_ | refine k_n ?_ | refine k_r ?_ | refine k_x ?_ | refine b_n ?_ | refine b_r ?_ | refine b_y rfl ?_ | refine b_z rfl ?_ | refine l_r ?_ | refine l_x ?_ | refine k_seq ?_ | refine k_blk ?_ | refine k_reg ?_ | refine k_ret ?_ | refine k_exit ?_ | refine k_skip ?_ | refine Zs ?_))
        refine ret_c3 rfl (rv_ag rfl rfl rfl s5.blk rfl rfl) (rv_t rfl) (rv_t rfl) (none0 m5 ((keep km4).trans s5.kp (fun q hq e => by have e : q = b2 := e; omega)) _ 3 (.inr ⟨hL2, .inl ⟨n + 1, ?_, rfl, by omega, rfl⟩⟩))
        rw [hpg, hgo, hd]
  · obtain rfl : i = s.size := by omega
    have hdr : ((B s).take s.size).drop f = (B s).drop f := by rw [List.take_of_length_le (by rw [B_len]; omega)]
    rw [hdr] at hno
    have hspl : Sp.spl 10 ((B s).drop f) = [(B s).drop f] := Sp.spl_no 10 _ hno
    (repeat (first | refine k_nil ?_ | refine k_n ?_ | refine k_r ?_ | refine k_x ?_ | refine b_n ?_ | refine b_r ?_ | refine b_y rfl ?_ | refine b_z rfl ?_ | refine l_r ?_ | refine l_x ?_ | refine k_seq ?_ | refine k_blk ?_ | refine k_reg ?_ | refine k_ret ?_ | refine k_exit ?_ | refine k_skip ?_ | refine Zs ?_))
    refine c_dec rfl (fun hlt2 => ?_) (fun hge2 => ?_)
    · (repeat (first | refine k_nil ?_ | refine k_n ?_ | refine k_r ?_ | refine k_x ?_ | refine b_n ?_ | refine b_r ?_ | refine b_y rfl ?_ | refine b_z rfl ?_ | refine l_r ?_ | refine l_x ?_ | refine k_seq ?_ | refine k_blk ?_ | refine k_reg ?_ | refine k_ret ?_ | refine k_exit ?_ | refine k_skip ?_ | refine Zs ?_))
      refine s_st (vs := [.slice none 0 0, .slice none 0 0]) rfl rfl rfl rfl rfl e2m (Nat.le_of_ble_eq_true rfl) (fun m5 s5 => ?_)
      (repeat (first | refine k_nil ?_ | refine k_n ?_ | refine k_r ?_ | refine k_x ?_ | refine b_n ?_ | refine b_r ?_ | refine b_y rfl ?_ | refine b_z rfl ?_ | refine l_r ?_ | refine l_x ?_ | refine k_seq ?_ | refine k_blk ?_ | refine k_reg ?_ | refine k_ret ?_ | refine k_exit ?_ | refine k_skip ?_ | refine Zs ?_))
      refine ret_c3 rfl (rv_ag rfl rfl rfl s5.blk rfl rfl) (rv_t rfl) (rv_t rfl) (none0 m5 ((keep km).trans s5.kp (fun q hq e => by have e : q = b2 := e; omega)) _ 3 (.inr ⟨hL2, .inl ⟨n + 1, ?_, rfl, by omega, rfl⟩⟩))
      rw [hpg, hspl, pgo, if_neg]
      intro e
      have := congrArg List.length e
      rw [List.length_drop, B_len] at this
      simp at this
      omega
    have hd0 : (B s).drop f = [] := List.drop_of_length_le (by rw [B_len]; omega)
    have hpg' : pgo ⟨[], []⟩ 0 (Sp.spl 10 (B s)) = .inl c := by rw [hpg, hd0]; rfl
    have hsl' : (Sp.spl 10 (B s)).length = n + 1 := by rw [hsl, hd0]; rfl
    obtain ⟨ap, cp, al, cl, he, ownp, owni, hne⟩ := C
    simp only [Value.agg.injEq, Array.mk.injEq, List.cons.injEq, and_true] at he
    obtain ⟨rfl, rfl⟩ := he
    (repeat (first | refine k_nil ?_ | refine k_n ?_ | refine k_r ?_ | refine k_x ?_ | refine b_n ?_ | refine b_r ?_ | refine b_y rfl ?_ | refine b_z rfl ?_ | refine l_r ?_ | refine l_x ?_ | refine k_seq ?_ | refine k_blk ?_ | refine k_reg ?_ | refine k_ret ?_ | refine k_exit ?_ | refine k_skip ?_ | refine Zs ?_))
    refine k_loop (σ := Nat × List Prc) (fun t => [(2, .pointer (some ⟨b2, 0, none⟩)), (5, .pointer (some ⟨b, 0, none⟩)), (6, .int .i64 ((n : Int) + 1)), (55, .int .i64 c.ps.length), (56, .int .i64 t.1)])
      (fun t m' => t.1 ≤ c.ps.length ∧ Kp (fun k => k = b ∨ base ≤ k) w3 m' ∧ t.2.length = c.ps.length ∧ (∀ (j : Nat) q, t.2[j]? = some q → ∃ p, c.ps[j]? = some p ∧ q = { p with to := if j + 1 < t.1 then nxt c.ps c.is.length j else if j + 1 = t.1 then (c.is.length : Int) else p.to }) ∧
        m'.heap[b]? = some (.cells [Value.slice ap c.ps.length cp, .slice al c.is.length cl].toArray 33 (0, 0)) ∧ m'.ownsRow base 57 6 (.slice ap c.ps.length cp) c.ps.length (t.2.flatMap pc) ∧ m'.ownsRow base 58 3 (.slice al c.is.length cl) c.is.length (c.is.flatMap ic)) (fun t => c.ps.length - t.1) (0, c.ps) ⟨rfl, rfl, rfl, rfl, rfl, trivial⟩ ⟨Nat.zero_le _, km, rfl, fun j q hq => ⟨q, hq, by simp⟩, hbm, ownp, owni⟩ ?_
    rintro ⟨j, qs⟩ l3 m3 ⟨hj, km3, hql, hqs, hb3, ownp3, owni3⟩
    simp only at hj hql hqs ownp3
    try dsimp only
    (repeat (first | refine k_nil ?_ | refine k_n ?_ | refine k_r ?_ | refine k_x ?_ | refine b_n ?_ | refine b_r ?_ | refine b_y rfl ?_ | refine b_z rfl ?_ | refine l_r ?_ | refine l_x ?_ | refine k_seq ?_ | refine k_blk ?_ | refine k_reg ?_ | refine k_ret ?_ | refine k_exit ?_ | refine k_skip ?_ | refine Zs ?_))
    refine c_dec rfl (fun hlt2 => ?_) (fun hge2 => ?_)
    · obtain ⟨q, hq⟩ : ∃ q, qs[j]? = some q := ⟨_, List.getElem?_eq_getElem (by omega)⟩
      have hfl : (qs.flatMap pc).length = qs.length * 6 := flat_length (f := pc) (fun _ => rfl) qs
      obtain ⟨g, cur, rfl, hgb, hgblk, hkc, hst⟩ := own_put (k := 0 + j * 6 + 2) ownp3 (by rw [hfl]; omega)
      have hneg := hne g rfl
      (repeat (first | refine k_nil ?_ | refine k_n ?_ | refine k_r ?_ | refine k_x ?_ | refine b_n ?_ | refine b_r ?_ | refine b_y rfl ?_ | refine b_z rfl ?_ | refine l_r ?_ | refine l_x ?_ | refine k_seq ?_ | refine k_blk ?_ | refine k_reg ?_ | refine k_ret ?_ | refine k_exit ?_ | refine k_skip ?_ | refine Zs ?_))
      refine s_v (r_ia (i := j) rfl rfl rfl rfl (by omega) (by omega)) ?_
      (repeat (first | refine k_nil ?_ | refine k_n ?_ | refine k_r ?_ | refine k_x ?_ | refine b_n ?_ | refine b_r ?_ | refine b_y rfl ?_ | refine b_z rfl ?_ | refine l_r ?_ | refine l_x ?_ | refine k_seq ?_ | refine k_blk ?_ | refine k_reg ?_ | refine k_ret ?_ | refine k_exit ?_ | refine k_skip ?_ | refine Zs ?_))
      refine s_st rfl rfl rfl rfl rfl hgblk (by show 0 + j * 6 + 2 + 1 ≤ _; omega) (fun m4 s4 => ?_)
      have ownp4 := hst m4 (.int .i64 c.is.length) s4
      rw [Nat.zero_add, flat_set _ _ _ _ hq] at ownp4
      have hb4 := s4.kp.get hb3 (show ¬ b = g by omega)
      have owni4 := own_kp owni3 s4.kp (fun x hx e => hneg (by rw [hx, e]))
      have km4 : Kp (fun k => k = b ∨ base ≤ k) w3 m4 := km3.trans s4.kp (fun x _ e => by have e : x = g := e; omega)
      obtain ⟨q1, hq1⟩ : ∃ q1, qs.set j { q with to := (c.is.length : Int) } = q1 := ⟨_, rfl⟩
      have hql4 : q1.length = c.ps.length := by rw [← hq1, List.length_set]; exact hql
      have hqs4 : ∀ (k : Nat) q', q1[k]? = some q' → ∃ p, c.ps[k]? = some p ∧ q' = { p with to := if k + 1 < j then nxt c.ps c.is.length k else if k + 1 = j ∨ k = j then (c.is.length : Int) else p.to } := by
        intro k q' hk
        rw [← hq1] at hk
        by_cases e : k = j
        · subst e
          rw [List.getElem?_set_self (List.getElem?_eq_some_iff.1 hq).1] at hk
          obtain ⟨p, hp, rfl⟩ := hqs k q hq
          refine ⟨p, hp, ?_⟩
          rw [if_neg (by omega), if_pos (by omega)]
          exact (Option.some.inj hk).symm
        · rw [List.getElem?_set_ne (Ne.symm e)] at hk
          obtain ⟨p, hp, rfl⟩ := hqs k q' hk
          refine ⟨p, hp, ?_⟩
          by_cases h1 : k + 1 < j
          · rw [if_pos h1, if_pos h1]
          · rw [if_neg h1, if_neg h1]
            by_cases h2 : k + 1 = j
            · rw [if_pos h2, if_pos (.inl h2)]
            · rw [if_neg h2, if_neg (by omega)]
      rw [hq1] at ownp4
      (repeat (first | refine k_nil ?_ | refine k_n ?_ | refine k_r ?_ | refine k_x ?_ | refine b_n ?_ | refine b_r ?_ | refine b_y rfl ?_ | refine b_z rfl ?_ | refine l_r ?_ | refine l_x ?_ | refine k_seq ?_ | refine k_blk ?_ | refine k_reg ?_ | refine k_ret ?_ | refine k_exit ?_ | refine k_skip ?_ | refine Zs ?_))
      refine c_dec rfl (fun hlt3 => ?_) (fun hge3 => ?_)
      · obtain ⟨q2, hq2⟩ : ∃ q2, q1[j]? = some q2 := ⟨_, List.getElem?_eq_getElem (by omega)⟩
        obtain ⟨q3, hq3⟩ : ∃ q3, q1[j - 1]? = some q3 := ⟨_, List.getElem?_eq_getElem (by omega)⟩
        have hRP := RPd.of (ps := q1) (a := some ⟨g, 0, none⟩) (cp := cp) (by rw [hql4]; exact ownp4)
        obtain ⟨_, _, he, _, hc2⟩ := hRP.at hq2
        cases he
        have hc2' : m4.cell? ⟨g, 0 + (j : Int).toNat * 6 + 1, none⟩ = some (.int .i64 q2.fr) := hc2 1 (by omega)
        have hj1 : ((j : Int) - 1).toNat = j - 1 := by omega
        obtain ⟨g', cur', he', _, hgblk', hkc', hst'⟩ := own_put (k := 0 + (j - 1) * 6 + 2) ownp4 (by rw [flat_length (f := pc) (sz := 6) (fun _ => rfl)]; omega)
        cases he'
        obtain ⟨p2, hp2, hqp2⟩ := hqs4 j q2 hq2
        obtain ⟨p3, hp3, hqp3⟩ := hqs4 (j - 1) q3 hq3
        have hn : nxt c.ps c.is.length (j - 1) = q2.fr := by unfold nxt; rw [show j - 1 + 1 = j from by omega, hp2, hqp2]
        (repeat (first | refine k_nil ?_ | refine k_n ?_ | refine k_r ?_ | refine k_x ?_ | refine b_n ?_ | refine b_r ?_ | refine b_y rfl ?_ | refine b_z rfl ?_ | refine l_r ?_ | refine l_x ?_ | refine k_seq ?_ | refine k_blk ?_ | refine k_reg ?_ | refine k_ret ?_ | refine k_exit ?_ | refine k_skip ?_ | refine Zs ?_))
        refine k_h (fun w' => Kp No m4 w') [(0, false), (1, false), (2, false), (3, false), (4, false), (5, false), (6, false), (7, false), (8, false), (9, false), (10, false), (11, false), (12, true)] 12 (by kernel_rfl) (by exact waits_of_last (by kernel_rfl)) (by kernel_rfl) (by kernel_rfl) rfl rfl (fun m5 k5 hh5 => ?_)
        refine h_v k5 (fun w' hw => r_fa rfl rfl) ?_
        refine h_v k5 (fun w' hw => r_ld rfl rfl (cell_of_blk (hw.get0 hb4) rfl)) ?_
        refine h_v k5 (fun w' hw => r_mv rfl) ?_
        refine h_v k5 (fun w' hw => r_sub rfl rfl (by omega)) ?_
        refine h_v k5 (fun w' hw => r_fa rfl rfl) ?_
        refine h_v k5 (fun w' hw => r_ld rfl rfl (cell_of_blk (hw.get0 hb4) rfl)) ?_
        refine h_v k5 (fun w' hw => r_mv rfl) ?_
        refine h_v k5 (fun w' hw => r_ia (i := j) rfl rfl rfl rfl (by omega) (by omega)) ?_
        refine h_v k5 (fun w' hw => r_fa rfl rfl) ?_
        refine h_v k5 (fun w' hw => r_ld rfl rfl (hw.cell0 hc2')) ?_
        refine h_v k5 (fun w' hw => r_ia (i := (j : Int) - 1) rfl rfl rfl rfl (by omega) (by omega)) ?_
        rw [hj1]
        refine h_v k5 (fun w' hw => r_fa rfl rfl) ?_
        refine h_st rfl rfl rfl rfl rfl (k5.get0 hgblk') (by show 0 + (j - 1) * 6 + 2 + 1 ≤ _; omega) (fun m6 s6 => ⟨fun h => absurd rfl h, ?_⟩)
        have kg : Kp (fun k => k = g) m4 m6 := (k5.mono (fun _ _ e => e.elim)).trans s6.kp (fun _ _ e => e)
        have ownp6 := hst' m6 (.int .i64 q2.fr) ⟨kg, s6.sz.trans (by rw [hh5]), s6.blk⟩
        rw [Nat.zero_add, flat_set _ _ _ _ hq3] at ownp6
        refine h_nil ?_
        (repeat (first | refine k_nil ?_ | refine k_n ?_ | refine k_r ?_ | refine k_x ?_ | refine b_n ?_ | refine b_r ?_ | refine b_y rfl ?_ | refine b_z rfl ?_ | refine l_r ?_ | refine l_x ?_ | refine k_seq ?_ | refine k_blk ?_ | refine k_reg ?_ | refine k_ret ?_ | refine k_exit ?_ | refine k_skip ?_ | refine Zs ?_))
        refine l_next (j + 1, q1.set (j - 1) { q3 with to := q2.fr }) ⟨rfl, rfl, rfl, rfl, rfl, trivial⟩ ⟨by show j + 1 ≤ _; omega, km4.trans kg (fun x _ e => by have e : x = g := e; omega), by show (q1.set _ _).length = _; rw [List.length_set]; exact hql4, fun k q' hk => ?_, kg.get hb4 (show ¬ b = g by omega), ownp6, own_kp owni4 kg (fun x hx e => hneg (by rw [hx, e]))⟩ (by show c.ps.length - (j + 1) < c.ps.length - j; omega)
        have hk : (q1.set (j - 1) { q3 with to := q2.fr })[k]? = some q' := hk
        show ∃ p, c.ps[k]? = some p ∧ q' = { p with to := if k + 1 < j + 1 then nxt c.ps c.is.length k else if k + 1 = j + 1 then (c.is.length : Int) else p.to }
        by_cases e : k = j - 1
        · subst e
          rw [List.getElem?_set_self (by omega)] at hk
          refine ⟨p3, hp3, ?_⟩
          rw [if_pos (by omega), hn]
          have hk := (Option.some.inj hk).symm
          rw [hk, hqp3]
        · rw [List.getElem?_set_ne (Ne.symm e)] at hk
          obtain ⟨p, hp, rfl⟩ := hqs4 k q' hk
          refine ⟨p, hp, ?_⟩
          by_cases h1 : k + 1 < j
          · rw [if_pos h1, if_pos (by omega)]
          · rw [if_neg h1]
            by_cases h2 : k = j
            · rw [if_pos (.inr h2), if_neg (by omega), if_pos (by omega)]
            · rw [if_neg (by omega), if_neg (by omega), if_neg (by omega)]
      · have hj0 : j = 0 := by omega
        (repeat (first | refine k_nil ?_ | refine k_n ?_ | refine k_r ?_ | refine k_x ?_ | refine b_n ?_ | refine b_r ?_ | refine b_y rfl ?_ | refine b_z rfl ?_ | refine l_r ?_ | refine l_x ?_ | refine k_seq ?_ | refine k_blk ?_ | refine k_reg ?_ | refine k_ret ?_ | refine k_exit ?_ | refine k_skip ?_ | refine Zs ?_))
        refine l_next (j + 1, q1) ⟨rfl, rfl, rfl, rfl, rfl, trivial⟩ ⟨by show j + 1 ≤ _; omega, km4, hql4, fun k q' hk => ?_, hb4, ownp4, owni4⟩ (by show c.ps.length - (j + 1) < c.ps.length - j; omega)
        show ∃ p, c.ps[k]? = some p ∧ q' = { p with to := if k + 1 < j + 1 then nxt c.ps c.is.length k else if k + 1 = j + 1 then (c.is.length : Int) else p.to }
        obtain ⟨p, hp, rfl⟩ := hqs4 k q' hk
        refine ⟨p, hp, ?_⟩
        by_cases h2 : k = j
        · rw [if_neg (by omega), if_pos (.inr h2), if_neg (by omega), if_pos (by omega)]
        · rw [if_neg (by omega), if_neg (by omega), if_neg (by omega), if_neg (by omega)]
    · obtain rfl : j = c.ps.length := by omega
      have hqt : qs = tosL c.ps c.is.length := by
        refine List.ext_getElem? fun k => ?_
        rw [tosL_get]
        cases hk : qs[k]? with
        | none => rw [List.getElem?_eq_none (by have := List.getElem?_eq_none_iff.1 hk; omega)]; rfl
        | some q =>
          obtain ⟨p, hp, rfl⟩ := hqs k q hk
          have hkl := (List.getElem?_eq_some_iff.1 hp).1
          rw [hp, Option.map_some]
          by_cases h1 : k + 1 < c.ps.length
          · rw [if_pos h1]
          · rw [if_neg h1, if_pos (by omega)]
            unfold nxt
            rw [List.getElem?_eq_none (by omega)]
      have hdl : (tos c).ps.length = c.ps.length := by rw [← hql, hqt]; rfl
      have hRP : RP m3 ap (tos c).ps := RPd.of (cp := cp) (base := base) (by rw [hdl, show (tos c).ps = qs from hqt.symm]; exact ownp3)
      have hRI : RI m3 al (tos c).is := RI.of (cp := cl) owni3
      obtain ⟨_, _, e1, hcp, _, _⟩ := own_read ownp3
      obtain ⟨_, _, e2', hcl, _, _⟩ := own_read owni3
      simp only [Value.slice.injEq, true_and] at e1 e2'
      obtain ⟨rfl, rfl⟩ := e1
      obtain ⟨rfl, rfl⟩ := e2'
      have hnmt : ∀ p ∈ (tos c).ps, p.nm.size ≤ 200000 := fun p hp => by
        have hp : p ∈ tosL c.ps c.is.length := hp
        obtain ⟨k, hk⟩ := List.mem_iff_getElem?.1 hp
        rw [tosL_get, Option.map_eq_some_iff] at hk
        obtain ⟨p', hp', rfl⟩ := hk
        exact hnm p' (List.mem_of_getElem? hp')
      have hG := rHeights (tos c) ap al cp cl m3 hRP hRI (by rw [hdl]; omega) (by show c.is.length ≤ _; omega) (fun p hp => by have := hnmt p hp; omega)
      rw [hdl] at hG
      have e23 := km3.get e2 (show ¬ (b2 = b ∨ base ≤ b2) by omega)
      (repeat (first | refine k_nil ?_ | refine k_n ?_ | refine k_r ?_ | refine k_x ?_ | refine b_n ?_ | refine b_r ?_ | refine b_y rfl ?_ | refine b_z rfl ?_ | refine l_r ?_ | refine l_x ?_ | refine k_seq ?_ | refine k_blk ?_ | refine k_reg ?_ | refine k_ret ?_ | refine k_exit ?_ | refine k_skip ?_ | refine Zs ?_))
      refine s_v (r_ldb (vs := [.slice ap c.ps.length cp, .slice al c.is.length cl]) rfl rfl rfl hb3 rfl rfl) ?_
      refine s_call (us := []) (zs := []) (by kernel_rfl) rfl rfl hG ?_
      rintro _ m4 ⟨k4, ⟨rfl, hng⟩ | ⟨hg, LL, rfl, hh, _⟩⟩
      · have e24 := k4.get0 e23
        have km4 := km3.no k4
        (repeat (first | refine k_nil ?_ | refine k_n ?_ | refine k_r ?_ | refine k_x ?_ | refine b_n ?_ | refine b_r ?_ | refine b_y rfl ?_ | refine b_z rfl ?_ | refine l_r ?_ | refine l_x ?_ | refine k_seq ?_ | refine k_blk ?_ | refine k_reg ?_ | refine k_ret ?_ | refine k_exit ?_ | refine k_skip ?_ | refine Zs ?_))
        refine c_t rfl ?_
        (repeat (first | refine k_nil ?_ | refine k_n ?_ | refine k_r ?_ | refine k_x ?_ | refine b_n ?_ | refine b_r ?_ | refine b_y rfl ?_ | refine b_z rfl ?_ | refine l_r ?_ | refine l_x ?_ | refine k_seq ?_ | refine k_blk ?_ | refine k_reg ?_ | refine k_ret ?_ | refine k_exit ?_ | refine k_skip ?_ | refine Zs ?_))
        refine s_st (vs := [.slice none 0 0, .slice none 0 0]) rfl rfl rfl rfl rfl e24 (Nat.le_of_ble_eq_true rfl) (fun m5 s5 => ?_)
        (repeat (first | refine k_nil ?_ | refine k_n ?_ | refine k_r ?_ | refine k_x ?_ | refine b_n ?_ | refine b_r ?_ | refine b_y rfl ?_ | refine b_z rfl ?_ | refine l_r ?_ | refine l_x ?_ | refine k_seq ?_ | refine k_blk ?_ | refine k_reg ?_ | refine k_ret ?_ | refine k_exit ?_ | refine k_skip ?_ | refine Zs ?_))
        exact ret_c3 rfl (rv_ag rfl rfl rfl s5.blk rfl rfl) (rv_t rfl) (rv_t rfl) (none0 m5 ((keep km4).trans s5.kp (fun q hq e => by have e : q = b2 := e; omega)) _ 3 (.inr ⟨hL2, .inr ⟨c, hpg', .inr ⟨hng, rfl, by rw [hsl']; omega, rfl⟩⟩⟩))
      · have e24 := k4.get0 e23
        have km4 := km3.no k4
        have hb4 := k4.get0 hb3
        (repeat (first | refine k_nil ?_ | refine k_n ?_ | refine k_r ?_ | refine k_x ?_ | refine b_n ?_ | refine b_r ?_ | refine b_y rfl ?_ | refine b_z rfl ?_ | refine l_r ?_ | refine l_x ?_ | refine k_seq ?_ | refine k_blk ?_ | refine k_reg ?_ | refine k_ret ?_ | refine k_exit ?_ | refine k_skip ?_ | refine Zs ?_))
        refine c_f rfl ?_
        (repeat (first | refine k_nil ?_ | refine k_n ?_ | refine k_r ?_ | refine k_x ?_ | refine b_n ?_ | refine b_r ?_ | refine b_y rfl ?_ | refine b_z rfl ?_ | refine l_r ?_ | refine l_x ?_ | refine k_seq ?_ | refine k_blk ?_ | refine k_reg ?_ | refine k_ret ?_ | refine k_exit ?_ | refine k_skip ?_ | refine Zs ?_))
        refine s_v (r_ldb (vs := [.slice ap c.ps.length cp, .slice al c.is.length cl]) rfl rfl rfl hb4 rfl rfl) ?_
        refine s_st (vs := [.slice ap c.ps.length cp, .slice al c.is.length cl]) rfl rfl rfl rfl rfl e24 (Nat.le_of_ble_eq_true rfl) (fun m5 s5 => ?_)
        have kb : Kp No w m5 := (keep km4).trans s5.kp (fun q hq e => by have e : q = b2 := e; omega)
        have hap : ∀ g, (Value.slice ap c.ps.length cp).ownBlock = some g → ¬ g = b2 := fun g hg e => by have := (own_lt ownp3 hg).1; omega
        have hal : ∀ g, (Value.slice al c.is.length cl).ownBlock = some g → ¬ g = b2 := fun g hg e => by have := (own_lt owni3 hg).1; omega
        have hRP5 : RP m5 ap (tos c).ps := RPd.of (cp := cp) (base := base) (by rw [hdl, show (tos c).ps = qs from hqt.symm]; exact own_kp (own_kp ownp3 k4 (fun _ _ => id)) s5.kp hap)
        have hRI5 : RI m5 al (tos c).is := RI.of (cp := cl) (base := base) (T := 58) (own_kp (own_kp owni3 k4 (fun _ _ => id)) s5.kp hal)
        (repeat (first | refine k_nil ?_ | refine k_n ?_ | refine k_r ?_ | refine k_x ?_ | refine b_n ?_ | refine b_r ?_ | refine b_y rfl ?_ | refine b_z rfl ?_ | refine l_r ?_ | refine l_x ?_ | refine k_seq ?_ | refine k_blk ?_ | refine k_reg ?_ | refine k_ret ?_ | refine k_exit ?_ | refine k_skip ?_ | refine Zs ?_))
        exact ret_c3 rfl (rv_ag rfl rfl rfl s5.blk rfl rfl) (rv_t rfl) (rv_t rfl) ⟨kb, tos c, 0, 0, ap, al, cp, cl, by rw [hdl]; rfl, .inr ⟨hL2, .inr ⟨c, hpg', .inl ⟨hh.gd, rfl, rfl, rfl⟩⟩⟩, hRP5, hRI5, by rw [hdl]; exact hcp, hcl, by rw [hdl]; omega, by show c.is.length ≤ _; omega, hnmt⟩
end Cd
end Go.Proofs.YtpamkidcmjfieaaGreatDoor
