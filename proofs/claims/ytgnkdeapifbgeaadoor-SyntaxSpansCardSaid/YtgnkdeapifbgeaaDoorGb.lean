/- The parser in memory: what is kept of it. -/
import Derived.Test.YtgnkdeapifbgeaaDoorRp
import Derived.Test.YtgnkdeapifbgeaaDoorGa
import Derived.Test.YtgnkdeapifbgeaaDoorChecked
namespace Go.Proofs.YtgnkdeapifbgeaaDoor.Sy
open Go Go.RowKit Fw
set_option linter.unusedVariables false
def sv (p : List Int) : Value := .string (strOfNums p)
theorem sv_B (s : ByteArray) : sv (B s) = .string s := by
  rw [sv]; congr 1; exact B_inj (B_nums fun c hc => B_range hc)
/-- Where a parser stands, its tokens and their texts. -/
structure Cx where
  p : Nat
  tv : Value
  wv : Value
  T : List Tk.T3
  wl : List ByteArray
/-- The slices of what was put; the blocks of the lists in it. -/
structure VS where
  x : Value
  s : Value
  f : Value
  o : Nat → Prop
def Cx.E (X : Cx) : Env := ⟨X.T, X.wl.map B⟩
/-- What may change. -/
def Sx (X : Cx) (V : VS) (b : Nat) : Prop := b = X.p ∨ V.x.ownBlock = some b ∨ V.s.ownBlock = some b ∨ V.f.ownBlock = some b
structure Gs (X : Cx) (w : World) (V : VS) (w' : World) (V' : VS) : Prop where
  kp : Kp (Sx X V) w w'
  fr : ∀ b, b < w.heap.size → Sx X V' b → Sx X V b
  fo : ∀ b, b < w.heap.size → V'.o b → V.o b
theorem Gs.refl (X : Cx) (w : World) (V : VS) : Gs X w V w V := ⟨Kp.refl _ _, fun _ _ h => h, fun _ _ h => h⟩
theorem Gs.trans {X : Cx} {w w1 w2 : World} {V V1 V2 : VS} (h : Gs X w V w1 V1) (k : Gs X w1 V1 w2 V2) : Gs X w V w2 V2 :=
  ⟨h.kp.trans k.kp fun i hi hs => h.fr i hi hs, fun b hb hs => h.fr b hb (k.fr b (Nat.lt_of_lt_of_le hb h.kp.size) hs), fun b hb hs => h.fo b hb (k.fo b (Nat.lt_of_lt_of_le hb h.kp.size) hs)⟩
theorem Gs.no {X : Cx} {w w1 w2 : World} {V V1 : VS} (h : Gs X w V w1 V1) (k : Kp No w1 w2) : Gs X w V w2 V1 := ⟨h.kp.no k, h.fr, h.fo⟩
/-- A store into memory of our own. -/
theorem Gs.own {X : Cx} {w w1 w2 : World} {V V1 : VS} {b : Nat} (h : Gs X w V w1 V1) (k : Kp (fun i => i = b) w1 w2) (hb : w.heap.size ≤ b) : Gs X w V w2 V1 :=
  ⟨h.kp.trans k fun i hi e => (by omega), h.fr, h.fo⟩
def exC (r : Ex × Value) : List Value := [.int .i64 r.1.k, .int .i64 r.1.f, .int .i64 r.1.e, .int .i64 r.1.n, sv r.1.nm, sv r.1.op, .int .i64 r.1.a, .int .i64 r.1.b, r.2]
def stC (r : St × Value × Value) : List Value := [.int .i64 r.1.k, .int .i64 r.1.f, .int .i64 r.1.e, sv r.1.nm, .int .i64 r.1.n, .int .i64 r.1.a, .int .i64 r.1.b, r.2.1, r.2.2]
def fnC (r : Fn × Value × Value) : List Value := [sv r.1.nm, .int .i64 r.1.f, .int .i64 r.1.e, r.2.1, .int .i64 r.1.ty, r.2.2]
/-- A list of numbers, a list of texts. -/
def LI (w : World) (v : Value) (l : List Int) : Prop := w.ownsRow 0 3 1 v l.length (l.map (Value.int .i64))
def LS (w : World) (v : Value) (l : List (List Int)) : Prop := w.ownsRow 0 9 1 v l.length (l.map sv)
/-- The list's block is one of ours. -/
def Ow (V : VS) (v : Value) : Prop := ∀ g, v.ownBlock = some g → V.o g
def RX (w : World) (V : VS) (l : List Ex) : Prop := ∃ rx : List (Ex × Value), rx.map Prod.fst = l ∧ w.ownsRow 0 35 9 V.x l.length (rx.flatMap exC) ∧ ∀ r ∈ rx, LI w r.2 r.1.l ∧ Ow V r.2
def RS (w : World) (V : VS) (l : List St) : Prop := ∃ rx : List (St × Value × Value), rx.map Prod.fst = l ∧ w.ownsRow 0 39 9 V.s l.length (rx.flatMap stC) ∧ ∀ r ∈ rx, (LI w r.2.1 r.1.th ∧ Ow V r.2.1) ∧ LI w r.2.2 r.1.el ∧ Ow V r.2.2
def RF (w : World) (V : VS) (l : List Fn) : Prop := ∃ rx : List (Fn × Value × Value), rx.map Prod.fst = l ∧ w.ownsRow 0 43 6 V.f l.length (rx.flatMap fnC) ∧ ∀ r ∈ rx, (LS w r.2.1 r.1.ps ∧ Ow V r.2.1) ∧ LI w r.2.2 r.1.bd ∧ Ow V r.2.2
structure At (X : Cx) (w : World) (s : PS) (V : VS) : Prop where
  blk : w.heap[X.p]? = some (.cells [X.tv, X.wv, .int .i64 (s.i : Int), V.x, V.s, V.f].toArray 64 (0, 0))
  tk : w.ownsRow 0 70 3 X.tv X.T.length (Tk.tc X.T)
  wd : w.ownsRow 0 9 1 X.wv X.wl.length (X.wl.map Value.string)
  xs : RX w V s.ex
  ss : RS w V s.st
  fs : RF w V s.fn
  lt : s.i < X.T.length
  xl : s.ex.length ≤ s.i
  sl : s.st.length ≤ 1000
  fl : s.fn.length ≤ 32
  ob : ∀ b, V.o b → b < w.heap.size
theorem own_ty {w : World} {base : Nat} {e : TypeId} {size : Nat} {v : Value} {n : Nat} {cs : List Value} (h : w.ownsRow base e size v n cs) {g : Nat} (hg : v.ownBlock = some g) : ∃ cur, w.heap[g]? = some (.cells cur e (0, 0)) := by
  obtain ⟨_, h⟩ := h
  rcases h with ⟨rfl, _⟩ | ⟨g', cap, cur, rfl, _, hb, _⟩
  · cases hg
  · cases hg; exact ⟨cur, hb⟩
theorem ty_ne {w : World} {g b : Nat} {cur cur' : Array Value} {e e' : TypeId} {fz fz' : Nat × Nat} (h : w.heap[g]? = some (.cells cur e fz)) (h' : w.heap[b]? = some (.cells cur' e' fz')) (he : Nat.beq e e' = false) : g ≠ b := by
  rintro rfl
  rw [h] at h'
  cases h'
  simp at he
/-- Types that the parser's own memory hasn't. -/
def okT (e : TypeId) : Bool := !(Nat.beq e 64 || Nat.beq e 35 || Nat.beq e 39 || Nat.beq e 43)
theorem At.nsx {X : Cx} {w : World} {s : PS} {V : VS} (h : At X w s V) {g : Nat} {cur : Array Value} {e : TypeId} {fz : Nat × Nat} (hg : w.heap[g]? = some (.cells cur e fz)) (he : okT e = true) : ¬ Sx X V g := by
  simp only [okT, Bool.not_eq_true', Bool.or_eq_false_iff] at he
  obtain ⟨⟨⟨h1, h2⟩, h3⟩, h4⟩ := he
  rintro (hs | hs | hs | hs)
  · exact ty_ne hg h.blk h1 hs
  · obtain ⟨rx, _, ho, _⟩ := h.xs
    obtain ⟨c, hc⟩ := own_ty ho hs
    exact ty_ne hg hc h2 rfl
  · obtain ⟨rx, _, ho, _⟩ := h.ss
    obtain ⟨c, hc⟩ := own_ty ho hs
    exact ty_ne hg hc h3 rfl
  · obtain ⟨rx, _, ho, _⟩ := h.fs
    obtain ⟨c, hc⟩ := own_ty ho hs
    exact ty_ne hg hc h4 rfl
theorem own_gs {X : Cx} {w w' : World} {s : PS} {V : VS} (hA : At X w s V) (k : Kp (Sx X V) w w') {base : Nat} {e : TypeId} {size : Nat} {v : Value} {n : Nat} {cs : List Value} (h : w.ownsRow base e size v n cs) (he : okT e = true) : w'.ownsRow base e size v n cs :=
  own_kp h k fun g hg => by
    obtain ⟨c, hc⟩ := own_ty h hg
    exact hA.nsx hc he
/-- All is kept where nothing of it changes. -/
theorem At.kp {X : Cx} {w w' : World} {s : PS} {V : VS} {S : Nat → Prop} (h : At X w s V) (k : Kp S w w') (h1 : ∀ b, Sx X V b → ¬ S b)
    (h2 : ∀ (g : Nat) (cur : Array Value) (e : TypeId) (fz : Nat × Nat), w.heap[g]? = some (.cells cur e fz) → (e = 3 ∨ e = 9 ∨ e = 70) → ¬ S g) : At X w' s V := by
  have hi : ∀ {v l}, LI w v l → LI w' v l := fun hv => own_kp hv k fun g hg => by
    obtain ⟨c, hc⟩ := own_ty hv hg
    exact h2 g c _ _ hc (.inl rfl)
  have ht : ∀ {v l}, LS w v l → LS w' v l := fun hv => own_kp hv k fun g hg => by
    obtain ⟨c, hc⟩ := own_ty hv hg
    exact h2 g c _ _ hc (.inr (.inl rfl))
  obtain ⟨rx, e1, o1, l1⟩ := h.xs
  obtain ⟨ry, e2, o2, l2⟩ := h.ss
  obtain ⟨rz, e3, o3, l3⟩ := h.fs
  refine ⟨k.get h.blk (h1 _ (.inl rfl)), own_kp h.tk k fun g hg => ?_, own_kp h.wd k fun g hg => ?_, ⟨rx, e1, own_kp o1 k fun g hg => h1 g (.inr (.inl hg)), fun r hr => ⟨hi (l1 r hr).1, (l1 r hr).2⟩⟩,
    ⟨ry, e2, own_kp o2 k fun g hg => h1 g (.inr (.inr (.inl hg))), fun r hr => ⟨⟨hi (l2 r hr).1.1, (l2 r hr).1.2⟩, hi (l2 r hr).2.1, (l2 r hr).2.2⟩⟩, ⟨rz, e3, own_kp o3 k fun g hg => h1 g (.inr (.inr (.inr hg))), fun r hr => ⟨⟨ht (l3 r hr).1.1, (l3 r hr).1.2⟩, hi (l3 r hr).2.1, (l3 r hr).2.2⟩⟩, h.lt, h.xl, h.sl, h.fl, fun b hb => Nat.lt_of_lt_of_le (h.ob b hb) k.size⟩
  · obtain ⟨c, hc⟩ := own_ty h.tk hg
    exact h2 g c _ _ hc (.inr (.inr rfl))
  · obtain ⟨c, hc⟩ := own_ty h.wd hg
    exact h2 g c _ _ hc (.inr (.inl rfl))
theorem At.no {X : Cx} {w w' : World} {s : PS} {V : VS} (h : At X w s V) (k : Kp No w w') : At X w' s V := h.kp k (fun _ _ h => h) fun _ _ _ _ _ _ h => h
/-- More blocks may be ours. -/
def VS.add (V : VS) (g : Option Nat) : VS := { V with o := fun b => V.o b ∨ g = some b }
theorem At.more {X : Cx} {w : World} {s : PS} {V : VS} (h : At X w s V) (g : Option Nat) (hg : ∀ b, g = some b → b < w.heap.size) : At X w s (V.add g) := by
  obtain ⟨rx, e1, o1, l1⟩ := h.xs
  obtain ⟨ry, e2, o2, l2⟩ := h.ss
  obtain ⟨rz, e3, o3, l3⟩ := h.fs
  exact ⟨h.blk, h.tk, h.wd, ⟨rx, e1, o1, fun r hr => ⟨(l1 r hr).1, fun g hg => .inl ((l1 r hr).2 g hg)⟩⟩, ⟨ry, e2, o2, fun r hr => ⟨⟨(l2 r hr).1.1, fun g hg => .inl ((l2 r hr).1.2 g hg)⟩, (l2 r hr).2.1, fun g hg => .inl ((l2 r hr).2.2 g hg)⟩⟩,
    ⟨rz, e3, o3, fun r hr => ⟨⟨(l3 r hr).1.1, fun g hg => .inl ((l3 r hr).1.2 g hg)⟩, (l3 r hr).2.1, fun g hg => .inl ((l3 r hr).2.2 g hg)⟩⟩, h.lt, h.xl, h.sl, h.fl, fun b hb => hb.elim (h.ob b) (hg b)⟩
/-- A change of a list that is none of ours. -/
theorem At.lst {X : Cx} {w0 w w' : World} {s0 s : PS} {V0 V : VS} (h : At X w s V) (h0 : At X w0 s0 V0) {v : Value} (k : Kp (fun i => some i = v.ownBlock) w w') {e : TypeId} (he : okT e = true)
    (hv : ∀ g, v.ownBlock = some g → w0.heap.size ≤ g ∧ ¬ V.o g ∧ ∃ cur, w.heap[g]? = some (.cells cur e (0, 0))) : At X w' s V := by
  have hn : ∀ g, some g = v.ownBlock → ¬ Sx X V g := fun g hg => by
    obtain ⟨_, _, c, hc⟩ := hv g hg.symm
    exact h.nsx hc he
  have ho : ∀ {u : Value}, Ow V u → ∀ g, u.ownBlock = some g → ¬ some g = v.ownBlock := fun hu g hg e => (hv g e.symm).2.1 (hu g hg)
  obtain ⟨rx, e1, o1, l1⟩ := h.xs
  obtain ⟨ry, e2, o2, l2⟩ := h.ss
  obtain ⟨rz, e3, o3, l3⟩ := h.fs
  have hold : ∀ {base : Nat} {e : TypeId} {size : Nat} {u : Value} {n : Nat} {cs : List Value}, w0.ownsRow base e size u n cs → ∀ g, u.ownBlock = some g → ¬ some g = v.ownBlock := fun hu g hg e => by
    obtain ⟨c, hc⟩ := own_ty hu hg
    have := lt_of_get hc
    have := (hv g e.symm).1
    omega
  exact ⟨k.get h.blk fun e => hn _ e (.inl rfl), own_kp h.tk k (hold h0.tk), own_kp h.wd k (hold h0.wd),
    ⟨rx, e1, own_kp o1 k fun g hg e => hn g e (.inr (.inl hg)), fun r hr => ⟨own_kp (l1 r hr).1 k (ho (l1 r hr).2), (l1 r hr).2⟩⟩,
    ⟨ry, e2, own_kp o2 k fun g hg e => hn g e (.inr (.inr (.inl hg))), fun r hr => ⟨⟨own_kp (l2 r hr).1.1 k (ho (l2 r hr).1.2), (l2 r hr).1.2⟩, own_kp (l2 r hr).2.1 k (ho (l2 r hr).2.2), (l2 r hr).2.2⟩⟩,
    ⟨rz, e3, own_kp o3 k fun g hg e => hn g e (.inr (.inr (.inr hg))), fun r hr => ⟨⟨own_kp (l3 r hr).1.1 k (ho (l3 r hr).1.2), (l3 r hr).1.2⟩, own_kp (l3 r hr).2.1 k (ho (l3 r hr).2.2), (l3 r hr).2.2⟩⟩, h.lt, h.xl, h.sl, h.fl, fun b hb => Nat.lt_of_lt_of_le (h.ob b hb) k.size⟩
/-- A store into a box of another kind. -/
theorem At.box {X : Cx} {w w' : World} {s : PS} {V : VS} {b : Nat} {cs : Array Value} {T : TypeId} (h : At X w s V) (k : Kp (fun i => i = b) w w') (hb : w.heap[b]? = some (.cells cs T (0, 0))) (hs : ¬ Sx X V b)
    (hT : (Nat.beq 3 T || Nat.beq 9 T || Nat.beq 70 T) = false) : At X w' s V := by
  simp only [Bool.or_eq_false_iff] at hT
  obtain ⟨⟨h1, h2⟩, h3⟩ := hT
  refine h.kp k (fun g hg e => hs (e ▸ hg)) fun g cur e fz hg he e' => ?_
  subst e'
  rcases he with rfl | rfl | rfl
  · exact ty_ne hg hb h1 rfl
  · exact ty_ne hg hb h2 rfl
  · exact ty_ne hg hb h3 rfl
/-- A box of our own. -/
structure Bx (X : Cx) (w0 : World) (w : World) (V : VS) (b : Nat) (cs : List Value) (T : TypeId) : Prop where
  ge : w0.heap.size ≤ b
  blk : w.heap[b]? = some (.cells cs.toArray T (0, 0))
  ns : ¬ Sx X V b
theorem Bx.gs {X : Cx} {w0 w w' : World} {V V' : VS} {b : Nat} {cs : List Value} {T : TypeId} (h : Bx X w0 w V b cs T) (k : Gs X w V w' V') : Bx X w0 w' V' b cs T :=
  ⟨h.ge, k.kp.get h.blk h.ns, fun hs => h.ns (k.fr b (lt_of_get h.blk) hs)⟩
theorem Bx.no {X : Cx} {w0 w w' : World} {V : VS} {b : Nat} {cs : List Value} {T : TypeId} (h : Bx X w0 w V b cs T) (k : Kp No w w') : Bx X w0 w' V b cs T :=
  ⟨h.ge, k.get0 h.blk, h.ns⟩
theorem Sx.lt {X : Cx} {w : World} {s : PS} {V : VS} (h : At X w s V) {b : Nat} (hs : Sx X V b) : b < w.heap.size := by
  rcases hs with rfl | hs | hs | hs
  · exact lt_of_get h.blk
  · obtain ⟨rx, _, ho, _⟩ := h.xs
    obtain ⟨c, hc⟩ := own_ty ho hs
    exact lt_of_get hc
  · obtain ⟨rx, _, ho, _⟩ := h.ss
    obtain ⟨c, hc⟩ := own_ty ho hs
    exact lt_of_get hc
  · obtain ⟨rx, _, ho, _⟩ := h.fs
    obtain ⟨c, hc⟩ := own_ty ho hs
    exact lt_of_get hc
theorem Bx.new {X : Cx} {w0 w w1 : World} {s : PS} {V : VS} {b : Nat} {cs : List Value} {T : TypeId} (h : At X w s V) (hw : w0.heap.size ≤ w.heap.size) (hb : Nb w b cs T w1) : Bx X w0 w1 V b cs T :=
  ⟨Nat.le_trans hw hb.ge, hb.blk, fun hs => by have := Sx.lt h hs; have := hb.ge; omega⟩
/-- The state, and what changed since the call began. -/
structure Sg (X : Cx) (w0 : World) (V0 : VS) (w : World) (s : PS) (V : VS) : Prop where
  at_ : At X w s V
  gs : Gs X w0 V0 w V
theorem Sg.start {X : Cx} {w : World} {s : PS} {V : VS} (h : At X w s V) : Sg X w V w s V := ⟨h, Gs.refl _ _ _⟩
theorem Sg.no {X : Cx} {w0 w w' : World} {s : PS} {V0 V : VS} (h : Sg X w0 V0 w s V) (k : Kp No w w') : Sg X w0 V0 w' s V := ⟨h.at_.no k, h.gs.no k⟩
theorem Sg.call {X : Cx} {w0 w w' : World} {s s' : PS} {V0 V V' : VS} (h : Sg X w0 V0 w s V) (k : Sg X w V w' s' V') : Sg X w0 V0 w' s' V' := ⟨k.at_, h.gs.trans k.gs⟩
theorem Sg.size {X : Cx} {w0 w : World} {s : PS} {V0 V : VS} (h : Sg X w0 V0 w s V) : w0.heap.size ≤ w.heap.size := h.gs.kp.size
/-- A store into a box. -/
theorem Sg.put {X : Cx} {w0 w w' : World} {s : PS} {V0 V : VS} {b : Nat} {cs cs' : List Value} {T : TypeId} (h : Sg X w0 V0 w s V) (hx : Bx X w0 w V b cs T) (k : Sb w b cs' T w') (hT : (Nat.beq 3 T || Nat.beq 9 T || Nat.beq 70 T) = false) :
    Sg X w0 V0 w' s V ∧ Bx X w0 w' V b cs' T := ⟨⟨h.at_.box k.kp hx.blk hx.ns hT, h.gs.own k.kp hx.ge⟩, ⟨hx.ge, k.blk, hx.ns⟩⟩
/-- A list of our own, that isn't among what was put. -/
structure Ls (w0 w : World) (V : VS) (e : TypeId) (v : Value) (n : Nat) (cs : List Value) : Prop where
  own : w.ownsRow 0 e 1 v n cs
  nw : ∀ g, v.ownBlock = some g → w0.heap.size ≤ g ∧ ¬ V.o g
theorem Ls.no {w0 w w' : World} {V : VS} {e : TypeId} {v : Value} {n : Nat} {cs : List Value} (h : Ls w0 w V e v n cs) (k : Kp No w w') : Ls w0 w' V e v n cs := ⟨own_kp h.own k fun _ _ h => h, h.nw⟩
theorem Ls.gs {X : Cx} {w0 w w' : World} {s : PS} {V V' : VS} {e : TypeId} {v : Value} {n : Nat} {cs : List Value} (h : Ls w0 w V e v n cs) (hA : At X w s V) (k : Gs X w V w' V') (he : okT e = true) : Ls w0 w' V' e v n cs :=
  ⟨own_gs hA k.kp h.own he, fun g hg => ⟨(h.nw g hg).1, fun ho => (h.nw g hg).2 (k.fo g (by obtain ⟨c, hc⟩ := own_ty h.own hg; exact lt_of_get hc) ho)⟩⟩
theorem Ls.nil {w0 w : World} {V : VS} {e : TypeId} : Ls w0 w V e (.slice none 0 0) 0 [] := ⟨⟨rfl, .inl ⟨rfl, rfl⟩⟩, fun g hg => by cases hg⟩
/-- What is owned by nobody is new. -/
theorem Sg.lst {X : Cx} {w0 w w' : World} {s0 s : PS} {V0 V : VS} (h : Sg X w0 V0 w s V) (h0 : At X w0 s0 V0) {e : TypeId} {v v' : Value} {n k : Nat} {cs xs : List Value} (hl : Ls w0 w V e v n cs) (a : Ap w 0 e 1 v k xs v' w') (he : okT e = true) :
    Sg X w0 V0 w' s V ∧ Ls w0 w' V e v' k xs := by
  refine ⟨⟨h.at_.lst h0 a.kp he fun g hg => ⟨(hl.nw g hg).1, (hl.nw g hg).2, own_ty hl.own hg⟩, ⟨h.gs.kp.trans a.kp fun i hi e => (by have := (hl.nw i e.symm).1; omega), h.gs.fr, h.gs.fo⟩⟩, a.own, fun g hg => ?_⟩
  rcases a.row g hg with h1 | h1
  · exact hl.nw g h1
  · exact ⟨Nat.le_trans h.gs.kp.size h1, fun ho => by have := h.at_.ob g ho; omega⟩
/-- What a parser's tokens are like. -/
structure Ok (X : Cx) : Prop where
  len : X.wl.length = X.T.length
  big : X.T.length ≤ 20001
  last : ∀ i t, X.T[i]? = some t → i + 1 = X.T.length → t.1 = 0
  lastw : ∀ i x, X.wl[i]? = some x → i + 1 = X.T.length → B x = []
  rng : ∀ (i : Nat) (t : Tk.T3), X.T[i]? = some t → (0 ≤ t.1 ∧ t.1 ≤ 4) ∧ (0 ≤ t.2.1 ∧ t.2.1 ≤ 20000) ∧ (0 ≤ t.2.2 ∧ t.2.2 ≤ 20000)
  num : ∀ (i : Nat) (t : Tk.T3) (x : ByteArray), X.T[i]? = some t → X.wl[i]? = some x → t.1 = 2 → x.size ≤ 18 ∧ ∀ c ∈ B x, 48 ≤ c ∧ c ≤ 57
  wz : ∀ (i : Nat) (x : ByteArray), X.wl[i]? = some x → x.size ≤ 20000
/-- The token, and its text, that is next. -/
theorem At.tok {X : Cx} {w : World} {s : PS} {V : VS} (h : At X w s V) (ok : Ok X) : ∃ t x, X.T[s.i]? = some t ∧ X.wl[s.i]? = some x ∧ kd X.E s = t.1 ∧ hr X.E s = t.2.1 ∧ Sy.wd X.E s = B x := by
  have h1 := h.lt
  have h2 : s.i < X.wl.length := by rw [ok.len]; exact h1
  refine ⟨X.T[s.i], X.wl[s.i], List.getElem?_eq_getElem h1, List.getElem?_eq_getElem h2, ?_, ?_, ?_⟩
  · simp [kd, Cx.E, h1]
  · simp [hr, Cx.E, h1]
  · simp [Sy.wd, Cx.E, h2]
/-- What is thrown. -/
def thrown (c p : Int) : List PanicEntry := [{ v := .iface 66 (.agg #[.int .i64 p, .int .i64 c]), recovered := false }]
/-- A call that does as told: its result; what it throws. -/
def okP {α : Type} (X : Cx) (w : World) (V : VS) (r : Rs α) (f : α → World → Value → Prop) (v : Value) (w' : World) : Prop := ∃ x s' V', r = .ok x s' ∧ f x w' v ∧ Sg X w V w' s' V'
def erP {α : Type} (X : Cx) (w : World) (V : VS) (r : Rs α) (c : List PanicEntry) (w' : World) : Prop := ∃ k p, r = .er k p ∧ c = thrown k p ∧ Kp (Sx X V) w w'
def Does {α : Type} (X : Cx) (fn : FuncId) (args : List Value) (w : World) (V : VS) (r : Rs α) (f : α → World → Value → Prop) : Prop := r ≠ .out → RetP Tryd.prog fn args w (okP X w V r f) (erP X w V r)
/-- What is thrown goes on. -/
theorem erP.up {α β : Type} {X : Cx} {w0 w : World} {s : PS} {V0 V : VS} {r : Rs α} {g : α → PS → Rs β} {r' : Rs β} (h : Sg X w0 V0 w s V) (hr : r' = r.bind g) : ∀ c w1, erP X w V r c w1 → erP X w0 V0 r' c w1 := by
  rintro c w1 ⟨k, p, rfl, rfl, hk⟩
  exact ⟨k, p, by rw [hr]; rfl, rfl, h.gs.kp.trans hk fun i hi hs => h.gs.fr i hi hs⟩
theorem bind_ne {α β : Type} {r : Rs α} {g : α → PS → Rs β} (h : r.bind g ≠ .out) : r ≠ .out := by
  rintro rfl; exact h rfl
end Go.Proofs.YtgnkdeapifbgeaaDoor.Sy
