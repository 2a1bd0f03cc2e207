/- Things that own their slices. -/
import Derived.Test.YtkmdgnbfojkcnaaLatI
set_option linter.all false
namespace Go.Proofs.Ytkmdgnbfojkcnaa
open Go
/-- What owns 'B' owns 'A'. -/
def SubO (A B : Atom) : Prop := ∀ I h o, B.holds I h o → ∃ o', A.holds I h o' ∧ ∀ b, o' b → o b
theorem SubO.sub {A B : Atom} (h : SubO A B) : Sub A B := fun I w o hB => by
  obtain ⟨o', h1, _⟩ := h I w o hB
  exact ⟨o', h1⟩
theorem SubO.refl (A : Atom) : SubO A A := fun _ _ o h => ⟨o, h, fun _ h => h⟩
theorem SubO.trans {A B C : Atom} (h : SubO A B) (h' : SubO B C) : SubO A C := fun I w o hC => by
  obtain ⟨o1, h1, g1⟩ := h' I w o hC
  obtain ⟨o2, h2, g2⟩ := h I w o1 h1
  exact ⟨o2, h2, fun b hb => g1 b (g2 b hb)⟩
theorem subO_bag {As : List Atom} {A : Atom} (i : Nat) (h : As[i]? = some A) : SubO A (bagA As) := fun I w o hB => by
  obtain ⟨f, h1, h2, h3⟩ := hB
  have := h1 i
  have e : gt (clr [] (ofL As)) i = A := by
    show gt (ofL As) i = A
    rw [gt_ofL, List.getD_eq_getElem?_getD, h]; rfl
  rw [e] at this
  exact ⟨f i, this, fun b hb => h3 i b hb⟩
def Row.sl (r : Row) : Sl := ⟨r.a, r.n, r.cap⟩
/-- A slice's value stands for a list, and its row is owned. -/
def SlOw {α : Type} (G : Atom) (e k Bw : Nat) (R : List Value → α → Prop) (s : Sl) (xs : List α) : Prop :=
  ∃ (r : Row) (raw : List (List Value)), s = r.sl ∧ IsRow e k raw.flatten r ∧ SubO r.A G ∧ r.n * Bw ≤ 140737488351232 ∧ raw.length = r.n ∧ (∀ w ∈ raw, w.length = k) ∧ All2 R raw xs
theorem SlOw.mono {α : Type} {A B : Atom} {e k Bw : Nat} {R R' : List Value → α → Prop} {s : Sl} {xs : List α} (hs : SubO A B) (hR : ∀ r x, R r x → R' r x) (h : SlOw A e k Bw R s xs) : SlOw B e k Bw R' s xs := by
  obtain ⟨r, raw, h1, h2, h3, h4, h5, h6, h7⟩ := h
  exact ⟨r, raw, h1, h2, h3.trans hs, h4, h5, h6, h7.mono hR⟩
theorem SlOw.in {α : Type} {G : Atom} {e k Bw : Nat} {R R' : List Value → α → Prop} {s : Sl} {xs : List α} (hR : ∀ r x, R r x → R' r x) (h : SlOw G e k Bw R s xs) : SlIn G R' k Bw (.slice s.a s.n s.cap) xs := by
  obtain ⟨r, raw, rfl, h2, h3, h4, h5, h6, h7⟩ := h
  exact SlIn.of h2.src (h2.srcd.sub h3.sub) (fun e => (h2.none0 e).2) h2.le h4 h5 h6 (h7.mono hR)
def IntsOw (G : Atom) (s : Sl) (xs : List Int) : Prop := SlOw G 3 1 8 IntIn s xs
def StrsOw (G : Atom) (s : Sl) (xs : List ByteArray) : Prop := SlOw G 9 1 16 StrIn s xs
def ParsOw (G : Atom) (s : Sl) (xs : List (ByteArray × ByteArray)) : Prop := SlOw G 115 2 32 ParIn s xs
theorem IntsOw.mono {A B : Atom} {s : Sl} {xs : List Int} (hs : SubO A B) (h : IntsOw A s xs) : IntsOw B s xs := SlOw.mono hs (fun _ _ h => h) h
theorem StrsOw.mono {A B : Atom} {s : Sl} {xs : List ByteArray} (hs : SubO A B) (h : StrsOw A s xs) : StrsOw B s xs := SlOw.mono hs (fun _ _ h => h) h
theorem ParsOw.mono {A B : Atom} {s : Sl} {xs : List (ByteArray × ByteArray)} (hs : SubO A B) (h : ParsOw A s xs) : ParsOw B s xs := SlOw.mono hs (fun _ _ h => h) h
def StOw (G : Atom) (r : List Value) (c : StD) : Prop := ∃ vk ve vx vt vd vi vp, r = stA c vk ve vx vt vd vi vp ∧ IntsOw G vk c.kids ∧ IntsOw G ve c.entry ∧ IntsOw G vx c.exit ∧ IntsOw G vt c.trans ∧ IntsOw G vd c.data ∧ IntsOw G vi c.invs ∧ ParsOw G vp c.done.params
def TrOw (G : Atom) (r : List Value) (c : TrD) : Prop := ∃ ve vt, r = trA c ve vt ∧ StrsOw G ve c.events ∧ IntsOw G vt c.targets
def actA (c : ActD) (vc vb vp : Sl) : List Value := [.int .i64 c.kind, .string c.s1, .string c.s2, .string c.s3, .string c.s4, .string c.s5, .string c.s6, .string c.s7, .int .i64 c.delay, .string c.s9, .string c.s10, .string c.s11, .string c.s12, .string c.s13, .slice vc.a vc.n vc.cap, .slice vb.a vb.n vb.cap, .int .i64 c.load.kind, .slice vp.a vp.n vp.cap, .string c.load.body]
def ActOw (G : Atom) (r : List Value) (c : ActD) : Prop := ∃ vc vb vp, r = actA c vc vb vp ∧ StrsOw G vc c.conds ∧ IntsOw G vb c.blocks ∧ ParsOw G vp c.load.params
def BlkOw (G : Atom) (r : List Value) (c : List ActD) : Prop := ∃ s : Sl, r = [.slice s.a s.n s.cap] ∧ SlOw G 96 19 304 (ActOw G) s c
def invA (c : InvD) (vp : Sl) : List Value := [.string c.id, .string c.place, .int .i64 c.chart, .bool c.auto, .int .i64 c.load.kind, .slice vp.a vp.n vp.cap, .string c.load.body, .int .i64 c.fin]
def InvOw (G : Atom) (r : List Value) (c : InvD) : Prop := ∃ vp, r = invA c vp ∧ ParsOw G vp c.load.params
theorem StOw.mono {A B : Atom} (hs : SubO A B) {r : List Value} {c : StD} (h : StOw A r c) : StOw B r c := by
  obtain ⟨vk, ve, vx, vt, vd, vi, vp, e, h1, h2, h3, h4, h5, h6, h7⟩ := h
  exact ⟨vk, ve, vx, vt, vd, vi, vp, e, h1.mono hs, h2.mono hs, h3.mono hs, h4.mono hs, h5.mono hs, h6.mono hs, h7.mono hs⟩
theorem TrOw.mono {A B : Atom} (hs : SubO A B) {r : List Value} {c : TrD} (h : TrOw A r c) : TrOw B r c := by
  obtain ⟨ve, vt, e, h1, h2⟩ := h
  exact ⟨ve, vt, e, h1.mono hs, h2.mono hs⟩
theorem ActOw.mono {A B : Atom} (hs : SubO A B) {r : List Value} {c : ActD} (h : ActOw A r c) : ActOw B r c := by
  obtain ⟨vc, vb, vp, e, h1, h2, h3⟩ := h
  exact ⟨vc, vb, vp, e, h1.mono hs, h2.mono hs, h3.mono hs⟩
theorem BlkOw.mono {A B : Atom} (hs : SubO A B) {r : List Value} {c : List ActD} (h : BlkOw A r c) : BlkOw B r c := by
  obtain ⟨s, e, h1⟩ := h
  exact ⟨s, e, h1.mono hs fun _ _ h => h.mono hs⟩
theorem InvOw.mono {A B : Atom} (hs : SubO A B) {r : List Value} {c : InvD} (h : InvOw A r c) : InvOw B r c := by
  obtain ⟨vp, e, h1⟩ := h
  exact ⟨vp, e, h1.mono hs⟩
theorem IntsOw.in {G : Atom} {s : Sl} {xs : List Int} (h : IntsOw G s xs) : IntsIn G (.slice s.a s.n s.cap) xs := SlOw.in (fun _ _ h => h) h
theorem StrsOw.in {G : Atom} {s : Sl} {xs : List ByteArray} (h : StrsOw G s xs) : StrsIn G (.slice s.a s.n s.cap) xs := SlOw.in (fun _ _ h => h) h
theorem ParsOw.in {G : Atom} {s : Sl} {xs : List (ByteArray × ByteArray)} (h : ParsOw G s xs) : ParsIn G (.slice s.a s.n s.cap) xs := SlOw.in (fun _ _ h => h) h
theorem StOw.in {G : Atom} {r : List Value} {c : StD} (h : StOw G r c) : StIn G r c := by
  obtain ⟨vk, ve, vx, vt, vd, vi, vp, e, h1, h2, h3, h4, h5, h6, h7⟩ := h
  exact ⟨_, _, _, _, _, _, _, e, h1.in, h2.in, h3.in, h4.in, h5.in, h6.in, h7.in⟩
theorem TrOw.in {G : Atom} {r : List Value} {c : TrD} (h : TrOw G r c) : TrIn G r c := by
  obtain ⟨ve, vt, e, h1, h2⟩ := h
  exact ⟨_, _, e, h1.in, h2.in⟩
theorem ActOw.in {G : Atom} {r : List Value} {c : ActD} (h : ActOw G r c) : ActIn G r c := by
  obtain ⟨vc, vb, vp, e, h1, h2, h3⟩ := h
  exact ⟨_, _, _, e, h1.in, h2.in, h3.in⟩
theorem BlkOw.in {G : Atom} {r : List Value} {c : List ActD} (h : BlkOw G r c) : BlkIn G r c := by
  obtain ⟨s, e, h1⟩ := h
  exact ⟨_, e, h1.in fun _ _ h => h.in⟩
theorem InvOw.in {G : Atom} {r : List Value} {c : InvD} (h : InvOw G r c) : InvIn G r c := by
  obtain ⟨vp, e, h1⟩ := h
  exact ⟨_, e, h1.in⟩
structure ChOw (G : Atom) (w : ChS) (c : ChD) : Prop where
  sts : SlOw G 61 13 232 (StOw G) w.vs c.sts
  trs : SlOw G 76 6 88 (TrOw G) w.vt c.trs
  blks : SlOw G 93 1 24 (BlkOw G) w.vb c.blks
  data : SlOw G 98 3 48 DatIn w.vd c.data
  invs : SlOw G 101 8 104 (InvOw G) w.vi c.invs
def ChS.v (w : ChS) : ChV := ⟨.slice w.vs.a w.vs.n w.vs.cap, .slice w.vt.a w.vt.n w.vt.cap, .slice w.vb.a w.vb.n w.vb.cap, .slice w.vd.a w.vd.n w.vd.cap, .slice w.vi.a w.vi.n w.vi.cap⟩
theorem ChOw.mono {A B : Atom} (hs : SubO A B) {w : ChS} {c : ChD} (h : ChOw A w c) : ChOw B w c :=
  ⟨h.sts.mono hs fun _ _ h => h.mono hs, h.trs.mono hs fun _ _ h => h.mono hs, h.blks.mono hs fun _ _ h => h.mono hs, h.data.mono hs fun _ _ h => h, h.invs.mono hs fun _ _ h => h.mono hs⟩
theorem ChOw.in {G : Atom} {w : ChS} {c : ChD} (h : ChOw G w c) : ChIn G w.v c :=
  ⟨h.sts.in fun _ _ h => h.in, h.trs.in fun _ _ h => h.in, h.blks.in fun _ _ h => h.in, h.data.in fun _ _ h => h, h.invs.in fun _ _ h => h.in⟩
/-- A clone's source. -/
theorem All2.mem {α β : Type} {R : α → β → Prop} : ∀ {l : List α} {m : List β}, All2 R l m → ∀ a ∈ l, ∃ b, R a b
  | [], [], _, a, h => by simp at h
  | [], _ :: _, h, _, _ => h.elim
  | _ :: _, [], h, _, _ => h.elim
  | x :: l, y :: m, h, a, ha => by
    rcases List.mem_cons.1 ha with rfl | ha
    · exact ⟨y, h.1⟩
    · exact All2.mem h.2 a ha
theorem SlIn.cln {α : Type} {F : Atom} {R : List Value → α → Prop} {k Bw : Nat} {a : Option Addr} {n cap : Nat} {xs : List α} (h : SlIn F R k Bw (.slice a n cap) xs) (h1 : ∀ r x, R r x → ∀ u ∈ r, u.oneCell' = true) :
    ∃ raw : List (List Value), raw.length = n ∧ (∀ r ∈ raw, r.length = k) ∧ All2 R raw xs ∧ n * Bw ≤ 140737488351232 ∧ (IsSrc k raw.flatten a n ∧ (∀ u ∈ raw.flatten, u.oneCell' = true) ∧ n * Bw ≤ 140737488351232 ∧ (a = none → cap = 0)) ∧ Srcd F a raw.flatten := by
  obtain ⟨a', n', cap', raw, e, h2, h3, h4, h5, h6, h7, h8, h9⟩ := h
  simp only [Value.slice.injEq] at e
  obtain ⟨rfl, rfl, rfl⟩ := e
  refine ⟨raw, h7, h8, h9, h6, ⟨h2, fun u hu => ?_, h6, h4⟩, h3⟩
  obtain ⟨r, hr, hu⟩ := List.mem_flatten.1 hu
  obtain ⟨x, hx⟩ := h9.mem r hr
  exact h1 r x hx u hu
theorem int1 (r : List Value) (x : Int) (h : IntIn r x) : ∀ u ∈ r, u.oneCell' = true := by subst h; simp [Value.oneCell']
theorem str1 (r : List Value) (x : ByteArray) (h : StrIn r x) : ∀ u ∈ r, u.oneCell' = true := by subst h; simp [Value.oneCell']
theorem par1 (r : List Value) (x : ByteArray × ByteArray) (h : ParIn r x) : ∀ u ∈ r, u.oneCell' = true := by subst h; simp [Value.oneCell']
theorem dat1 (r : List Value) (x : DatD) (h : DatIn r x) : ∀ u ∈ r, u.oneCell' = true := by subst h; simp [Value.oneCell']
theorem SlIn.one {α : Type} {F : Atom} {R : List Value → α → Prop} {k Bw : Nat} {v : Value} {xs : List α} (h : SlIn F R k Bw v xs) : v.oneCell' = true := by
  obtain ⟨a', n', cap', raw, rfl, h2⟩ := h; rfl
theorem st1 {F : Atom} (r : List Value) (x : StD) (h : StIn F r x) : ∀ u ∈ r, u.oneCell' = true := by
  obtain ⟨vk, ve, vx, vt, vd, vi, vp, rfl, h1, h2, h3, h4, h5, h6, h7⟩ := h
  have := SlIn.one h1; have := SlIn.one h2; have := SlIn.one h3; have := SlIn.one h4; have := SlIn.one h5; have := SlIn.one h6; have := SlIn.one h7
  simp [Value.oneCell', *] at *
  simp [*]
theorem tr1 {F : Atom} (r : List Value) (x : TrD) (h : TrIn F r x) : ∀ u ∈ r, u.oneCell' = true := by
  obtain ⟨ve, vt, rfl, h1, h2⟩ := h
  have := SlIn.one h1; have := SlIn.one h2
  simp [Value.oneCell', *] at *
  simp [*]
theorem act1 {F : Atom} (r : List Value) (x : ActD) (h : ActIn F r x) : ∀ u ∈ r, u.oneCell' = true := by
  obtain ⟨ve, vt, vp, rfl, h1, h2, h3⟩ := h
  have := SlIn.one h1; have := SlIn.one h2; have := SlIn.one h3
  simp [Value.oneCell', *] at *
  simp [*]
theorem blk1 {F : Atom} (r : List Value) (x : List ActD) (h : BlkIn F r x) : ∀ u ∈ r, u.oneCell' = true := by
  obtain ⟨v, rfl, h1⟩ := h
  have := SlIn.one h1
  simp [*]
theorem inv1 {F : Atom} (r : List Value) (x : InvD) (h : InvIn F r x) : ∀ u ∈ r, u.oneCell' = true := by
  obtain ⟨v, rfl, h1⟩ := h
  have := SlIn.one h1
  simp [Value.oneCell', *] at *
  simp [*]
/-- The first k rows are of one kind, the others of another. -/
structure Mx {α : Type} (P Q : List Value → α → Prop) (w k : Nat) (raw : List (List Value)) (xs : List α) : Prop where
  len : raw.length = xs.length
  wid : ∀ r ∈ raw, r.length = w
  one : ∀ u ∈ raw.flatten, u.oneCell' = true
  lo : ∀ i r x, i < k → raw[i]? = some r → xs[i]? = some x → P r x
  hi : ∀ i r x, k ≤ i → raw[i]? = some r → xs[i]? = some x → Q r x
theorem All2.at {α β : Type} {R : α → β → Prop} {l : List α} {m : List β} (h : All2 R l m) {i : Nat} {a : α} {b : β} (ha : l[i]? = some a) (hb : m[i]? = some b) : R a b := by
  obtain ⟨a', h1, h2⟩ := h.get i b hb
  rw [ha] at h1; cases h1; exact h2
theorem All2.of {α β : Type} {R : α → β → Prop} : ∀ {l : List α} {m : List β}, l.length = m.length → (∀ (i : Nat) a b, l[i]? = some a → m[i]? = some b → R a b) → All2 R l m
  | [], [], _, _ => trivial
  | [], _ :: _, h, _ => by simp at h
  | _ :: _, [], h, _ => by simp at h
  | a :: l, b :: m, h, h' => ⟨h' 0 a b rfl rfl, All2.of (by simpa using h) fun i x y hx hy => h' (i + 1) x y (by simpa using hx) (by simpa using hy)⟩
theorem Mx.start {α : Type} {P Q : List Value → α → Prop} {w : Nat} {raw : List (List Value)} {xs : List α} (h1 : ∀ r ∈ raw, r.length = w) (h2 : ∀ u ∈ raw.flatten, u.oneCell' = true) (h : All2 Q raw xs) : Mx P Q w 0 raw xs :=
  ⟨h.len, h1, h2, fun i r x hi => absurd hi (Nat.not_lt_zero i), fun i r x _ hr hx => h.at hr hx⟩
theorem Mx.all {α : Type} {P Q : List Value → α → Prop} {w k : Nat} {raw : List (List Value)} {xs : List α} (h : Mx P Q w k raw xs) (hk : xs.length ≤ k) : All2 P raw xs :=
  All2.of h.len fun i a b ha hb => h.lo i a b (by have := (List.getElem?_eq_some_iff.1 hb).1; omega) ha hb
theorem Mx.mono {α : Type} {P P' Q : List Value → α → Prop} {w k : Nat} {raw : List (List Value)} {xs : List α} (hP : ∀ r x, P r x → P' r x) (h : Mx P Q w k raw xs) : Mx P' Q w k raw xs :=
  ⟨h.len, h.wid, h.one, fun i r x hi hr hx => hP _ _ (h.lo i r x hi hr hx), h.hi⟩
theorem mem_set' {α : Type} {l : List α} {i : Nat} {a b : α} (h : b ∈ l.set i a) : b ∈ l ∨ b = a := List.mem_or_eq_of_mem_set h
theorem Mx.step {α : Type} {P P' Q : List Value → α → Prop} {w k : Nat} {raw : List (List Value)} {xs : List α} {row : List Value} {x : α} (h : Mx P Q w k raw xs) (hP : ∀ r x, P r x → P' r x) (hx : xs[k]? = some x) (hw : row.length = w) (h1 : ∀ u ∈ row, u.oneCell' = true) (hr : P' row x) : Mx P' Q w (k + 1) (raw.set k row) xs := by
  have hk : k < raw.length := by have := (List.getElem?_eq_some_iff.1 hx).1; rw [h.len]; exact this
  refine ⟨by rw [List.length_set]; exact h.len, fun r hr => ?_, fun u hu => ?_, fun i r y hi hr' hy => ?_, fun i r y hi hr' hy => ?_⟩
  · rcases mem_set' hr with hr | rfl
    · exact h.wid r hr
    · exact hw
  · obtain ⟨r, hr, hu'⟩ := List.mem_flatten.1 hu
    rcases mem_set' hr with hr | hr
    · exact h.one u (List.mem_flatten.2 ⟨r, hr, hu'⟩)
    · subst hr; exact h1 u hu'
  · by_cases e : i = k
    · subst e
      rw [List.getElem?_set_self hk] at hr'
      cases hr'
      rw [hx] at hy; cases hy
      exact hr
    · rw [List.getElem?_set_ne (by omega)] at hr'
      exact hP _ _ (h.lo i r y (by omega) hr' hy)
  · rw [List.getElem?_set_ne (by omega)] at hr'
    exact h.hi i r y (by omega) hr' hy
/-- Cells of a row that are written over. -/
def wrs (i k : Nat) (l : List Value) (ws : List (Nat × Value)) : List Value := ws.foldl (fun l w => l.set (i * k + w.1) w.2) l
def wr1 (r : List Value) (ws : List (Nat × Value)) : List Value := ws.foldl (fun l w => l.set w.1 w.2) r
theorem flatten_set {k : Nat} {v : Value} : ∀ {raw : List (List Value)}, (∀ r ∈ raw, r.length = k) → ∀ (i j : Nat) (r : List Value), raw[i]? = some r → j < k → raw.flatten.set (i * k + j) v = (raw.set i (r.set j v)).flatten
  | [], _, i, j, r, h, _ => by simp at h
  | a :: l, hk, 0, j, r, h, hj => by
    simp only [List.getElem?_cons_zero, Option.some.injEq] at h
    subst h
    have ha : a.length = k := hk a (List.mem_cons_self ..)
    rw [List.flatten_cons, Nat.zero_mul, Nat.zero_add, List.set_append_left _ _ (by omega)]
    rfl
  | a :: l, hk, i + 1, j, r, h, hj => by
    have ha : a.length = k := hk a (List.mem_cons_self ..)
    rw [List.flatten_cons, Nat.succ_mul, List.set_append_right _ _ (by omega)]
    have : i * k + k + j - a.length = i * k + j := by omega
    rw [this, flatten_set (fun x hx => hk x (List.mem_cons_of_mem _ hx)) i j r (by simpa using h) hj]
    rfl
theorem sets_row {k i : Nat} {sp : List Value} : ∀ (ws : List (Nat × Value)) {raw : List (List Value)} {r : List Value}, (∀ r ∈ raw, r.length = k) → raw[i]? = some r → (∀ w ∈ ws, w.1 < k) → wrs i k (raw.flatten ++ sp) ws = (raw.set i (wr1 r ws)).flatten ++ sp
  | [], raw, r, hk, hr, _ => by
    show raw.flatten ++ sp = (raw.set i r).flatten ++ sp
    have : raw.set i r = raw := by
      obtain ⟨h1, rfl⟩ := List.getElem?_eq_some_iff.1 hr
      exact List.set_getElem_self h1
    rw [this]
  | w :: ws, raw, r, hk, hr, hw => by
    have hi := (List.getElem?_eq_some_iff.1 hr).1
    have hrk : r.length = k := hk r (List.mem_of_getElem? hr)
    have hlt : i * k + w.1 < raw.flatten.length := by
      rw [flatten_len hk]
      have h1 := hw w (List.mem_cons_self ..)
      have : (i + 1) * k ≤ raw.length * k := Nat.mul_le_mul_right k hi
      rw [Nat.succ_mul] at this
      omega
    show wrs i k ((raw.flatten ++ sp).set (i * k + w.1) w.2) ws = _
    rw [List.set_append_left _ _ hlt, flatten_set hk i w.1 r hr (hw w (List.mem_cons_self ..))]
    rw [sets_row ws (r := r.set w.1 w.2) (fun x hx => by
      rcases mem_set' hx with hx | rfl
      · exact hk x hx
      · rw [List.length_set]; exact hrk) (List.getElem?_set_self hi) (fun x hx => hw x (List.mem_cons_of_mem _ hx)), List.set_set]
    rfl
theorem sets_get {k i : Nat} {sp : List Value} (ws : List (Nat × Value)) {raw : List (List Value)} {r : List Value} (hk : ∀ r ∈ raw, r.length = k) (hr : raw[i]? = some r) (hw : ∀ w ∈ ws, w.1 < k) (j : Nat) (u : Value) (hu : (wr1 r ws)[j]? = some u) : (wrs i k (raw.flatten ++ sp) ws)[i * k + j]? = some u := by
  rw [sets_row ws hk hr hw]
  have hi := (List.getElem?_eq_some_iff.1 hr).1
  have hl : (wr1 r ws).length = k := by
    have : ∀ (ws : List (Nat × Value)) (r : List Value), (wr1 r ws).length = r.length := by
      intro ws
      induction ws with
      | nil => intro r; rfl
      | cons w ws ih => intro r; show (wr1 (r.set w.1 w.2) ws).length = _; rw [ih, List.length_set]
    rw [this]; exact hk r (List.mem_of_getElem? hr)
  have hk' : ∀ x ∈ raw.set i (wr1 r ws), x.length = k := fun x hx => by
    rcases mem_set' hx with hx | rfl
    · exact hk x hx
    · exact hl
  have h1 := flatten_get hk' i j _ u (List.getElem?_set_self hi) hu
  rw [List.getElem?_append_left (List.getElem?_eq_some_iff.1 h1).1]
  exact h1
theorem sets_len {k i : Nat} {l : List Value} (ws : List (Nat × Value)) : (wrs i k l ws).length = l.length := by
  induction ws generalizing l with
  | nil => rfl
  | cons w ws ih => show (wrs i k (l.set _ _) ws).length = _; rw [ih, List.length_set]
theorem row_cells {k n cap : Nat} {raw : List (List Value)} {sp : List Value} (hk : ∀ r ∈ raw, r.length = k) (hn : raw.length = n) (hs : (raw.flatten ++ sp).length = cap * k) (hle : n ≤ cap) (e b : Nat) : IsRow e k raw.flatten ⟨some ⟨b, 0, none⟩, n, cap, .cells b (raw.flatten ++ sp) e⟩ := .blk b n cap sp (by rw [flatten_len hk, hn]) hs hle
end Go.Proofs.Ytkmdgnbfojkcnaa
