/- The document's answers about a chart, part 5: begun, Right. -/
import Derived.Test.YtfmadkaiigiaiaaLatY
set_option linter.all false
namespace Go.Proofs.Ytfmadkaiigiaiaa
open Go
set_option maxHeartbeats 1000000
theorem ChIn.trsAt {F : Atom} {w : ChS} {c : ChD} (h : ChIn F w.v c) {i : Nat} {t : TrD} (ht : c.trs[i]? = some t) : ∃ b o r, w.vt.a = some ⟨b, o, none⟩ ∧ TrIn F r t ∧ ∀ j u, r[j]? = some u → Look F ⟨b, o + i * 6 + j, none⟩ u := by
  have h1 : SlIn F (TrIn F) 6 88 (.slice w.vt.a w.vt.n w.vt.cap) c.trs := h.trs
  exact h1.at' ht
theorem ChIn.numT {F : Atom} {w : ChS} {c : ChD} (h : ChIn F w.v c) : w.vt.n = c.trs.length ∧ w.vt.n * 88 ≤ 140737488351232 := by
  have h1 : SlIn F (TrIn F) 6 88 (.slice w.vt.a w.vt.n w.vt.cap) c.trs := h.trs
  exact ⟨h1.num.1, h1.num.2.2⟩
theorem br_f {t : Bool} {A B : Prop} (h : t = false) (b : B) : Br t A B := br_intro (fun e => by rw [h] at e; cases e) (fun _ => b)
structure RbX where
  c : ChD
  w : ChS
  i : Nat
  s : StD
def rBeC : Con where
  X := RbX
  Y := Unit
  args x := [chAgg x.c x.w, .int .i64 x.i]
  pre _ := []
  cond x := Placed x.c ∧ x.c.sts[x.i]? = some x.s ∧ TgtOk x.c
  rdc x F := ChIn F x.w.v x.c
  rel _ _ := True
  val x _ := .returned (.bool (initB x.c x.i x.s))
  post _ _ := []
  rmono _ _ _ h hk := hk.sub h
structure RbI where
  b : Nat
  b2 : Nat
  k : Nat
  tl : Sl
  l : List Int
  vk : Sl
  ve : Sl
  vx : Sl
  vt : Sl
  vd : Sl
  vi : Sl
  vp : Sl
def RbI.st (x : RbX) (F : Atom) (i : RbI) : List Atom := [F, .cells i.b (chS x.c x.w) 28, .cells i.b2 (stA x.s i.vk i.ve i.vx i.vt i.vd i.vi i.vp) 61]
def rBeInv (x : RbX) (F : Atom) : Nat → Option Inv := fun
  | 0 => some { X := RbI, P := fun i => (decide (x.s.kind ≥ 4) || coB x.c x.i) = true ∧ i.k ≤ i.l.length ∧ IntsIn F (.slice i.tl.a i.tl.n i.tl.cap) i.l ∧ (∀ u ∈ i.l, isS x.c u = true) ∧ initB x.c x.i x.s = !((i.l.drop i.k).any (badT x.c x.i x.s (decide (x.s.kind ≥ 4)))), mu := fun i => i.l.length - i.k, lv := fun i => [(1, .int .i64 x.i), (2, .pointer (some ⟨i.b, 0, none⟩)), (5, .pointer (some ⟨i.b2, 0, none⟩)), (6, .slice i.tl.a i.tl.n i.tl.cap), (7, .int .i64 i.k)], st := fun i => i.st x F }
  | _ => none
def rBeCut (x : RbX) (F : Atom) : Nat → Option Inv := fun
  | 4 => some { X := RbI, P := fun _ => (decide (x.s.kind ≥ 4) || coB x.c x.i) = true, mu := fun _ => 0, lv := fun i => [(1, .int .i64 x.i), (2, .pointer (some ⟨i.b, 0, none⟩)), (5, .pointer (some ⟨i.b2, 0, none⟩))], st := fun i => i.st x F }
  | _ => none
def rBeOv (_x : RbX) (_F : Atom) : List (Nat × Nat × OH) := [(0, 0, .n 1000), (1, 1, .q [.atj 1000]), (1, 3, .qo (ixQ 13)), (1, 4, .q sh13), (1, 5, .n 2050), (1, 6, .w (at13 2050)), (2, 1, .q [.atj 2050]), (2, 4, .q (at8 1000)), (2, 6, .c rCoC [] []), (3, 1, .q [.atj 2050]), (4, 1, .q [.atj 2]), (4, 5, .q [.atj 2]), (4, 7, .q [.atj 1]), (4, 13, .q [.atj 1]), (4, 15, .q [.atj 2]), (4, 16, .qo (ixQ 6)), (4, 18, .q [.ex 0 (.int .i64)]), (4, 24, .q [.atj 1]), (4, 26, .q [.atj 2]), (4, 27, .qo (ixQ 6)), (4, 29, .q [.ex 0 .slice]), (6, 1, .q [.atj 1]), (6, 3, .q [.atj 2]), (6, 4, .qo (ixQ 6)), (6, 6, .q [.ex 0 .slice]),
  (10, 1, .q [.atj 1]), (10, 4, .qo (ixQ 1)), (10, 5, .q [.ex 0 (.int .i64)]), (10, 6, .qo (ixQ 13)), (10, 8, .q [.ex 0 (.int .i64)]),
  (11, 1, .q [.atj 2]), (11, 4, .q (at8 1)), (11, 7, .qo (ixQ 1)), (11, 8, .q [.ex 0 (.int .i64)]), (11, 10, .c rInC [] []), (11, 15, .q [.atj 2]), (11, 21, .q [.atj 1]), (11, 24, .qo (ixQ 1)), (11, 25, .q [.ex 0 (.int .i64)]), (11, 26, .qo (ixQ 13)), (11, 28, .q [.ex 0 (.int .i64)]), (11, 30, .q [.atj 2]), (11, 38, .q [.atj 2]), (11, 43, .q (at8 1)), (11, 46, .qo (ixQ 1)), (11, 47, .q [.ex 0 (.int .i64)]), (11, 49, .q [.atj 2]), (11, 50, .c rInC [] [])]
noncomputable def rbe_H (x : Con.X rBeC) (F : Atom) : Hints where
  op := hk ((rBeOv x F) ++ [])
  inv := rBeInv x F
  cut := rBeCut x F
  ord := (fun _ => [])
open Go.Value (int slice string bool pointer agg tuple func) in
open Go.IntKind (i64) in
set_option maxRecDepth 100000 in
theorem rbe_vc (x : RbX) (F : Atom) (hc : Con.cond rBeC x) (hr : Con.rdc rBeC x F) :
  ∀ (b : Nat),
 Same ⟨b, 3, none⟩ b ∧
 QOpOk Try.prog (opIn Try.f46 1 3) (ixQ 13) ∧
 ∃ (x_1 : IxQX),
 [slice x.w.vs.a x.w.vs.n x.w.vs.cap, int i64 (↑x.i : Int)] = [slice (some ⟨x_1.b, x_1.o, none⟩) x_1.len x_1.cap, int i64 x_1.n] ∧
 ((0 : Int) ≤ x_1.n ∧ x_1.n < (↑x_1.len : Int)) ∧
 ∃ (s : ByteArray),
 Look F ⟨x_1.b, x_1.o + x_1.n.toNat * 13, none⟩ (string s) ∧
 ∃ (n : Int),
 Look F ⟨x_1.b, x_1.o + x_1.n.toNat * 13 + 1, none⟩ (int i64 n) ∧
 ∃ (n_1 : Int),
 Look F ⟨x_1.b, x_1.o + x_1.n.toNat * 13 + 2, none⟩ (int i64 n_1) ∧
 ∃ (a : Option Addr),
 ∃ (l : Nat),
 ∃ (c : Nat),
 Look F ⟨x_1.b, x_1.o + x_1.n.toNat * 13 + 3, none⟩ (slice a l c) ∧
 ∃ (n_2 : Int),
 Look F ⟨x_1.b, x_1.o + x_1.n.toNat * 13 + 4, none⟩ (int i64 n_2) ∧
 ∃ (a_1 : Option Addr),
 ∃ (l_1 : Nat),
 ∃ (c_1 : Nat),
 Look F ⟨x_1.b, x_1.o + x_1.n.toNat * 13 + 5, none⟩ (slice a_1 l_1 c_1) ∧
 ∃ (a_2 : Option Addr),
 ∃ (l_2 : Nat),
 ∃ (c_2 : Nat),
 Look F ⟨x_1.b, x_1.o + x_1.n.toNat * 13 + 6, none⟩ (slice a_2 l_2 c_2) ∧
 ∃ (a_3 : Option Addr),
 ∃ (l_3 : Nat),
 ∃ (c_3 : Nat),
 Look F ⟨x_1.b, x_1.o + x_1.n.toNat * 13 + 7, none⟩ (slice a_3 l_3 c_3) ∧
 ∃ (a_4 : Option Addr),
 ∃ (l_4 : Nat),
 ∃ (c_4 : Nat),
 Look F ⟨x_1.b, x_1.o + x_1.n.toNat * 13 + 8, none⟩ (slice a_4 l_4 c_4) ∧
 ∃ (a_5 : Option Addr),
 ∃ (l_5 : Nat),
 ∃ (c_5 : Nat),
 Look F ⟨x_1.b, x_1.o + x_1.n.toNat * 13 + 9, none⟩ (slice a_5 l_5 c_5) ∧
 ∃ (n_3 : Int),
 Look F ⟨x_1.b, x_1.o + x_1.n.toNat * 13 + 10, none⟩ (int i64 n_3) ∧
 ∃ (a_6 : Option Addr),
 ∃ (l_6 : Nat),
 ∃ (c_6 : Nat),
 Look F ⟨x_1.b, x_1.o + x_1.n.toNat * 13 + 11, none⟩ (slice a_6 l_6 c_6) ∧
 ∃ (s_1 : ByteArray),
 Look F ⟨x_1.b, x_1.o + x_1.n.toNat * 13 + 12, none⟩ (string s_1) ∧
 ∀ (b_1 : Nat),
 Same ⟨b_1, 0, none⟩ b_1 ∧
 Same ⟨b_1, 1, none⟩ b_1 ∧
 Same ⟨b_1, 2, none⟩ b_1 ∧
 Same ⟨b_1, 3, none⟩ b_1 ∧
 Same ⟨b_1, 4, none⟩ b_1 ∧
 Same ⟨b_1, 5, none⟩ b_1 ∧
 Same ⟨b_1, 6, none⟩ b_1 ∧
 Same ⟨b_1, 7, none⟩ b_1 ∧
 Same ⟨b_1, 8, none⟩ b_1 ∧
 Same ⟨b_1, 9, none⟩ b_1 ∧
 Same ⟨b_1, 10, none⟩ b_1 ∧
 Same ⟨b_1, 11, none⟩ b_1 ∧
 Same ⟨b_1, 12, none⟩ b_1 ∧
 (Same ⟨b_1, 1, none⟩ b_1 ∧
 Br (decide (n < (4 : Int)))
 (Same ⟨b, 0, none⟩ b ∧
 Same ⟨b, 1, none⟩ b ∧
 Same ⟨b, 2, none⟩ b ∧
 Same ⟨b, 3, none⟩ b ∧
 Same ⟨b, 4, none⟩ b ∧
 Same ⟨b, 5, none⟩ b ∧
 Same ⟨b, 6, none⟩ b ∧
 Same ⟨b, 7, none⟩ b ∧
 FnOk Try.prog 20 rCoC ∧
 true = true ∧
 ∃ (x_2 : RfX),
 [agg { toList := (chS x.c x.w) }, int i64 (↑x.i : Int)] = [agg { toList := (chS x_2.c x_2.w) }, int i64 x_2.a] ∧
 ([] : List Atom) = [] ∧
 nS x_2.c ≤ 1000 ∧
 ChIn (Atom.pred (rest [(0, F), (1000, Atom.cells b (chS x.c x.w) 28), (2050, Atom.cells b_1 [string s, int i64 n, int i64 n_1, slice a l c, int i64 n_2, slice a_1 l_1 c_1, slice a_2 l_2 c_2, slice a_3 l_3 c_3, slice a_4 l_4 c_4, slice a_5 l_5 c_5, int i64 n_3, slice a_6 l_6 c_6, string s_1] 61)] [])) x_2.w.v x_2.c ∧
 ∀ (y : Unit),
 True →
 Br (!coB x_2.c x_2.a) (Same ⟨b_1, 4, none⟩ b_1 ∧ Done rBeC x F (Ending.returned (bool (n_2 == (-1 : Int)))) [(0, F), (1000, Atom.cells b (chS x.c x.w) 28), (2050, Atom.cells b_1 [string s, int i64 n, int i64 n_1, slice a l c, int i64 n_2, slice a_1 l_1 c_1, slice a_2 l_2 c_2, slice a_3 l_3 c_3, slice a_4 l_4 c_4, slice a_5 l_5 c_5, int i64 n_3, slice a_6 l_6 c_6, string s_1] 61)])
 (∃ (x_3 : RbI),
 (decide (x.s.kind ≥ (4 : Int)) || coB x.c (↑x.i : Int)) = true ∧
 (int i64 (↑x.i : Int) = int i64 (↑x.i : Int) ∧ pointer (some ⟨b, 0, none⟩) = pointer (some ⟨x_3.b, 0, none⟩) ∧ pointer (some ⟨b_1, 0, none⟩) = pointer (some ⟨x_3.b2, 0, none⟩) ∧ True) ∧
 Ent [(0, F), (1000, Atom.cells b (chS x.c x.w) 28), (2050, Atom.cells b_1 [string s, int i64 n, int i64 n_1, slice a l c, int i64 n_2, slice a_1 l_1 c_1, slice a_2 l_2 c_2, slice a_3 l_3 c_3, slice a_4 l_4 c_4, slice a_5 l_5 c_5, int i64 n_3, slice a_6 l_6 c_6, string s_1] 61)]
 [(0, F), (1, Atom.cells x_3.b (chS x.c x.w) 28),
 (2, Atom.cells x_3.b2 [string x.s.id, int i64 x.s.kind, int i64 x.s.parent, slice x_3.vk.a x_3.vk.n x_3.vk.cap, int i64 x.s.init, slice x_3.ve.a x_3.ve.n x_3.ve.cap, slice x_3.vx.a x_3.vx.n x_3.vx.cap, slice x_3.vt.a x_3.vt.n x_3.vt.cap, slice x_3.vd.a x_3.vd.n x_3.vd.cap, slice x_3.vi.a x_3.vi.n x_3.vi.cap, int i64 x.s.done.kind, slice x_3.vp.a x_3.vp.n x_3.vp.cap, string x.s.done.body] 61)]))
 (∃ (x_2 : RbI),
 (decide (x.s.kind ≥ (4 : Int)) || coB x.c (↑x.i : Int)) = true ∧
 (int i64 (↑x.i : Int) = int i64 (↑x.i : Int) ∧ pointer (some ⟨b, 0, none⟩) = pointer (some ⟨x_2.b, 0, none⟩) ∧ pointer (some ⟨b_1, 0, none⟩) = pointer (some ⟨x_2.b2, 0, none⟩) ∧ True) ∧
 Ent [(0, F), (1000, Atom.cells b (chS x.c x.w) 28), (2050, Atom.cells b_1 [string s, int i64 n, int i64 n_1, slice a l c, int i64 n_2, slice a_1 l_1 c_1, slice a_2 l_2 c_2, slice a_3 l_3 c_3, slice a_4 l_4 c_4, slice a_5 l_5 c_5, int i64 n_3, slice a_6 l_6 c_6, string s_1] 61)]
 [(0, F), (1, Atom.cells x_2.b (chS x.c x.w) 28),
 (2, Atom.cells x_2.b2 [string x.s.id, int i64 x.s.kind, int i64 x.s.parent, slice x_2.vk.a x_2.vk.n x_2.vk.cap, int i64 x.s.init, slice x_2.ve.a x_2.ve.n x_2.ve.cap, slice x_2.vx.a x_2.vx.n x_2.vx.cap, slice x_2.vt.a x_2.vt.n x_2.vt.cap, slice x_2.vd.a x_2.vd.n x_2.vd.cap, slice x_2.vi.a x_2.vi.n x_2.vi.cap, int i64 x.s.done.kind, slice x_2.vp.a x_2.vp.n x_2.vp.cap, string x.s.done.body] 61)])) ∧
 ∀ (x_2 : RbI) (js : Nat → Value),
 (decide (x.s.kind ≥ (4 : Int)) || coB x.c (↑x.i : Int)) = true →
 Same ⟨x_2.b2, 4, none⟩ x_2.b2 ∧
 Br (decide (x.s.init < (0 : Int)))
 (Done rBeC x F (Ending.returned (bool false))
 [(0, F), (1, Atom.cells x_2.b (chS x.c x.w) 28),
 (2, Atom.cells x_2.b2 [string x.s.id, int i64 x.s.kind, int i64 x.s.parent, slice x_2.vk.a x_2.vk.n x_2.vk.cap, int i64 x.s.init, slice x_2.ve.a x_2.ve.n x_2.ve.cap, slice x_2.vx.a x_2.vx.n x_2.vx.cap, slice x_2.vt.a x_2.vt.n x_2.vt.cap, slice x_2.vd.a x_2.vd.n x_2.vd.cap, slice x_2.vi.a x_2.vi.n x_2.vi.cap, int i64 x.s.done.kind, slice x_2.vp.a x_2.vp.n x_2.vp.cap, string x.s.done.body] 61)])
 (Same ⟨x_2.b2, 4, none⟩ x_2.b2 ∧
 Same ⟨x_2.b, 4, none⟩ x_2.b ∧
 Br (decide (x.s.init ≥ (↑x.w.vt.n : Int)))
 (Done rBeC x F (Ending.returned (bool false))
 [(0, F), (1, Atom.cells x_2.b (chS x.c x.w) 28),
 (2, Atom.cells x_2.b2 [string x.s.id, int i64 x.s.kind, int i64 x.s.parent, slice x_2.vk.a x_2.vk.n x_2.vk.cap, int i64 x.s.init, slice x_2.ve.a x_2.ve.n x_2.ve.cap, slice x_2.vx.a x_2.vx.n x_2.vx.cap, slice x_2.vt.a x_2.vt.n x_2.vt.cap, slice x_2.vd.a x_2.vd.n x_2.vd.cap, slice x_2.vi.a x_2.vi.n x_2.vi.cap, int i64 x.s.done.kind, slice x_2.vp.a x_2.vp.n x_2.vp.cap, string x.s.done.body] 61)])
 (Same ⟨x_2.b, 4, none⟩ x_2.b ∧
 Same ⟨x_2.b2, 4, none⟩ x_2.b2 ∧
 QOpOk Try.prog (opIn Try.f46 4 16) (ixQ 6) ∧
 ∃ (x_3 : IxQX),
 [slice x.w.vt.a x.w.vt.n x.w.vt.cap, int i64 x.s.init] = [slice (some ⟨x_3.b, x_3.o, none⟩) x_3.len x_3.cap, int i64 x_3.n] ∧
 ((0 : Int) ≤ x_3.n ∧ x_3.n < (↑x_3.len : Int)) ∧
 ∃ (n : Int),
 Look F ⟨x_3.b, x_3.o + x_3.n.toNat * 6, none⟩ (int i64 n) ∧
 Br (n != (↑x.i : Int))
 (Done rBeC x F (Ending.returned (bool false))
 [(0, F), (1, Atom.cells x_2.b (chS x.c x.w) 28),
 (2, Atom.cells x_2.b2 [string x.s.id, int i64 x.s.kind, int i64 x.s.parent, slice x_2.vk.a x_2.vk.n x_2.vk.cap, int i64 x.s.init, slice x_2.ve.a x_2.ve.n x_2.ve.cap, slice x_2.vx.a x_2.vx.n x_2.vx.cap, slice x_2.vt.a x_2.vt.n x_2.vt.cap, slice x_2.vd.a x_2.vd.n x_2.vd.cap, slice x_2.vi.a x_2.vi.n x_2.vi.cap, int i64 x.s.done.kind, slice x_2.vp.a x_2.vp.n x_2.vp.cap, string x.s.done.body] 61)])
 (Same ⟨x_2.b, 4, none⟩ x_2.b ∧
 Same ⟨x_2.b2, 4, none⟩ x_2.b2 ∧
 QOpOk Try.prog (opIn Try.f46 4 27) (ixQ 6) ∧
 ∃ (x_4 : IxQX),
 [slice x.w.vt.a x.w.vt.n x.w.vt.cap, int i64 x.s.init] = [slice (some ⟨x_4.b, x_4.o, none⟩) x_4.len x_4.cap, int i64 x_4.n] ∧
 ((0 : Int) ≤ x_4.n ∧ x_4.n < (↑x_4.len : Int)) ∧
 ∃ (a : Option Addr),
 ∃ (l : Nat),
 ∃ (c : Nat),
 Look F ⟨x_4.b, x_4.o + x_4.n.toNat * 6 + 3, none⟩ (slice a l c) ∧
 Br ((↑l : Int) == (0 : Int))
 (Done rBeC x F (Ending.returned (bool false))
 [(0, F), (1, Atom.cells x_2.b (chS x.c x.w) 28),
 (2, Atom.cells x_2.b2 [string x.s.id, int i64 x.s.kind, int i64 x.s.parent, slice x_2.vk.a x_2.vk.n x_2.vk.cap, int i64 x.s.init, slice x_2.ve.a x_2.ve.n x_2.ve.cap, slice x_2.vx.a x_2.vx.n x_2.vx.cap, slice x_2.vt.a x_2.vt.n x_2.vt.cap, slice x_2.vd.a x_2.vd.n x_2.vd.cap, slice x_2.vi.a x_2.vi.n x_2.vi.cap, int i64 x.s.done.kind, slice x_2.vp.a x_2.vp.n x_2.vp.cap, string x.s.done.body] 61)])
 (Same ⟨x_2.b, 4, none⟩ x_2.b ∧
 Same ⟨x_2.b2, 4, none⟩ x_2.b2 ∧
 QOpOk Try.prog (opIn Try.f46 6 4) (ixQ 6) ∧
 ∃ (x_5 : IxQX),
 [slice x.w.vt.a x.w.vt.n x.w.vt.cap, int i64 x.s.init] = [slice (some ⟨x_5.b, x_5.o, none⟩) x_5.len x_5.cap, int i64 x_5.n] ∧
 ((0 : Int) ≤ x_5.n ∧ x_5.n < (↑x_5.len : Int)) ∧
 ∃ (a : Option Addr),
 ∃ (l : Nat),
 ∃ (c : Nat),
 Look F ⟨x_5.b, x_5.o + x_5.n.toNat * 6 + 3, none⟩ (slice a l c) ∧
 (∃ (x_6 : RbI),
 ((decide (x.s.kind ≥ (4 : Int)) || coB x.c (↑x.i : Int)) = true ∧ x_6.k ≤ x_6.l.length ∧ IntsIn F (slice x_6.tl.a x_6.tl.n x_6.tl.cap) x_6.l ∧ (∀ (u : Int), u ∈ x_6.l → isS x.c u = true) ∧ initB x.c (↑x.i : Int) x.s = !(List.drop x_6.k x_6.l).any (badT x.c (↑x.i : Int) x.s (decide (x.s.kind ≥ (4 : Int))))) ∧
 (int i64 (↑x.i : Int) = int i64 (↑x.i : Int) ∧ pointer (some ⟨x_2.b, 0, none⟩) = pointer (some ⟨x_6.b, 0, none⟩) ∧ pointer (some ⟨x_2.b2, 0, none⟩) = pointer (some ⟨x_6.b2, 0, none⟩) ∧ slice a l c = slice x_6.tl.a x_6.tl.n x_6.tl.cap ∧ int i64 (0 : Int) = int i64 (↑x_6.k : Int) ∧ True) ∧
 Ent
 [(0, F), (1, Atom.cells x_2.b (chS x.c x.w) 28),
 (2, Atom.cells x_2.b2 [string x.s.id, int i64 x.s.kind, int i64 x.s.parent, slice x_2.vk.a x_2.vk.n x_2.vk.cap, int i64 x.s.init, slice x_2.ve.a x_2.ve.n x_2.ve.cap, slice x_2.vx.a x_2.vx.n x_2.vx.cap, slice x_2.vt.a x_2.vt.n x_2.vt.cap, slice x_2.vd.a x_2.vd.n x_2.vd.cap, slice x_2.vi.a x_2.vi.n x_2.vi.cap, int i64 x.s.done.kind, slice x_2.vp.a x_2.vp.n x_2.vp.cap, string x.s.done.body] 61)]
 [(0, F), (1, Atom.cells x_6.b (chS x.c x.w) 28),
 (2, Atom.cells x_6.b2 [string x.s.id, int i64 x.s.kind, int i64 x.s.parent, slice x_6.vk.a x_6.vk.n x_6.vk.cap, int i64 x.s.init, slice x_6.ve.a x_6.ve.n x_6.ve.cap, slice x_6.vx.a x_6.vx.n x_6.vx.cap, slice x_6.vt.a x_6.vt.n x_6.vt.cap, slice x_6.vd.a x_6.vd.n x_6.vd.cap, slice x_6.vi.a x_6.vi.n x_6.vi.cap, int i64 x.s.done.kind, slice x_6.vp.a x_6.vp.n x_6.vp.cap, string x.s.done.body] 61)]) ∧
 ∀ (x_6 : RbI) (js : Nat → Value),
 (decide (x.s.kind ≥ (4 : Int)) || coB x.c (↑x.i : Int)) = true ∧ x_6.k ≤ x_6.l.length ∧ IntsIn F (slice x_6.tl.a x_6.tl.n x_6.tl.cap) x_6.l ∧ (∀ (u : Int), u ∈ x_6.l → isS x.c u = true) ∧ initB x.c (↑x.i : Int) x.s = !(List.drop x_6.k x_6.l).any (badT x.c (↑x.i : Int) x.s (decide (x.s.kind ≥ (4 : Int)))) →
 Br (decide ((↑x_6.k : Int) < (↑x_6.tl.n : Int)))
 (true = true ∧
 Same ⟨x_6.b, 3, none⟩ x_6.b ∧
 QOpOk Try.prog (opIn Try.f46 10 4) (ixQ 1) ∧
 ∃ (x_7 : IxQX),
 [slice x_6.tl.a x_6.tl.n x_6.tl.cap, int i64 (↑x_6.k : Int)] = [slice (some ⟨x_7.b, x_7.o, none⟩) x_7.len x_7.cap, int i64 x_7.n] ∧
 ((0 : Int) ≤ x_7.n ∧ x_7.n < (↑x_7.len : Int)) ∧
 ∃ (n : Int),
 Look F ⟨x_7.b, x_7.o + x_7.n.toNat * 1, none⟩ (int i64 n) ∧
 QOpOk Try.prog (opIn Try.f46 10 6) (ixQ 13) ∧
 ∃ (x_8 : IxQX),
 [slice x.w.vs.a x.w.vs.n x.w.vs.cap, int i64 n] = [slice (some ⟨x_8.b, x_8.o, none⟩) x_8.len x_8.cap, int i64 x_8.n] ∧
 ((0 : Int) ≤ x_8.n ∧ x_8.n < (↑x_8.len : Int)) ∧
 ∃ (n : Int),
 Look F ⟨x_8.b, x_8.o + x_8.n.toNat * 13 + 1, none⟩ (int i64 n) ∧
 true = true ∧
 Same ⟨x_6.b2, 1, none⟩ x_6.b2 ∧
 Br (decide (x.s.kind < (4 : Int)))
 (Same ⟨x_6.b, 0, none⟩ x_6.b ∧
 Same ⟨x_6.b, 1, none⟩ x_6.b ∧
 Same ⟨x_6.b, 2, none⟩ x_6.b ∧
 Same ⟨x_6.b, 3, none⟩ x_6.b ∧
 Same ⟨x_6.b, 4, none⟩ x_6.b ∧
 Same ⟨x_6.b, 5, none⟩ x_6.b ∧
 Same ⟨x_6.b, 6, none⟩ x_6.b ∧
 Same ⟨x_6.b, 7, none⟩ x_6.b ∧
 QOpOk Try.prog (opIn Try.f46 11 7) (ixQ 1) ∧
 ∃ (x_9 : IxQX),
 [slice x_6.tl.a x_6.tl.n x_6.tl.cap, int i64 (↑x_6.k : Int)] = [slice (some ⟨x_9.b, x_9.o, none⟩) x_9.len x_9.cap, int i64 x_9.n] ∧
 ((0 : Int) ≤ x_9.n ∧ x_9.n < (↑x_9.len : Int)) ∧
 ∃ (n_4 : Int),
 Look F ⟨x_9.b, x_9.o + x_9.n.toNat * 1, none⟩ (int i64 n_4) ∧
 FnOk Try.prog 16 rInC ∧
 true = true ∧
 ∃ (x_10 : RfX),
 [agg { toList := (chS x.c x.w) }, int i64 n_4, int i64 (↑x.i : Int)] =
 [agg { toList := (chS x_10.c x_10.w) }, int i64 x_10.a, int i64 x_10.d] ∧
 ([] : List Atom) = [] ∧
 Placed x_10.c ∧
 ChIn
 (Atom.pred
 (rest
 [(0, F), (1, Atom.cells x_6.b (chS x.c x.w) 28),
 (2, Atom.cells x_6.b2 [string x.s.id, int i64 x.s.kind, int i64 x.s.parent, slice x_6.vk.a x_6.vk.n x_6.vk.cap, int i64 x.s.init, slice x_6.ve.a x_6.ve.n x_6.ve.cap, slice x_6.vx.a x_6.vx.n x_6.vx.cap, slice x_6.vt.a x_6.vt.n x_6.vt.cap, slice x_6.vd.a x_6.vd.n x_6.vd.cap, slice x_6.vi.a x_6.vi.n x_6.vi.cap, int i64 x.s.done.kind, slice x_6.vp.a x_6.vp.n x_6.vp.cap, string x.s.done.body] 61)]
 []))
 x_10.w.v x_10.c ∧
 ∀ (y : Unit),
 True →
 Br (!inB x_10.c x_10.a x_10.d)
 (Done rBeC x F (Ending.returned (bool false))
 [(0, F), (1, Atom.cells x_6.b (chS x.c x.w) 28),
 (2, Atom.cells x_6.b2 [string x.s.id, int i64 x.s.kind, int i64 x.s.parent, slice x_6.vk.a x_6.vk.n x_6.vk.cap, int i64 x.s.init, slice x_6.ve.a x_6.ve.n x_6.ve.cap, slice x_6.vx.a x_6.vx.n x_6.vx.cap, slice x_6.vt.a x_6.vt.n x_6.vt.cap, slice x_6.vd.a x_6.vd.n x_6.vd.cap, slice x_6.vi.a x_6.vi.n x_6.vi.cap, int i64 x.s.done.kind, slice x_6.vp.a x_6.vp.n x_6.vp.cap, string x.s.done.body] 61)])
 (Same ⟨x_6.b2, 1, none⟩ x_6.b2 ∧
 Br (x.s.kind == (4 : Int))
 (Br (decide (n < (4 : Int)))
 (Same ⟨x_6.b, 3, none⟩ x_6.b ∧
 QOpOk Try.prog (opIn Try.f46 11 24) (ixQ 1) ∧
 ∃ (x_11 : IxQX),
 [slice x_6.tl.a x_6.tl.n x_6.tl.cap, int i64 (↑x_6.k : Int)] = [slice (some ⟨x_11.b, x_11.o, none⟩) x_11.len x_11.cap, int i64 x_11.n] ∧
 ((0 : Int) ≤ x_11.n ∧ x_11.n < (↑x_11.len : Int)) ∧
 ∃ (n_5 : Int),
 Look F ⟨x_11.b, x_11.o + x_11.n.toNat * 1, none⟩ (int i64 n_5) ∧
 QOpOk Try.prog (opIn Try.f46 11 26) (ixQ 13) ∧
 ∃ (x_12 : IxQX),
 [slice x.w.vs.a x.w.vs.n x.w.vs.cap, int i64 n_5] = [slice (some ⟨x_12.b, x_12.o, none⟩) x_12.len x_12.cap, int i64 x_12.n] ∧
 ((0 : Int) ≤ x_12.n ∧ x_12.n < (↑x_12.len : Int)) ∧
 ∃ (n_6 : Int),
 Look F ⟨x_12.b, x_12.o + x_12.n.toNat * 13 + 2, none⟩ (int i64 n_6) ∧
 Same ⟨x_6.b2, 2, none⟩ x_6.b2 ∧
 Br (!n_6 == x.s.parent)
 (Done rBeC x F (Ending.returned (bool false))
 [(0, F), (1, Atom.cells x_6.b (chS x.c x.w) 28),
 (2, Atom.cells x_6.b2 [string x.s.id, int i64 x.s.kind, int i64 x.s.parent, slice x_6.vk.a x_6.vk.n x_6.vk.cap, int i64 x.s.init, slice x_6.ve.a x_6.ve.n x_6.ve.cap, slice x_6.vx.a x_6.vx.n x_6.vx.cap, slice x_6.vt.a x_6.vt.n x_6.vt.cap, slice x_6.vd.a x_6.vd.n x_6.vd.cap, slice x_6.vi.a x_6.vi.n x_6.vi.cap, int i64 x.s.done.kind, slice x_6.vp.a x_6.vp.n x_6.vp.cap, string x.s.done.body] 61)])
 (Same ⟨x_6.b2, 1, none⟩ x_6.b2 ∧
 Br (x.s.kind == (5 : Int))
 (Br (decide (n < (4 : Int)))
 (Same ⟨x_6.b, 0, none⟩ x_6.b ∧
 Same ⟨x_6.b, 1, none⟩ x_6.b ∧
 Same ⟨x_6.b, 2, none⟩ x_6.b ∧
 Same ⟨x_6.b, 3, none⟩ x_6.b ∧
 Same ⟨x_6.b, 4, none⟩ x_6.b ∧
 Same ⟨x_6.b, 5, none⟩ x_6.b ∧
 Same ⟨x_6.b, 6, none⟩ x_6.b ∧
 Same ⟨x_6.b, 7, none⟩ x_6.b ∧
 QOpOk Try.prog (opIn Try.f46 11 46) (ixQ 1) ∧
 ∃ (x_13 : IxQX),
 [slice x_6.tl.a x_6.tl.n x_6.tl.cap, int i64 (↑x_6.k : Int)] = [slice (some ⟨x_13.b, x_13.o, none⟩) x_13.len x_13.cap, int i64 x_13.n] ∧
 ((0 : Int) ≤ x_13.n ∧ x_13.n < (↑x_13.len : Int)) ∧
 ∃ (n : Int),
 Look F ⟨x_13.b, x_13.o + x_13.n.toNat * 1, none⟩ (int i64 n) ∧
 Same ⟨x_6.b2, 2, none⟩ x_6.b2 ∧
 FnOk Try.prog 16 rInC ∧
 true = true ∧
 ∃ (x_14 : RfX),
 [agg { toList := (chS x.c x.w) }, int i64 n, int i64 x.s.parent] =
 [agg { toList := (chS x_14.c x_14.w) }, int i64 x_14.a, int i64 x_14.d] ∧
 ([] : List Atom) = [] ∧
 Placed x_14.c ∧
 ChIn
 (Atom.pred
 (rest
 [(0, F), (1, Atom.cells x_6.b (chS x.c x.w) 28),
 (2, Atom.cells x_6.b2 [string x.s.id, int i64 x.s.kind, int i64 x.s.parent, slice x_6.vk.a x_6.vk.n x_6.vk.cap, int i64 x.s.init, slice x_6.ve.a x_6.ve.n x_6.ve.cap, slice x_6.vx.a x_6.vx.n x_6.vx.cap, slice x_6.vt.a x_6.vt.n x_6.vt.cap, slice x_6.vd.a x_6.vd.n x_6.vd.cap, slice x_6.vi.a x_6.vi.n x_6.vi.cap, int i64 x.s.done.kind, slice x_6.vp.a x_6.vp.n x_6.vp.cap, string x.s.done.body] 61)]
 []))
 x_14.w.v x_14.c ∧
 ∀ (y : Unit),
 True →
 Br (!inB x_14.c x_14.a x_14.d)
 (Done rBeC x F (Ending.returned (bool false))
 [(0, F), (1, Atom.cells x_6.b (chS x.c x.w) 28),
 (2, Atom.cells x_6.b2 [string x.s.id, int i64 x.s.kind, int i64 x.s.parent, slice x_6.vk.a x_6.vk.n x_6.vk.cap, int i64 x.s.init, slice x_6.ve.a x_6.ve.n x_6.ve.cap, slice x_6.vx.a x_6.vx.n x_6.vx.cap, slice x_6.vt.a x_6.vt.n x_6.vt.cap, slice x_6.vd.a x_6.vd.n x_6.vd.cap, slice x_6.vi.a x_6.vi.n x_6.vi.cap, int i64 x.s.done.kind, slice x_6.vp.a x_6.vp.n x_6.vp.cap, string x.s.done.body] 61)])
 (((-9223372036854775808 : Int) ≤ (↑x_6.k : Int) + (1 : Int) ∧ (↑x_6.k : Int) + (1 : Int) ≤ (9223372036854775807 : Int)) ∧
 ∃ (y : RbI),
 ((decide (x.s.kind ≥ (4 : Int)) || coB x.c (↑x.i : Int)) = true ∧ y.k ≤ y.l.length ∧ IntsIn F (slice y.tl.a y.tl.n y.tl.cap) y.l ∧ (∀ (u : Int), u ∈ y.l → isS x.c u = true) ∧ initB x.c (↑x.i : Int) x.s = !(List.drop y.k y.l).any (badT x.c (↑x.i : Int) x.s (decide (x.s.kind ≥ (4 : Int))))) ∧
 (int i64 (↑x.i : Int) = int i64 (↑x.i : Int) ∧ pointer (some ⟨x_6.b, 0, none⟩) = pointer (some ⟨y.b, 0, none⟩) ∧ pointer (some ⟨x_6.b2, 0, none⟩) = pointer (some ⟨y.b2, 0, none⟩) ∧ slice x_6.tl.a x_6.tl.n x_6.tl.cap = slice y.tl.a y.tl.n y.tl.cap ∧ int i64 ((↑x_6.k : Int) + (1 : Int)) = int i64 (↑y.k : Int) ∧ True) ∧
 Ent
 [(0, F), (1, Atom.cells x_6.b (chS x.c x.w) 28),
 (2, Atom.cells x_6.b2 [string x.s.id, int i64 x.s.kind, int i64 x.s.parent, slice x_6.vk.a x_6.vk.n x_6.vk.cap, int i64 x.s.init, slice x_6.ve.a x_6.ve.n x_6.ve.cap, slice x_6.vx.a x_6.vx.n x_6.vx.cap, slice x_6.vt.a x_6.vt.n x_6.vt.cap, slice x_6.vd.a x_6.vd.n x_6.vd.cap, slice x_6.vi.a x_6.vi.n x_6.vi.cap, int i64 x.s.done.kind, slice x_6.vp.a x_6.vp.n x_6.vp.cap, string x.s.done.body] 61)]
 [(0, F), (1, Atom.cells y.b (chS x.c x.w) 28),
 (2, Atom.cells y.b2 [string x.s.id, int i64 x.s.kind, int i64 x.s.parent, slice y.vk.a y.vk.n y.vk.cap, int i64 x.s.init, slice y.ve.a y.ve.n y.ve.cap, slice y.vx.a y.vx.n y.vx.cap, slice y.vt.a y.vt.n y.vt.cap, slice y.vd.a y.vd.n y.vd.cap, slice y.vi.a y.vi.n y.vi.cap, int i64 x.s.done.kind, slice y.vp.a y.vp.n y.vp.cap, string x.s.done.body] 61)] ∧
 y.l.length - y.k < x_6.l.length - x_6.k))
 (Done rBeC x F (Ending.returned (bool false))
 [(0, F), (1, Atom.cells x_6.b (chS x.c x.w) 28),
 (2, Atom.cells x_6.b2 [string x.s.id, int i64 x.s.kind, int i64 x.s.parent, slice x_6.vk.a x_6.vk.n x_6.vk.cap, int i64 x.s.init, slice x_6.ve.a x_6.ve.n x_6.ve.cap, slice x_6.vx.a x_6.vx.n x_6.vx.cap, slice x_6.vt.a x_6.vt.n x_6.vt.cap, slice x_6.vd.a x_6.vd.n x_6.vd.cap, slice x_6.vi.a x_6.vi.n x_6.vi.cap, int i64 x.s.done.kind, slice x_6.vp.a x_6.vp.n x_6.vp.cap, string x.s.done.body] 61)]))
 (((-9223372036854775808 : Int) ≤ (↑x_6.k : Int) + (1 : Int) ∧ (↑x_6.k : Int) + (1 : Int) ≤ (9223372036854775807 : Int)) ∧
 ∃ (y : RbI),
 ((decide (x.s.kind ≥ (4 : Int)) || coB x.c (↑x.i : Int)) = true ∧ y.k ≤ y.l.length ∧ IntsIn F (slice y.tl.a y.tl.n y.tl.cap) y.l ∧ (∀ (u : Int), u ∈ y.l → isS x.c u = true) ∧ initB x.c (↑x.i : Int) x.s = !(List.drop y.k y.l).any (badT x.c (↑x.i : Int) x.s (decide (x.s.kind ≥ (4 : Int))))) ∧
 (int i64 (↑x.i : Int) = int i64 (↑x.i : Int) ∧ pointer (some ⟨x_6.b, 0, none⟩) = pointer (some ⟨y.b, 0, none⟩) ∧ pointer (some ⟨x_6.b2, 0, none⟩) = pointer (some ⟨y.b2, 0, none⟩) ∧ slice x_6.tl.a x_6.tl.n x_6.tl.cap = slice y.tl.a y.tl.n y.tl.cap ∧ int i64 ((↑x_6.k : Int) + (1 : Int)) = int i64 (↑y.k : Int) ∧ True) ∧
 Ent
 [(0, F), (1, Atom.cells x_6.b (chS x.c x.w) 28),
 (2, Atom.cells x_6.b2 [string x.s.id, int i64 x.s.kind, int i64 x.s.parent, slice x_6.vk.a x_6.vk.n x_6.vk.cap, int i64 x.s.init, slice x_6.ve.a x_6.ve.n x_6.ve.cap, slice x_6.vx.a x_6.vx.n x_6.vx.cap, slice x_6.vt.a x_6.vt.n x_6.vt.cap, slice x_6.vd.a x_6.vd.n x_6.vd.cap, slice x_6.vi.a x_6.vi.n x_6.vi.cap, int i64 x.s.done.kind, slice x_6.vp.a x_6.vp.n x_6.vp.cap, string x.s.done.body] 61)]
 [(0, F), (1, Atom.cells y.b (chS x.c x.w) 28),
 (2, Atom.cells y.b2 [string x.s.id, int i64 x.s.kind, int i64 x.s.parent, slice y.vk.a y.vk.n y.vk.cap, int i64 x.s.init, slice y.ve.a y.ve.n y.ve.cap, slice y.vx.a y.vx.n y.vx.cap, slice y.vt.a y.vt.n y.vt.cap, slice y.vd.a y.vd.n y.vd.cap, slice y.vi.a y.vi.n y.vi.cap, int i64 x.s.done.kind, slice y.vp.a y.vp.n y.vp.cap, string x.s.done.body] 61)] ∧
 y.l.length - y.k < x_6.l.length - x_6.k)))
 (Done rBeC x F (Ending.returned (bool false))
 [(0, F), (1, Atom.cells x_6.b (chS x.c x.w) 28),
 (2, Atom.cells x_6.b2 [string x.s.id, int i64 x.s.kind, int i64 x.s.parent, slice x_6.vk.a x_6.vk.n x_6.vk.cap, int i64 x.s.init, slice x_6.ve.a x_6.ve.n x_6.ve.cap, slice x_6.vx.a x_6.vx.n x_6.vx.cap, slice x_6.vt.a x_6.vt.n x_6.vt.cap, slice x_6.vd.a x_6.vd.n x_6.vd.cap, slice x_6.vi.a x_6.vi.n x_6.vi.cap, int i64 x.s.done.kind, slice x_6.vp.a x_6.vp.n x_6.vp.cap, string x.s.done.body] 61)]))
 (Same ⟨x_6.b2, 1, none⟩ x_6.b2 ∧
 Br (x.s.kind == (5 : Int))
 (Br (decide (n < (4 : Int)))
 (Same ⟨x_6.b, 0, none⟩ x_6.b ∧
 Same ⟨x_6.b, 1, none⟩ x_6.b ∧
 Same ⟨x_6.b, 2, none⟩ x_6.b ∧
 Same ⟨x_6.b, 3, none⟩ x_6.b ∧
 Same ⟨x_6.b, 4, none⟩ x_6.b ∧
 Same ⟨x_6.b, 5, none⟩ x_6.b ∧
 Same ⟨x_6.b, 6, none⟩ x_6.b ∧
 Same ⟨x_6.b, 7, none⟩ x_6.b ∧
 QOpOk Try.prog (opIn Try.f46 11 46) (ixQ 1) ∧
 ∃ (x_11 : IxQX),
 [slice x_6.tl.a x_6.tl.n x_6.tl.cap, int i64 (↑x_6.k : Int)] = [slice (some ⟨x_11.b, x_11.o, none⟩) x_11.len x_11.cap, int i64 x_11.n] ∧
 ((0 : Int) ≤ x_11.n ∧ x_11.n < (↑x_11.len : Int)) ∧
 ∃ (n : Int),
 Look F ⟨x_11.b, x_11.o + x_11.n.toNat * 1, none⟩ (int i64 n) ∧
 Same ⟨x_6.b2, 2, none⟩ x_6.b2 ∧
 FnOk Try.prog 16 rInC ∧
 true = true ∧
 ∃ (x_12 : RfX),
 [agg { toList := (chS x.c x.w) }, int i64 n, int i64 x.s.parent] =
 [agg { toList := (chS x_12.c x_12.w) }, int i64 x_12.a, int i64 x_12.d] ∧
 ([] : List Atom) = [] ∧
 Placed x_12.c ∧
 ChIn
 (Atom.pred
 (rest
 [(0, F), (1, Atom.cells x_6.b (chS x.c x.w) 28),
 (2, Atom.cells x_6.b2 [string x.s.id, int i64 x.s.kind, int i64 x.s.parent, slice x_6.vk.a x_6.vk.n x_6.vk.cap, int i64 x.s.init, slice x_6.ve.a x_6.ve.n x_6.ve.cap, slice x_6.vx.a x_6.vx.n x_6.vx.cap, slice x_6.vt.a x_6.vt.n x_6.vt.cap, slice x_6.vd.a x_6.vd.n x_6.vd.cap, slice x_6.vi.a x_6.vi.n x_6.vi.cap, int i64 x.s.done.kind, slice x_6.vp.a x_6.vp.n x_6.vp.cap, string x.s.done.body] 61)]
 []))
 x_12.w.v x_12.c ∧
 ∀ (y : Unit),
 True →
 Br (!inB x_12.c x_12.a x_12.d)
 (Done rBeC x F (Ending.returned (bool false))
 [(0, F), (1, Atom.cells x_6.b (chS x.c x.w) 28),
 (2, Atom.cells x_6.b2 [string x.s.id, int i64 x.s.kind, int i64 x.s.parent, slice x_6.vk.a x_6.vk.n x_6.vk.cap, int i64 x.s.init, slice x_6.ve.a x_6.ve.n x_6.ve.cap, slice x_6.vx.a x_6.vx.n x_6.vx.cap, slice x_6.vt.a x_6.vt.n x_6.vt.cap, slice x_6.vd.a x_6.vd.n x_6.vd.cap, slice x_6.vi.a x_6.vi.n x_6.vi.cap, int i64 x.s.done.kind, slice x_6.vp.a x_6.vp.n x_6.vp.cap, string x.s.done.body] 61)])
 (((-9223372036854775808 : Int) ≤ (↑x_6.k : Int) + (1 : Int) ∧ (↑x_6.k : Int) + (1 : Int) ≤ (9223372036854775807 : Int)) ∧
 ∃ (y : RbI),
 ((decide (x.s.kind ≥ (4 : Int)) || coB x.c (↑x.i : Int)) = true ∧ y.k ≤ y.l.length ∧ IntsIn F (slice y.tl.a y.tl.n y.tl.cap) y.l ∧ (∀ (u : Int), u ∈ y.l → isS x.c u = true) ∧ initB x.c (↑x.i : Int) x.s = !(List.drop y.k y.l).any (badT x.c (↑x.i : Int) x.s (decide (x.s.kind ≥ (4 : Int))))) ∧
 (int i64 (↑x.i : Int) = int i64 (↑x.i : Int) ∧ pointer (some ⟨x_6.b, 0, none⟩) = pointer (some ⟨y.b, 0, none⟩) ∧ pointer (some ⟨x_6.b2, 0, none⟩) = pointer (some ⟨y.b2, 0, none⟩) ∧ slice x_6.tl.a x_6.tl.n x_6.tl.cap = slice y.tl.a y.tl.n y.tl.cap ∧ int i64 ((↑x_6.k : Int) + (1 : Int)) = int i64 (↑y.k : Int) ∧ True) ∧
 Ent
 [(0, F), (1, Atom.cells x_6.b (chS x.c x.w) 28),
 (2, Atom.cells x_6.b2 [string x.s.id, int i64 x.s.kind, int i64 x.s.parent, slice x_6.vk.a x_6.vk.n x_6.vk.cap, int i64 x.s.init, slice x_6.ve.a x_6.ve.n x_6.ve.cap, slice x_6.vx.a x_6.vx.n x_6.vx.cap, slice x_6.vt.a x_6.vt.n x_6.vt.cap, slice x_6.vd.a x_6.vd.n x_6.vd.cap, slice x_6.vi.a x_6.vi.n x_6.vi.cap, int i64 x.s.done.kind, slice x_6.vp.a x_6.vp.n x_6.vp.cap, string x.s.done.body] 61)]
 [(0, F), (1, Atom.cells y.b (chS x.c x.w) 28),
 (2, Atom.cells y.b2 [string x.s.id, int i64 x.s.kind, int i64 x.s.parent, slice y.vk.a y.vk.n y.vk.cap, int i64 x.s.init, slice y.ve.a y.ve.n y.ve.cap, slice y.vx.a y.vx.n y.vx.cap, slice y.vt.a y.vt.n y.vt.cap, slice y.vd.a y.vd.n y.vd.cap, slice y.vi.a y.vi.n y.vi.cap, int i64 x.s.done.kind, slice y.vp.a y.vp.n y.vp.cap, string x.s.done.body] 61)] ∧
 y.l.length - y.k < x_6.l.length - x_6.k))
 (Done rBeC x F (Ending.returned (bool false))
 [(0, F), (1, Atom.cells x_6.b (chS x.c x.w) 28),
 (2, Atom.cells x_6.b2 [string x.s.id, int i64 x.s.kind, int i64 x.s.parent, slice x_6.vk.a x_6.vk.n x_6.vk.cap, int i64 x.s.init, slice x_6.ve.a x_6.ve.n x_6.ve.cap, slice x_6.vx.a x_6.vx.n x_6.vx.cap, slice x_6.vt.a x_6.vt.n x_6.vt.cap, slice x_6.vd.a x_6.vd.n x_6.vd.cap, slice x_6.vi.a x_6.vi.n x_6.vi.cap, int i64 x.s.done.kind, slice x_6.vp.a x_6.vp.n x_6.vp.cap, string x.s.done.body] 61)]))
 (((-9223372036854775808 : Int) ≤ (↑x_6.k : Int) + (1 : Int) ∧ (↑x_6.k : Int) + (1 : Int) ≤ (9223372036854775807 : Int)) ∧
 ∃ (y : RbI),
 ((decide (x.s.kind ≥ (4 : Int)) || coB x.c (↑x.i : Int)) = true ∧ y.k ≤ y.l.length ∧ IntsIn F (slice y.tl.a y.tl.n y.tl.cap) y.l ∧ (∀ (u : Int), u ∈ y.l → isS x.c u = true) ∧ initB x.c (↑x.i : Int) x.s = !(List.drop y.k y.l).any (badT x.c (↑x.i : Int) x.s (decide (x.s.kind ≥ (4 : Int))))) ∧
 (int i64 (↑x.i : Int) = int i64 (↑x.i : Int) ∧ pointer (some ⟨x_6.b, 0, none⟩) = pointer (some ⟨y.b, 0, none⟩) ∧ pointer (some ⟨x_6.b2, 0, none⟩) = pointer (some ⟨y.b2, 0, none⟩) ∧ slice x_6.tl.a x_6.tl.n x_6.tl.cap = slice y.tl.a y.tl.n y.tl.cap ∧ int i64 ((↑x_6.k : Int) + (1 : Int)) = int i64 (↑y.k : Int) ∧ True) ∧
 Ent
 [(0, F), (1, Atom.cells x_6.b (chS x.c x.w) 28),
 (2, Atom.cells x_6.b2 [string x.s.id, int i64 x.s.kind, int i64 x.s.parent, slice x_6.vk.a x_6.vk.n x_6.vk.cap, int i64 x.s.init, slice x_6.ve.a x_6.ve.n x_6.ve.cap, slice x_6.vx.a x_6.vx.n x_6.vx.cap, slice x_6.vt.a x_6.vt.n x_6.vt.cap, slice x_6.vd.a x_6.vd.n x_6.vd.cap, slice x_6.vi.a x_6.vi.n x_6.vi.cap, int i64 x.s.done.kind, slice x_6.vp.a x_6.vp.n x_6.vp.cap, string x.s.done.body] 61)]
 [(0, F), (1, Atom.cells y.b (chS x.c x.w) 28),
 (2, Atom.cells y.b2 [string x.s.id, int i64 x.s.kind, int i64 x.s.parent, slice y.vk.a y.vk.n y.vk.cap, int i64 x.s.init, slice y.ve.a y.ve.n y.ve.cap, slice y.vx.a y.vx.n y.vx.cap, slice y.vt.a y.vt.n y.vt.cap, slice y.vd.a y.vd.n y.vd.cap, slice y.vi.a y.vi.n y.vi.cap, int i64 x.s.done.kind, slice y.vp.a y.vp.n y.vp.cap, string x.s.done.body] 61)] ∧
 y.l.length - y.k < x_6.l.length - x_6.k))))
 (Same ⟨x_6.b2, 1, none⟩ x_6.b2 ∧
 Br (x.s.kind == (4 : Int))
 (Br (decide (n < (4 : Int)))
 (Same ⟨x_6.b, 3, none⟩ x_6.b ∧
 QOpOk Try.prog (opIn Try.f46 11 24) (ixQ 1) ∧
 ∃ (x_9 : IxQX),
 [slice x_6.tl.a x_6.tl.n x_6.tl.cap, int i64 (↑x_6.k : Int)] = [slice (some ⟨x_9.b, x_9.o, none⟩) x_9.len x_9.cap, int i64 x_9.n] ∧
 ((0 : Int) ≤ x_9.n ∧ x_9.n < (↑x_9.len : Int)) ∧
 ∃ (n_4 : Int),
 Look F ⟨x_9.b, x_9.o + x_9.n.toNat * 1, none⟩ (int i64 n_4) ∧
 QOpOk Try.prog (opIn Try.f46 11 26) (ixQ 13) ∧
 ∃ (x_10 : IxQX),
 [slice x.w.vs.a x.w.vs.n x.w.vs.cap, int i64 n_4] = [slice (some ⟨x_10.b, x_10.o, none⟩) x_10.len x_10.cap, int i64 x_10.n] ∧
 ((0 : Int) ≤ x_10.n ∧ x_10.n < (↑x_10.len : Int)) ∧
 ∃ (n_5 : Int),
 Look F ⟨x_10.b, x_10.o + x_10.n.toNat * 13 + 2, none⟩ (int i64 n_5) ∧
 Same ⟨x_6.b2, 2, none⟩ x_6.b2 ∧
 Br (!n_5 == x.s.parent)
 (Done rBeC x F (Ending.returned (bool false))
 [(0, F), (1, Atom.cells x_6.b (chS x.c x.w) 28),
 (2, Atom.cells x_6.b2 [string x.s.id, int i64 x.s.kind, int i64 x.s.parent, slice x_6.vk.a x_6.vk.n x_6.vk.cap, int i64 x.s.init, slice x_6.ve.a x_6.ve.n x_6.ve.cap, slice x_6.vx.a x_6.vx.n x_6.vx.cap, slice x_6.vt.a x_6.vt.n x_6.vt.cap, slice x_6.vd.a x_6.vd.n x_6.vd.cap, slice x_6.vi.a x_6.vi.n x_6.vi.cap, int i64 x.s.done.kind, slice x_6.vp.a x_6.vp.n x_6.vp.cap, string x.s.done.body] 61)])
 (Same ⟨x_6.b2, 1, none⟩ x_6.b2 ∧
 Br (x.s.kind == (5 : Int))
 (Br (decide (n < (4 : Int)))
 (Same ⟨x_6.b, 0, none⟩ x_6.b ∧
 Same ⟨x_6.b, 1, none⟩ x_6.b ∧
 Same ⟨x_6.b, 2, none⟩ x_6.b ∧
 Same ⟨x_6.b, 3, none⟩ x_6.b ∧
 Same ⟨x_6.b, 4, none⟩ x_6.b ∧
 Same ⟨x_6.b, 5, none⟩ x_6.b ∧
 Same ⟨x_6.b, 6, none⟩ x_6.b ∧
 Same ⟨x_6.b, 7, none⟩ x_6.b ∧
 QOpOk Try.prog (opIn Try.f46 11 46) (ixQ 1) ∧
 ∃ (x_11 : IxQX),
 [slice x_6.tl.a x_6.tl.n x_6.tl.cap, int i64 (↑x_6.k : Int)] = [slice (some ⟨x_11.b, x_11.o, none⟩) x_11.len x_11.cap, int i64 x_11.n] ∧
 ((0 : Int) ≤ x_11.n ∧ x_11.n < (↑x_11.len : Int)) ∧
 ∃ (n : Int),
 Look F ⟨x_11.b, x_11.o + x_11.n.toNat * 1, none⟩ (int i64 n) ∧
 Same ⟨x_6.b2, 2, none⟩ x_6.b2 ∧
 FnOk Try.prog 16 rInC ∧
 true = true ∧
 ∃ (x_12 : RfX),
 [agg { toList := (chS x.c x.w) }, int i64 n, int i64 x.s.parent] =
 [agg { toList := (chS x_12.c x_12.w) }, int i64 x_12.a, int i64 x_12.d] ∧
 ([] : List Atom) = [] ∧
 Placed x_12.c ∧
 ChIn
 (Atom.pred
 (rest
 [(0, F), (1, Atom.cells x_6.b (chS x.c x.w) 28),
 (2, Atom.cells x_6.b2 [string x.s.id, int i64 x.s.kind, int i64 x.s.parent, slice x_6.vk.a x_6.vk.n x_6.vk.cap, int i64 x.s.init, slice x_6.ve.a x_6.ve.n x_6.ve.cap, slice x_6.vx.a x_6.vx.n x_6.vx.cap, slice x_6.vt.a x_6.vt.n x_6.vt.cap, slice x_6.vd.a x_6.vd.n x_6.vd.cap, slice x_6.vi.a x_6.vi.n x_6.vi.cap, int i64 x.s.done.kind, slice x_6.vp.a x_6.vp.n x_6.vp.cap, string x.s.done.body] 61)]
 []))
 x_12.w.v x_12.c ∧
 ∀ (y : Unit),
 True →
 Br (!inB x_12.c x_12.a x_12.d)
 (Done rBeC x F (Ending.returned (bool false))
 [(0, F), (1, Atom.cells x_6.b (chS x.c x.w) 28),
 (2, Atom.cells x_6.b2 [string x.s.id, int i64 x.s.kind, int i64 x.s.parent, slice x_6.vk.a x_6.vk.n x_6.vk.cap, int i64 x.s.init, slice x_6.ve.a x_6.ve.n x_6.ve.cap, slice x_6.vx.a x_6.vx.n x_6.vx.cap, slice x_6.vt.a x_6.vt.n x_6.vt.cap, slice x_6.vd.a x_6.vd.n x_6.vd.cap, slice x_6.vi.a x_6.vi.n x_6.vi.cap, int i64 x.s.done.kind, slice x_6.vp.a x_6.vp.n x_6.vp.cap, string x.s.done.body] 61)])
 (((-9223372036854775808 : Int) ≤ (↑x_6.k : Int) + (1 : Int) ∧ (↑x_6.k : Int) + (1 : Int) ≤ (9223372036854775807 : Int)) ∧
 ∃ (y : RbI),
 ((decide (x.s.kind ≥ (4 : Int)) || coB x.c (↑x.i : Int)) = true ∧ y.k ≤ y.l.length ∧ IntsIn F (slice y.tl.a y.tl.n y.tl.cap) y.l ∧ (∀ (u : Int), u ∈ y.l → isS x.c u = true) ∧ initB x.c (↑x.i : Int) x.s = !(List.drop y.k y.l).any (badT x.c (↑x.i : Int) x.s (decide (x.s.kind ≥ (4 : Int))))) ∧
 (int i64 (↑x.i : Int) = int i64 (↑x.i : Int) ∧ pointer (some ⟨x_6.b, 0, none⟩) = pointer (some ⟨y.b, 0, none⟩) ∧ pointer (some ⟨x_6.b2, 0, none⟩) = pointer (some ⟨y.b2, 0, none⟩) ∧ slice x_6.tl.a x_6.tl.n x_6.tl.cap = slice y.tl.a y.tl.n y.tl.cap ∧ int i64 ((↑x_6.k : Int) + (1 : Int)) = int i64 (↑y.k : Int) ∧ True) ∧
 Ent
 [(0, F), (1, Atom.cells x_6.b (chS x.c x.w) 28),
 (2, Atom.cells x_6.b2 [string x.s.id, int i64 x.s.kind, int i64 x.s.parent, slice x_6.vk.a x_6.vk.n x_6.vk.cap, int i64 x.s.init, slice x_6.ve.a x_6.ve.n x_6.ve.cap, slice x_6.vx.a x_6.vx.n x_6.vx.cap, slice x_6.vt.a x_6.vt.n x_6.vt.cap, slice x_6.vd.a x_6.vd.n x_6.vd.cap, slice x_6.vi.a x_6.vi.n x_6.vi.cap, int i64 x.s.done.kind, slice x_6.vp.a x_6.vp.n x_6.vp.cap, string x.s.done.body] 61)]
 [(0, F), (1, Atom.cells y.b (chS x.c x.w) 28),
 (2, Atom.cells y.b2 [string x.s.id, int i64 x.s.kind, int i64 x.s.parent, slice y.vk.a y.vk.n y.vk.cap, int i64 x.s.init, slice y.ve.a y.ve.n y.ve.cap, slice y.vx.a y.vx.n y.vx.cap, slice y.vt.a y.vt.n y.vt.cap, slice y.vd.a y.vd.n y.vd.cap, slice y.vi.a y.vi.n y.vi.cap, int i64 x.s.done.kind, slice y.vp.a y.vp.n y.vp.cap, string x.s.done.body] 61)] ∧
 y.l.length - y.k < x_6.l.length - x_6.k))
 (Done rBeC x F (Ending.returned (bool false))
 [(0, F), (1, Atom.cells x_6.b (chS x.c x.w) 28),
 (2, Atom.cells x_6.b2 [string x.s.id, int i64 x.s.kind, int i64 x.s.parent, slice x_6.vk.a x_6.vk.n x_6.vk.cap, int i64 x.s.init, slice x_6.ve.a x_6.ve.n x_6.ve.cap, slice x_6.vx.a x_6.vx.n x_6.vx.cap, slice x_6.vt.a x_6.vt.n x_6.vt.cap, slice x_6.vd.a x_6.vd.n x_6.vd.cap, slice x_6.vi.a x_6.vi.n x_6.vi.cap, int i64 x.s.done.kind, slice x_6.vp.a x_6.vp.n x_6.vp.cap, string x.s.done.body] 61)]))
 (((-9223372036854775808 : Int) ≤ (↑x_6.k : Int) + (1 : Int) ∧ (↑x_6.k : Int) + (1 : Int) ≤ (9223372036854775807 : Int)) ∧
 ∃ (y : RbI),
 ((decide (x.s.kind ≥ (4 : Int)) || coB x.c (↑x.i : Int)) = true ∧ y.k ≤ y.l.length ∧ IntsIn F (slice y.tl.a y.tl.n y.tl.cap) y.l ∧ (∀ (u : Int), u ∈ y.l → isS x.c u = true) ∧ initB x.c (↑x.i : Int) x.s = !(List.drop y.k y.l).any (badT x.c (↑x.i : Int) x.s (decide (x.s.kind ≥ (4 : Int))))) ∧
 (int i64 (↑x.i : Int) = int i64 (↑x.i : Int) ∧ pointer (some ⟨x_6.b, 0, none⟩) = pointer (some ⟨y.b, 0, none⟩) ∧ pointer (some ⟨x_6.b2, 0, none⟩) = pointer (some ⟨y.b2, 0, none⟩) ∧ slice x_6.tl.a x_6.tl.n x_6.tl.cap = slice y.tl.a y.tl.n y.tl.cap ∧ int i64 ((↑x_6.k : Int) + (1 : Int)) = int i64 (↑y.k : Int) ∧ True) ∧
 Ent
 [(0, F), (1, Atom.cells x_6.b (chS x.c x.w) 28),
 (2, Atom.cells x_6.b2 [string x.s.id, int i64 x.s.kind, int i64 x.s.parent, slice x_6.vk.a x_6.vk.n x_6.vk.cap, int i64 x.s.init, slice x_6.ve.a x_6.ve.n x_6.ve.cap, slice x_6.vx.a x_6.vx.n x_6.vx.cap, slice x_6.vt.a x_6.vt.n x_6.vt.cap, slice x_6.vd.a x_6.vd.n x_6.vd.cap, slice x_6.vi.a x_6.vi.n x_6.vi.cap, int i64 x.s.done.kind, slice x_6.vp.a x_6.vp.n x_6.vp.cap, string x.s.done.body] 61)]
 [(0, F), (1, Atom.cells y.b (chS x.c x.w) 28),
 (2, Atom.cells y.b2 [string x.s.id, int i64 x.s.kind, int i64 x.s.parent, slice y.vk.a y.vk.n y.vk.cap, int i64 x.s.init, slice y.ve.a y.ve.n y.ve.cap, slice y.vx.a y.vx.n y.vx.cap, slice y.vt.a y.vt.n y.vt.cap, slice y.vd.a y.vd.n y.vd.cap, slice y.vi.a y.vi.n y.vi.cap, int i64 x.s.done.kind, slice y.vp.a y.vp.n y.vp.cap, string x.s.done.body] 61)] ∧
 y.l.length - y.k < x_6.l.length - x_6.k)))
 (Done rBeC x F (Ending.returned (bool false))
 [(0, F), (1, Atom.cells x_6.b (chS x.c x.w) 28),
 (2, Atom.cells x_6.b2 [string x.s.id, int i64 x.s.kind, int i64 x.s.parent, slice x_6.vk.a x_6.vk.n x_6.vk.cap, int i64 x.s.init, slice x_6.ve.a x_6.ve.n x_6.ve.cap, slice x_6.vx.a x_6.vx.n x_6.vx.cap, slice x_6.vt.a x_6.vt.n x_6.vt.cap, slice x_6.vd.a x_6.vd.n x_6.vd.cap, slice x_6.vi.a x_6.vi.n x_6.vi.cap, int i64 x.s.done.kind, slice x_6.vp.a x_6.vp.n x_6.vp.cap, string x.s.done.body] 61)]))
 (Same ⟨x_6.b2, 1, none⟩ x_6.b2 ∧
 Br (x.s.kind == (5 : Int))
 (Br (decide (n < (4 : Int)))
 (Same ⟨x_6.b, 0, none⟩ x_6.b ∧
 Same ⟨x_6.b, 1, none⟩ x_6.b ∧
 Same ⟨x_6.b, 2, none⟩ x_6.b ∧
 Same ⟨x_6.b, 3, none⟩ x_6.b ∧
 Same ⟨x_6.b, 4, none⟩ x_6.b ∧
 Same ⟨x_6.b, 5, none⟩ x_6.b ∧
 Same ⟨x_6.b, 6, none⟩ x_6.b ∧
 Same ⟨x_6.b, 7, none⟩ x_6.b ∧
 QOpOk Try.prog (opIn Try.f46 11 46) (ixQ 1) ∧
 ∃ (x_9 : IxQX),
 [slice x_6.tl.a x_6.tl.n x_6.tl.cap, int i64 (↑x_6.k : Int)] = [slice (some ⟨x_9.b, x_9.o, none⟩) x_9.len x_9.cap, int i64 x_9.n] ∧
 ((0 : Int) ≤ x_9.n ∧ x_9.n < (↑x_9.len : Int)) ∧
 ∃ (n : Int),
 Look F ⟨x_9.b, x_9.o + x_9.n.toNat * 1, none⟩ (int i64 n) ∧
 Same ⟨x_6.b2, 2, none⟩ x_6.b2 ∧
 FnOk Try.prog 16 rInC ∧
 true = true ∧
 ∃ (x_10 : RfX),
 [agg { toList := (chS x.c x.w) }, int i64 n, int i64 x.s.parent] =
 [agg { toList := (chS x_10.c x_10.w) }, int i64 x_10.a, int i64 x_10.d] ∧
 ([] : List Atom) = [] ∧
 Placed x_10.c ∧
 ChIn
 (Atom.pred
 (rest
 [(0, F), (1, Atom.cells x_6.b (chS x.c x.w) 28),
 (2, Atom.cells x_6.b2 [string x.s.id, int i64 x.s.kind, int i64 x.s.parent, slice x_6.vk.a x_6.vk.n x_6.vk.cap, int i64 x.s.init, slice x_6.ve.a x_6.ve.n x_6.ve.cap, slice x_6.vx.a x_6.vx.n x_6.vx.cap, slice x_6.vt.a x_6.vt.n x_6.vt.cap, slice x_6.vd.a x_6.vd.n x_6.vd.cap, slice x_6.vi.a x_6.vi.n x_6.vi.cap, int i64 x.s.done.kind, slice x_6.vp.a x_6.vp.n x_6.vp.cap, string x.s.done.body] 61)]
 []))
 x_10.w.v x_10.c ∧
 ∀ (y : Unit),
 True →
 Br (!inB x_10.c x_10.a x_10.d)
 (Done rBeC x F (Ending.returned (bool false))
 [(0, F), (1, Atom.cells x_6.b (chS x.c x.w) 28),
 (2, Atom.cells x_6.b2 [string x.s.id, int i64 x.s.kind, int i64 x.s.parent, slice x_6.vk.a x_6.vk.n x_6.vk.cap, int i64 x.s.init, slice x_6.ve.a x_6.ve.n x_6.ve.cap, slice x_6.vx.a x_6.vx.n x_6.vx.cap, slice x_6.vt.a x_6.vt.n x_6.vt.cap, slice x_6.vd.a x_6.vd.n x_6.vd.cap, slice x_6.vi.a x_6.vi.n x_6.vi.cap, int i64 x.s.done.kind, slice x_6.vp.a x_6.vp.n x_6.vp.cap, string x.s.done.body] 61)])
 (((-9223372036854775808 : Int) ≤ (↑x_6.k : Int) + (1 : Int) ∧ (↑x_6.k : Int) + (1 : Int) ≤ (9223372036854775807 : Int)) ∧
 ∃ (y : RbI),
 ((decide (x.s.kind ≥ (4 : Int)) || coB x.c (↑x.i : Int)) = true ∧ y.k ≤ y.l.length ∧ IntsIn F (slice y.tl.a y.tl.n y.tl.cap) y.l ∧ (∀ (u : Int), u ∈ y.l → isS x.c u = true) ∧ initB x.c (↑x.i : Int) x.s = !(List.drop y.k y.l).any (badT x.c (↑x.i : Int) x.s (decide (x.s.kind ≥ (4 : Int))))) ∧
 (int i64 (↑x.i : Int) = int i64 (↑x.i : Int) ∧ pointer (some ⟨x_6.b, 0, none⟩) = pointer (some ⟨y.b, 0, none⟩) ∧ pointer (some ⟨x_6.b2, 0, none⟩) = pointer (some ⟨y.b2, 0, none⟩) ∧ slice x_6.tl.a x_6.tl.n x_6.tl.cap = slice y.tl.a y.tl.n y.tl.cap ∧ int i64 ((↑x_6.k : Int) + (1 : Int)) = int i64 (↑y.k : Int) ∧ True) ∧
 Ent
 [(0, F), (1, Atom.cells x_6.b (chS x.c x.w) 28),
 (2, Atom.cells x_6.b2 [string x.s.id, int i64 x.s.kind, int i64 x.s.parent, slice x_6.vk.a x_6.vk.n x_6.vk.cap, int i64 x.s.init, slice x_6.ve.a x_6.ve.n x_6.ve.cap, slice x_6.vx.a x_6.vx.n x_6.vx.cap, slice x_6.vt.a x_6.vt.n x_6.vt.cap, slice x_6.vd.a x_6.vd.n x_6.vd.cap, slice x_6.vi.a x_6.vi.n x_6.vi.cap, int i64 x.s.done.kind, slice x_6.vp.a x_6.vp.n x_6.vp.cap, string x.s.done.body] 61)]
 [(0, F), (1, Atom.cells y.b (chS x.c x.w) 28),
 (2, Atom.cells y.b2 [string x.s.id, int i64 x.s.kind, int i64 x.s.parent, slice y.vk.a y.vk.n y.vk.cap, int i64 x.s.init, slice y.ve.a y.ve.n y.ve.cap, slice y.vx.a y.vx.n y.vx.cap, slice y.vt.a y.vt.n y.vt.cap, slice y.vd.a y.vd.n y.vd.cap, slice y.vi.a y.vi.n y.vi.cap, int i64 x.s.done.kind, slice y.vp.a y.vp.n y.vp.cap, string x.s.done.body] 61)] ∧
 y.l.length - y.k < x_6.l.length - x_6.k))
 (Done rBeC x F (Ending.returned (bool false))
 [(0, F), (1, Atom.cells x_6.b (chS x.c x.w) 28),
 (2, Atom.cells x_6.b2 [string x.s.id, int i64 x.s.kind, int i64 x.s.parent, slice x_6.vk.a x_6.vk.n x_6.vk.cap, int i64 x.s.init, slice x_6.ve.a x_6.ve.n x_6.ve.cap, slice x_6.vx.a x_6.vx.n x_6.vx.cap, slice x_6.vt.a x_6.vt.n x_6.vt.cap, slice x_6.vd.a x_6.vd.n x_6.vd.cap, slice x_6.vi.a x_6.vi.n x_6.vi.cap, int i64 x.s.done.kind, slice x_6.vp.a x_6.vp.n x_6.vp.cap, string x.s.done.body] 61)]))
 (((-9223372036854775808 : Int) ≤ (↑x_6.k : Int) + (1 : Int) ∧ (↑x_6.k : Int) + (1 : Int) ≤ (9223372036854775807 : Int)) ∧
 ∃ (y : RbI),
 ((decide (x.s.kind ≥ (4 : Int)) || coB x.c (↑x.i : Int)) = true ∧ y.k ≤ y.l.length ∧ IntsIn F (slice y.tl.a y.tl.n y.tl.cap) y.l ∧ (∀ (u : Int), u ∈ y.l → isS x.c u = true) ∧ initB x.c (↑x.i : Int) x.s = !(List.drop y.k y.l).any (badT x.c (↑x.i : Int) x.s (decide (x.s.kind ≥ (4 : Int))))) ∧
 (int i64 (↑x.i : Int) = int i64 (↑x.i : Int) ∧ pointer (some ⟨x_6.b, 0, none⟩) = pointer (some ⟨y.b, 0, none⟩) ∧ pointer (some ⟨x_6.b2, 0, none⟩) = pointer (some ⟨y.b2, 0, none⟩) ∧ slice x_6.tl.a x_6.tl.n x_6.tl.cap = slice y.tl.a y.tl.n y.tl.cap ∧ int i64 ((↑x_6.k : Int) + (1 : Int)) = int i64 (↑y.k : Int) ∧ True) ∧
 Ent
 [(0, F), (1, Atom.cells x_6.b (chS x.c x.w) 28),
 (2, Atom.cells x_6.b2 [string x.s.id, int i64 x.s.kind, int i64 x.s.parent, slice x_6.vk.a x_6.vk.n x_6.vk.cap, int i64 x.s.init, slice x_6.ve.a x_6.ve.n x_6.ve.cap, slice x_6.vx.a x_6.vx.n x_6.vx.cap, slice x_6.vt.a x_6.vt.n x_6.vt.cap, slice x_6.vd.a x_6.vd.n x_6.vd.cap, slice x_6.vi.a x_6.vi.n x_6.vi.cap, int i64 x.s.done.kind, slice x_6.vp.a x_6.vp.n x_6.vp.cap, string x.s.done.body] 61)]
 [(0, F), (1, Atom.cells y.b (chS x.c x.w) 28),
 (2, Atom.cells y.b2 [string x.s.id, int i64 x.s.kind, int i64 x.s.parent, slice y.vk.a y.vk.n y.vk.cap, int i64 x.s.init, slice y.ve.a y.ve.n y.ve.cap, slice y.vx.a y.vx.n y.vx.cap, slice y.vt.a y.vt.n y.vt.cap, slice y.vd.a y.vd.n y.vd.cap, slice y.vi.a y.vi.n y.vi.cap, int i64 x.s.done.kind, slice y.vp.a y.vp.n y.vp.cap, string x.s.done.body] 61)] ∧
 y.l.length - y.k < x_6.l.length - x_6.k))))
 (Done rBeC x F (Ending.returned (bool true))
 [(0, F), (1, Atom.cells x_6.b (chS x.c x.w) 28),
 (2, Atom.cells x_6.b2 [string x.s.id, int i64 x.s.kind, int i64 x.s.parent, slice x_6.vk.a x_6.vk.n x_6.vk.cap, int i64 x.s.init, slice x_6.ve.a x_6.ve.n x_6.ve.cap, slice x_6.vx.a x_6.vx.n x_6.vx.cap, slice x_6.vt.a x_6.vt.n x_6.vt.cap, slice x_6.vd.a x_6.vd.n x_6.vd.cap, slice x_6.vi.a x_6.vi.n x_6.vi.cap, int i64 x.s.done.kind, slice x_6.vp.a x_6.vp.n x_6.vp.cap, string x.s.done.body] 61)]))))) := by
  obtain ⟨c, w, i, s⟩ := x
  obtain ⟨hp, hs, htg⟩ := hc
  dsimp only at hp hs htg
  replace hr : ChIn F w.v c := hr
  have hn2 := hp.n2
  have hn128 := hp.n128
  have hi : i < nS c := (List.getElem?_eq_some_iff.1 hs).1
  obtain ⟨b0, o0, ea, hst⟩ := hr.stsAt (by omega)
  have hn := hr.num.1
  obtain ⟨htn, htb⟩ := hr.numT
  obtain ⟨r, ⟨vk, ve, vx, vt, vd, vi, vp, rfl, p1, p2, p3, p4, p5, p6, p7⟩, hL⟩ := hst i s hs
  obtain ⟨ka, kc, rfl, -⟩ := SlIn.open p1
  obtain ⟨ea2, ec, rfl, -⟩ := SlIn.open p2
  obtain ⟨xa, xc, rfl, -⟩ := SlIn.open p3
  obtain ⟨ta, tc, rfl, -⟩ := SlIn.open p4
  obtain ⟨da, dc, rfl, -⟩ := SlIn.open p5
  obtain ⟨ia, ic, rfl, -⟩ := SlIn.open p6
  obtain ⟨pa, pc, rfl, -⟩ := SlIn.open p7
  have ek := kd_get hs
  have ep := pr_get hs
  refine fun b1 => ⟨⟨rfl, rfl⟩, ixq_ok 13 rfl rfl rfl rfl, ⟨b0, o0, w.vs.n, w.vs.cap, i⟩, by dsimp only; rw [ea], by dsimp only; omega, s.id, hL 0 _ rfl, s.kind, hL 1 _ rfl, s.parent, hL 2 _ rfl, _, _, _, hL 3 _ rfl, s.init, hL 4 _ rfl, _, _, _, hL 5 _ rfl, _, _, _, hL 6 _ rfl, _, _, _, hL 7 _ rfl, _, _, _, hL 8 _ rfl, _, _, _, hL 9 _ rfl, s.done.kind, hL 10 _ rfl, _, _, _, hL 11 _ rfl, s.done.body, hL 12 _ rfl, fun bs => ?_⟩
  iterate 13 refine ⟨⟨rfl, rfl⟩, ?_⟩
  have mk : (decide (s.kind ≥ 4) || coB c (i : Int)) = true → ∃ x : RbI, (decide (s.kind ≥ 4) || coB c (i : Int)) = true ∧ (Value.int .i64 i = .int .i64 i ∧ Value.pointer (some ⟨b1, 0, none⟩) = .pointer (some ⟨x.b, 0, none⟩) ∧ Value.pointer (some ⟨bs, 0, none⟩) = .pointer (some ⟨x.b2, 0, none⟩) ∧ True) ∧ Ent [(0, F), (1000, .cells b1 (chS c w) 28), (2050, .cells bs [.string s.id, .int .i64 s.kind, .int .i64 s.parent, .slice ka s.kids.length kc, .int .i64 s.init, .slice ea2 s.entry.length ec, .slice xa s.exit.length xc, .slice ta s.trans.length tc, .slice da s.data.length dc, .slice ia s.invs.length ic, .int .i64 s.done.kind, .slice pa s.done.params.length pc, .string s.done.body] 61)] (ofL (x.st ⟨c, w, i, s⟩ F)) := fun h =>
    ⟨⟨b1, bs, 0, sl0, [], ⟨ka, s.kids.length, kc⟩, ⟨ea2, s.entry.length, ec⟩, ⟨xa, s.exit.length, xc⟩, ⟨ta, s.trans.length, tc⟩, ⟨da, s.data.length, dc⟩, ⟨ia, s.invs.length, ic⟩, ⟨pa, s.done.params.length, pc⟩⟩, h, ⟨rfl, rfl, rfl, trivial⟩, Ent.pick [0, 1000, 2050] rfl rfl⟩
  refine ⟨⟨⟨rfl, rfl⟩, br_decide (fun q1 => ?_) (fun q1 => mk (by rw [decide_eq_true (show s.kind ≥ 4 by omega)]; rfl))⟩, ?_⟩
  · iterate 8 refine ⟨⟨rfl, rfl⟩, ?_⟩
    refine ⟨rco_ok, rfl, ⟨c, w, i, 0⟩, rfl, rfl, by dsimp only; omega, hr.sub (sub_rest 0 (by simp) rfl), fun _ _ => br_intro (fun q2 => ⟨⟨rfl, rfl⟩, (), trivial, retB ?_, Ent.pick [0] rfl rfl⟩) (fun q2 => mk ?_)⟩
    · dsimp only at q2 ⊢
      unfold initB
      rw [decide_eq_false (show ¬ s.kind ≥ 4 by omega), q2]; rfl
    · dsimp only at q2
      have : coB c (i : Int) = true := by simpa using q2
      rw [this, Bool.or_true]
  clear mk hL p1 p2 p3 p4 p5 p6 p7 b1
  rintro ⟨b1, b2, -, -, -, wk, we, wx, wt, wd, wi, wp⟩ js hQ
  dsimp only at hQ ⊢
  have hun : initB c i s = bif decide (s.init < 0) then false else match c.trs[s.init.toNat]? with
    | none => false
    | some t => bif t.source != (i : Int) then false else bif (t.targets.length : Int) == 0 then false else !(t.targets.any (badT c i s (decide (s.kind ≥ 4)))) := by
    unfold initB
    have : (!decide (s.kind ≥ 4) && !coB c (i : Int)) = false := by
      rw [← Bool.not_or, hQ]; rfl
    rw [this]; rfl
  refine ⟨⟨rfl, rfl⟩, br_decide (fun q => ⟨(), trivial, retB ?_, Ent.pick [0] rfl rfl⟩) (fun q1 => ⟨⟨rfl, rfl⟩, ⟨rfl, rfl⟩, br_decide (fun q => ⟨(), trivial, retB ?_, Ent.pick [0] rfl rfl⟩) (fun q2 => ?_)⟩)⟩
  · dsimp only
    rw [hun, decide_eq_true q]; rfl
  · dsimp only at q ⊢
    rw [hun, decide_eq_false q1, List.getElem?_eq_none (by omega)]; rfl
  obtain ⟨m, hm⟩ : ∃ m : Nat, s.init = m := ⟨s.init.toNat, by omega⟩
  obtain ⟨t, ht⟩ : ∃ t, c.trs[m]? = some t := ⟨_, List.getElem?_eq_getElem (by omega)⟩
  obtain ⟨tb, to, rt, et, ⟨tve, tvt, rfl, tp1, tp2⟩, tL⟩ := hr.trsAt ht
  obtain ⟨tta, ttc, rfl, -⟩ := SlIn.open tp2
  rw [decide_eq_false q1, hm, Int.toNat_natCast, ht] at hun
  have hun : initB c i s = bif t.source != (i : Int) then false else bif (t.targets.length : Int) == 0 then false else !(t.targets.any (badT c i s (decide (s.kind ≥ 4)))) := hun
  refine ⟨⟨rfl, rfl⟩, ⟨rfl, rfl⟩, ixq_ok 6 rfl rfl rfl rfl, ⟨tb, to, w.vt.n, w.vt.cap, s.init⟩, by dsimp only; rw [et], by dsimp only; omega, t.source, by dsimp only; rw [hm]; exact tL 0 _ rfl, br_intro (fun q => ⟨(), trivial, retB ?_, Ent.pick [0] rfl rfl⟩) (fun q3 => ⟨⟨rfl, rfl⟩, ⟨rfl, rfl⟩, ixq_ok 6 rfl rfl rfl rfl, ⟨tb, to, w.vt.n, w.vt.cap, s.init⟩, by dsimp only; rw [et], by dsimp only; omega, _, _, _, by dsimp only; rw [hm]; exact tL 3 _ rfl, br_intro (fun q => ⟨(), trivial, retB ?_, Ent.pick [0] rfl rfl⟩) (fun q4 => ⟨⟨rfl, rfl⟩, ⟨rfl, rfl⟩, ixq_ok 6 rfl rfl rfl rfl, ⟨tb, to, w.vt.n, w.vt.cap, s.init⟩, by dsimp only; rw [et], by dsimp only; omega, _, _, _, by dsimp only; rw [hm]; exact tL 3 _ rfl, ⟨⟨b1, b2, 0, ⟨tta, t.targets.length, ttc⟩, t.targets, wk, we, wx, wt, wd, wi, wp⟩, ⟨hQ, Nat.zero_le _, tp2, htg m t ht, ?_⟩, ⟨rfl, rfl, rfl, rfl, rfl, trivial⟩, ?_⟩, ?_⟩)⟩)⟩
  · dsimp only
    rw [hun, q]; rfl
  · dsimp only
    rw [hun, q3, q]; rfl
  · dsimp only
    rw [hun, q3, q4]; rfl
  · exact Ent.pick [0, 1, 2] rfl rfl
  clear tL tp1 hun q1 q2 q3 q4 b1 b2 wk we wx wt wd wi wp
  rintro ⟨b1, b2, k, tl, l, wk, we, wx, wt, wd, wi, wp⟩ js2 ⟨-, g2, g3, g4, g5⟩
  dsimp only at g2 g3 g4 g5 ⊢
  obtain ⟨gn, -, gb⟩ := SlIn.num g3
  refine br_decide (fun hlt => ?_) (fun hge => ⟨(), trivial, retB ?_, Ent.pick [0] rfl rfl⟩)
  · have hkl : k < l.length := by omega
    obtain ⟨u, hu⟩ : ∃ u, l[k]? = some u := ⟨_, List.getElem?_eq_getElem hkl⟩
    obtain ⟨lb, lo, el, hlk⟩ := kid_get g3 hu
    obtain ⟨a, rfl, ha⟩ := isS_spec (g4 u (List.mem_of_getElem? hu))
    obtain ⟨sa, hsa⟩ := get_st ha
    obtain ⟨ra, ⟨ak, ae, ax, at', ad, ai, ap, rfl, -⟩, hLa⟩ := hst a sa hsa
    have eka := kd_get hsa
    have epa := pr_get hsa
    rw [drop_g hu, List.any_cons, Bool.not_or] at g5
    have bad : badT c i s (decide (s.kind ≥ 4)) a = true → false = initB c i s := fun h => by rw [g5, h]; rfl
    have next : badT c i s (decide (s.kind ≥ 4)) a = false → ((-9223372036854775808 ≤ (k : Int) + 1 ∧ (k : Int) + 1 ≤ 9223372036854775807) ∧ ∃ y : RbI, ((decide (s.kind ≥ 4) || coB c (i : Int)) = true ∧ y.k ≤ y.l.length ∧ IntsIn F (.slice y.tl.a y.tl.n y.tl.cap) y.l ∧ (∀ u ∈ y.l, isS c u = true) ∧ initB c i s = !((y.l.drop y.k).any (badT c i s (decide (s.kind ≥ 4))))) ∧ (Value.int .i64 i = .int .i64 i ∧ Value.pointer (some ⟨b1, 0, none⟩) = .pointer (some ⟨y.b, 0, none⟩) ∧ Value.pointer (some ⟨b2, 0, none⟩) = .pointer (some ⟨y.b2, 0, none⟩) ∧ Value.slice tl.a tl.n tl.cap = .slice y.tl.a y.tl.n y.tl.cap ∧ Value.int .i64 ((k : Int) + 1) = .int .i64 y.k ∧ True) ∧ Ent (ofL (RbI.st ⟨c, w, i, s⟩ F ⟨b1, b2, k, tl, l, wk, we, wx, wt, wd, wi, wp⟩)) (ofL (y.st ⟨c, w, i, s⟩ F)) ∧ y.l.length - y.k < l.length - k) := fun h => by
      refine ⟨by omega, ⟨b1, b2, k + 1, tl, l, wk, we, wx, wt, wd, wi, wp⟩, ⟨hQ, hkl, g3, g4, ?_⟩, ⟨rfl, rfl, rfl, rfl, rfl, trivial⟩, Ent.pick [0, 1, 2] rfl rfl, by dsimp only; omega⟩
      dsimp only
      rw [g5, h]; rfl
    have hk5 : s.kind ≤ 5 := by
      rcases Nat.eq_zero_or_pos i with e | e
      · subst e; rw [hp.k0] at ek; omega
      · have := hp.st i e hi; omega
    refine ⟨rfl, ⟨rfl, rfl⟩, ixq_ok 1 rfl rfl rfl rfl, ⟨lb, lo, tl.n, tl.cap, k⟩, by dsimp only; rw [el], by dsimp only; omega, a, hlk, ixq_ok 13 rfl rfl rfl rfl, ⟨b0, o0, w.vs.n, w.vs.cap, a⟩, by dsimp only; rw [ea], by dsimp only; omega, sa.kind, hLa 1 _ rfl, rfl, ⟨rfl, rfl⟩, br_decide (fun q1 => ?_) (fun q1 => ?_)⟩
    · have hb : badT c i s (decide (s.kind ≥ 4)) a = !insB c a i := by
        unfold badT
        rw [decide_eq_false (show ¬ s.kind ≥ 4 by omega)]; rfl
      iterate 8 refine ⟨⟨rfl, rfl⟩, ?_⟩
      refine ⟨ixq_ok 1 rfl rfl rfl rfl, ⟨lb, lo, tl.n, tl.cap, k⟩, by dsimp only; rw [el], by dsimp only; omega, a, hlk, rin_ok, rfl, ⟨c, w, a, i⟩, rfl, rfl, hp, hr.sub (sub_rest 0 (by simp) rfl), fun _ _ => br_intro (fun q => ⟨(), trivial, retB (bad ?_), Ent.pick [0] rfl rfl⟩) (fun q => ⟨⟨rfl, rfl⟩, br_f ?_ ⟨⟨rfl, rfl⟩, br_f ?_ (next ?_)⟩⟩)⟩
      · dsimp only at q
        rw [inB_nat ha hi] at q
        rw [hb, q]
      · have : ¬ s.kind = 4 := by omega
        simpa using this
      · have : ¬ s.kind = 5 := by omega
        simpa using this
      · dsimp only at q
        rw [inB_nat ha hi] at q
        rw [hb, q]
    · have hi0 : 0 < i := by
        rcases Nat.eq_zero_or_pos i with e | e
        · subst e; rw [hp.k0] at ek; omega
        · exact e
      have hpar := hp.st i hi0 hi
      rw [ep] at hpar
      obtain ⟨pm, hpm⟩ : ∃ pm : Nat, s.parent = pm := ⟨s.parent.toNat, by omega⟩
      have hpmn : pm < nS c := by omega
      refine ⟨⟨rfl, rfl⟩, br_intro (fun q2 => ?_) (fun q2 => ?_)⟩
      · have e4 : s.kind = 4 := by simpa using q2
        have hb : badT c i s (decide (s.kind ≥ 4)) a = !memB (kidsP c pm) a := by
          unfold badT
          rw [decide_eq_true (show s.kind ≥ 4 by omega), q2, hpm]; rfl
        have hmem : memB (kidsP c pm) a = (decide (sa.kind < 4) && (sa.parent == (pm : Int))) := by
          rw [Bool.eq_iff_iff, memB_iff]
          unfold kidsP
          rw [mem_kidsOf]
          simp only [Bool.and_eq_true, decide_eq_true_eq, beq_iff_eq]
          constructor
          · rintro ⟨a', e, h0, h1, h2, h3⟩
            have e : a = a' := by omega
            subst e
            omega
          · rintro ⟨h1, h2⟩
            refine ⟨a, rfl, ?_, ha, by omega, by omega⟩
            rcases Nat.eq_zero_or_pos a with e | e
            · subst e; rw [hp.p0] at epa; omega
            · exact e
        refine br_decide (fun q3 => ⟨⟨rfl, rfl⟩, ixq_ok 1 rfl rfl rfl rfl, ⟨lb, lo, tl.n, tl.cap, k⟩, by dsimp only; rw [el], by dsimp only; omega, a, hlk, ixq_ok 13 rfl rfl rfl rfl, ⟨b0, o0, w.vs.n, w.vs.cap, a⟩, by dsimp only; rw [ea], by dsimp only; omega, sa.parent, hLa 2 _ rfl, ⟨rfl, rfl⟩, br_intro (fun q => ⟨(), trivial, retB (bad ?_), Ent.pick [0] rfl rfl⟩) (fun q => ⟨⟨rfl, rfl⟩, br_f ?_ (next ?_)⟩)⟩) (fun q3 => ⟨(), trivial, retB (bad ?_), Ent.pick [0] rfl rfl⟩)
        · rw [hpm] at q
          have q : (sa.parent == (pm : Int)) = false := by simpa using q
          rw [hb, hmem, q, Bool.and_false]; rfl
        · have : ¬ s.kind = 5 := by omega
          simpa using this
        · rw [hpm] at q
          have q : (sa.parent == (pm : Int)) = true := by simpa using q
          rw [hb, hmem, q, decide_eq_true q3]; rfl
        · rw [hb, hmem, decide_eq_false q3]; rfl
      · have e5 : s.kind = 5 := by
          have : ¬ s.kind = 4 := by simpa using q2
          omega
        have hb : badT c i s (decide (s.kind ≥ 4)) a = bif !insB c a pm then true else decide (sa.kind ≥ 4) := by
          unfold badT
          rw [decide_eq_true (show s.kind ≥ 4 by omega), q2, hpm, Int.toNat_natCast, Int.toNat_natCast, eka]; rfl
        refine ⟨⟨rfl, rfl⟩, br_t (by simpa using e5) (br_decide (fun q3 => ?_) (fun q3 => ⟨(), trivial, retB (bad ?_), Ent.pick [0] rfl rfl⟩))⟩
        · iterate 8 refine ⟨⟨rfl, rfl⟩, ?_⟩
          refine ⟨ixq_ok 1 rfl rfl rfl rfl, ⟨lb, lo, tl.n, tl.cap, k⟩, by dsimp only; rw [el], by dsimp only; omega, a, hlk, ⟨rfl, rfl⟩, rin_ok, rfl, ⟨c, w, a, s.parent⟩, rfl, rfl, hp, hr.sub (sub_rest 0 (by simp) rfl), fun _ _ => br_intro (fun q => ⟨(), trivial, retB (bad ?_), Ent.pick [0] rfl rfl⟩) (fun q => next ?_)⟩
          · dsimp only at q
            rw [hpm, inB_nat ha hpmn] at q
            rw [hb, q]; rfl
          · dsimp only at q
            rw [hpm, inB_nat ha hpmn] at q
            rw [hb, q, decide_eq_false (show ¬ sa.kind ≥ 4 by omega)]; rfl
        · rw [hb, decide_eq_true (show sa.kind ≥ 4 by omega)]
          cases insB c a pm <;> rfl
  · rw [List.drop_eq_nil_of_le (by omega)] at g5
    exact g5.symm
set_option maxRecDepth 100000 in
theorem rbe_ok : FnOk Try.prog 46 rBeC :=
  fnOk (N := 137) (by kernel_rfl) Try.func46 rfl (by kernel_rfl) (fun _ => Nat.le_of_ble_eq_true rfl) rbe_H [] fun x F hc hr => Eq.mpr (by kernel_rfl) (rbe_vc x F hc hr)
end Go.Proofs.Ytfmadkaiigiaiaa
