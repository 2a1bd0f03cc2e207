/- The document's answers about a chart, part 6: Right. -/
import Derived.Test.YtfmadkaiigiaiaaLatZ
set_option linter.all false
namespace Go.Proofs.Ytfmadkaiigiaiaa
open Go
set_option maxHeartbeats 1000000
def rRtC : Con where
  X := R1X
  Y := Unit
  args x := [chAgg x.c x.w]
  pre _ := []
  cond _ := True
  rdc x F := ChIn F x.w.v x.c
  rel _ _ := True
  val x _ := .returned (.bool (newB x.c))
  post _ _ := []
  rmono _ _ _ h hk := hk.sub h
structure RrI where
  k : Nat
  b : Nat
  b2 : Nat
  j : Nat
  s : StD
  vk : Sl
  ve : Sl
  vx : Sl
  vt : Sl
  vd : Sl
  vi : Sl
  vp : Sl
def RrP (c : ChD) : Prop := Placed c ∧ c.trs.length ≤ 256
def RrI.st3 (x : R1X) (F : Atom) (i : RrI) : List Atom := [F, .cells i.b (chS x.c x.w) 28, .cells i.b2 (stA i.s i.vk i.ve i.vx i.vt i.vd i.vi i.vp) 61]
def RrQ (x : R1X) (F : Atom) (i : RrI) : Prop := RrP x.c ∧ TgtOk x.c ∧ x.c.sts[i.k]? = some i.s ∧ IntsIn F (.slice i.vt.a i.vt.n i.vt.cap) i.s.trans ∧ (i.s.trans.length = 0 ∨ i.s.kind = 1 ∨ i.s.kind = 2)
def rRtInv (x : R1X) (F : Atom) : Nat → Option Inv := fun
  | 0 => some { X := Nat × Nat, P := fun i => RrP x.c ∧ i.1 ≤ x.c.trs.length ∧ (∀ j t, j < i.1 → x.c.trs[j]? = some t → aimB x.c t = true) ∧ newB x.c = ((x.c.trs.drop i.1).all (aimB x.c) && stsB x.c 0 x.c.sts), mu := fun i => x.c.trs.length - i.1, lv := fun i => [(1, .pointer (some ⟨i.2, 0, none⟩)), (3, .int .i64 i.1)], st := fun i => [F, .cells i.2 (chS x.c x.w) 28] }
  | 2 => some { X := Nat × Nat, P := fun i => RrP x.c ∧ TgtOk x.c ∧ i.1 ≤ nS x.c ∧ newB x.c = stsB x.c i.1 (x.c.sts.drop i.1), mu := fun i => nS x.c - i.1, lv := fun i => [(1, .pointer (some ⟨i.2, 0, none⟩)), (4, .int .i64 i.1)], st := fun i => [F, .cells i.2 (chS x.c x.w) 28] }
  | 4 => some { X := RrI, P := fun i => RrQ x F i ∧ i.j ≤ i.s.trans.length ∧ newB x.c = ((i.s.trans.drop i.j).all (okTr x.c i.k i.s) && stsB x.c (i.k + 1) (x.c.sts.drop (i.k + 1))), gh := some ⟨Nat, fun i => i.k⟩, mu := fun i => i.s.trans.length - i.j, lv := fun i => [(1, .pointer (some ⟨i.b, 0, none⟩)), (4, .int .i64 i.k), (5, .pointer (some ⟨i.b2, 0, none⟩)), (6, .int .i64 i.j)], st := fun i => i.st3 x F }
  | _ => none
def rRtCut (x : R1X) (F : Atom) : Nat → Option Inv := fun
  | 14 => some { X := RrI, P := fun i => RrQ x F i ∧ newB x.c = (i.s.trans.all (okTr x.c i.k i.s) && stsB x.c (i.k + 1) (x.c.sts.drop (i.k + 1))), gh := some ⟨Nat, fun i => i.k⟩, mu := fun _ => 0, lv := fun i => [(1, .pointer (some ⟨i.b, 0, none⟩)), (4, .int .i64 i.k), (5, .pointer (some ⟨i.b2, 0, none⟩))], st := fun i => i.st3 x F }
  | _ => none
def sh6 : List LH := [.ex 0 (.int .i64), .ex 0 .slice, .ex 0 .str, .ex 0 .slice, .ex 0 .bool, .ex 0 (.int .i64)]
def rRtOv (_x : R1X) (_F : Atom) : List (Nat × Nat × OH) := [(0, 0, .n 1000), (1, 0, .q (at8 1000)), (1, 1, .c rPlC [] []), (1, 5, .q [.atj 1000]), (4, 2, .q [.atj 1]), (6, 0, .q (at8 1)), (6, 2, .q [.atj 1]), (6, 4, .qo (ixQ 6)), (6, 5, .q sh6), (6, 6, .c rAmC [] []), (9, 2, .q [.atj 1]), (11, 1, .q [.atj 1]), (11, 3, .qo (ixQ 13)), (11, 4, .q sh13), (11, 5, .n 12050), (11, 6, .w (at13 12050)), (12, 0, .q (at8 1)), (12, 2, .c rBeC [] []), (12, 6, .q [.atj 12050]), (12, 11, .q [.atj 12050]), (12, 16, .q [.atj 12050]),
  (15, 2, .q [.atj 2]), (17, 1, .q [.atj 2]), (17, 3, .qo (ixQ 1)), (17, 4, .q [.ex 0 (.int .i64)]), (17, 8, .q [.atj 2]), (17, 10, .qo (ixQ 1)), (17, 11, .q [.ex 0 (.int .i64)]), (17, 13, .q [.atj 1]), (17, 19, .q [.atj 2]), (17, 21, .qo (ixQ 1)), (17, 22, .q [.ex 0 (.int .i64)]), (17, 24, .q [.atj 2]), (17, 29, .q [.atj 1]), (17, 31, .q [.atj 2]), (17, 33, .qo (ixQ 1)), (17, 34, .q [.ex 0 (.int .i64)]), (17, 35, .qo (ixQ 6)), (17, 37, .q [.ex 0 (.int .i64)])]
noncomputable def rrt_H (x : Con.X rRtC) (F : Atom) : Hints where
  op := hk ((rRtOv x F) ++ [])
  inv := rRtInv x F
  cut := rRtCut x F
  ord := (fun _ => [])
open Go.Value (int slice string bool pointer agg tuple func) in
open Go.IntKind (i64) in
set_option maxRecDepth 100000 in
theorem rrt_vc (x : R1X) (F : Atom) (hc : Con.cond rRtC x) (hr : Con.rdc rRtC x F) :
  ∀ (b : Nat),
 Same ⟨b, 0, none⟩ b ∧
 Same ⟨b, 1, none⟩ b ∧
 Same ⟨b, 2, none⟩ b ∧
 Same ⟨b, 3, none⟩ b ∧
 Same ⟨b, 4, none⟩ b ∧
 Same ⟨b, 5, none⟩ b ∧
 Same ⟨b, 6, none⟩ b ∧
 Same ⟨b, 7, none⟩ b ∧
 FnOk Try.prog 44 rPlC ∧
 true = true ∧
 ∃ (x_1 : R1X),
 [agg { toList := (chS x.c x.w) }] = [agg { toList := (chS x_1.c x_1.w) }] ∧
 ([] : List Atom) = [] ∧
 True ∧
 ChIn (Atom.pred (rest [(0, F), (1000, Atom.cells b (chS x.c x.w) 28)] [])) x_1.w.v x_1.c ∧
 ∀ (y : Unit),
 True →
 Br (!placedB x_1.c) (Done rRtC x F (Ending.returned (bool false)) [(0, F), (1000, Atom.cells b (chS x.c x.w) 28)])
 (Same ⟨b, 4, none⟩ b ∧
 Br (decide ((↑x.w.vt.n : Int) > (256 : Int))) (Done rRtC x F (Ending.returned (bool false)) [(0, F), (1000, Atom.cells b (chS x.c x.w) 28)])
 ((∃ (x_2 : Nat × Nat),
 (RrP x.c ∧ x_2.fst ≤ x.c.trs.length ∧ (∀ (j : Nat) (t : TrD), j < x_2.fst → x.c.trs[j]? = some t → aimB x.c t = true) ∧ newB x.c = ((List.drop x_2.fst x.c.trs).all (aimB x.c) && stsB x.c 0 x.c.sts)) ∧
 (pointer (some ⟨b, 0, none⟩) = pointer (some ⟨x_2.snd, 0, none⟩) ∧ int i64 (0 : Int) = int i64 (↑x_2.fst : Int) ∧ True) ∧ Ent [(0, F), (1000, Atom.cells b (chS x.c x.w) 28)] [(0, F), (1, Atom.cells x_2.snd (chS x.c x.w) 28)]) ∧
 ∀ (x_2 : Nat × Nat) (js : Nat → Value),
 RrP x.c ∧ x_2.fst ≤ x.c.trs.length ∧ (∀ (j : Nat) (t : TrD), j < x_2.fst → x.c.trs[j]? = some t → aimB x.c t = true) ∧ newB x.c = ((List.drop x_2.fst x.c.trs).all (aimB x.c) && stsB x.c 0 x.c.sts) →
 Same ⟨x_2.snd, 4, none⟩ x_2.snd ∧
 Br (decide ((↑x_2.fst : Int) < (↑x.w.vt.n : Int)))
 (true = true ∧
 Same ⟨x_2.snd, 0, none⟩ x_2.snd ∧
 Same ⟨x_2.snd, 1, none⟩ x_2.snd ∧
 Same ⟨x_2.snd, 2, none⟩ x_2.snd ∧
 Same ⟨x_2.snd, 3, none⟩ x_2.snd ∧
 Same ⟨x_2.snd, 4, none⟩ x_2.snd ∧
 Same ⟨x_2.snd, 5, none⟩ x_2.snd ∧
 Same ⟨x_2.snd, 6, none⟩ x_2.snd ∧
 Same ⟨x_2.snd, 7, none⟩ x_2.snd ∧
 Same ⟨x_2.snd, 4, none⟩ x_2.snd ∧
 QOpOk Try.prog (opIn Try.f12 6 4) (ixQ 6) ∧
 ∃ (x_3 : IxQX),
 [slice x.w.vt.a x.w.vt.n x.w.vt.cap, int i64 (↑x_2.fst : Int)] = [slice (some ⟨x_3.b, x_3.o, none⟩) x_3.len x_3.cap, int i64 x_3.n] ∧
 ((0 : Int) ≤ x_3.n ∧ x_3.n < (↑x_3.len : Int)) ∧
 ∃ (n : Int),
 Look F ⟨x_3.b, x_3.o + x_3.n.toNat * 6, none⟩ (int i64 n) ∧
 ∃ (a : Option Addr),
 ∃ (l : Nat),
 ∃ (c : Nat),
 Look F ⟨x_3.b, x_3.o + x_3.n.toNat * 6 + 1, none⟩ (slice a l c) ∧
 ∃ (s : ByteArray),
 Look F ⟨x_3.b, x_3.o + x_3.n.toNat * 6 + 2, none⟩ (string s) ∧
 ∃ (a_1 : Option Addr),
 ∃ (l_1 : Nat),
 ∃ (c_1 : Nat),
 Look F ⟨x_3.b, x_3.o + x_3.n.toNat * 6 + 3, none⟩ (slice a_1 l_1 c_1) ∧
 ∃ (b : Bool),
 Look F ⟨x_3.b, x_3.o + x_3.n.toNat * 6 + 4, none⟩ (bool b) ∧
 ∃ (n_1 : Int),
 Look F ⟨x_3.b, x_3.o + x_3.n.toNat * 6 + 5, none⟩ (int i64 n_1) ∧
 FnOk Try.prog 45 rAmC ∧
 true = true ∧
 ∃ (x_4 : RamX),
 [agg { toList := (chS x.c x.w) }, agg { toList := [int i64 n, slice a l c, string s, slice a_1 l_1 c_1, bool b, int i64 n_1] }] =
 [agg { toList := (chS x_4.c x_4.w) }, agg { toList := [int i64 x_4.t.source, slice x_4.we.a x_4.we.n x_4.we.cap, string x_4.t.cond, slice x_4.wt.a x_4.wt.n x_4.wt.cap, bool x_4.t.internal, int i64 x_4.t.block] }] ∧
 ([] : List Atom) = [] ∧
 Placed x_4.c ∧
 (ChIn (Atom.pred (rest [(0, F), (1, Atom.cells x_2.snd (chS x.c x.w) 28)] [])) x_4.w.v x_4.c ∧ IntsIn (Atom.pred (rest [(0, F), (1, Atom.cells x_2.snd (chS x.c x.w) 28)] [])) (slice x_4.wt.a x_4.wt.n x_4.wt.cap) x_4.t.targets) ∧
 ∀ (y : Unit),
 True →
 Br (!aimB x_4.c x_4.t) (Done rRtC x F (Ending.returned (bool false)) [(0, F), (1, Atom.cells x_2.snd (chS x.c x.w) 28)])
 (((-9223372036854775808 : Int) ≤ (↑x_2.fst : Int) + (1 : Int) ∧ (↑x_2.fst : Int) + (1 : Int) ≤ (9223372036854775807 : Int)) ∧
 ∃ (y : Nat × Nat),
 (RrP x.c ∧ y.fst ≤ x.c.trs.length ∧ (∀ (j : Nat) (t : TrD), j < y.fst → x.c.trs[j]? = some t → aimB x.c t = true) ∧ newB x.c = ((List.drop y.fst x.c.trs).all (aimB x.c) && stsB x.c 0 x.c.sts)) ∧
 (pointer (some ⟨x_2.snd, 0, none⟩) = pointer (some ⟨y.snd, 0, none⟩) ∧ int i64 ((↑x_2.fst : Int) + (1 : Int)) = int i64 (↑y.fst : Int) ∧ True) ∧
 Ent [(0, F), (1, Atom.cells x_2.snd (chS x.c x.w) 28)] [(0, F), (1, Atom.cells y.snd (chS x.c x.w) 28)] ∧ x.c.trs.length - y.fst < x.c.trs.length - x_2.fst))
 ((∃ (x_3 : Nat × Nat),
 (RrP x.c ∧ TgtOk x.c ∧ x_3.fst ≤ nS x.c ∧ newB x.c = stsB x.c x_3.fst (List.drop x_3.fst x.c.sts)) ∧
 (pointer (some ⟨x_2.snd, 0, none⟩) = pointer (some ⟨x_3.snd, 0, none⟩) ∧ int i64 (0 : Int) = int i64 (↑x_3.fst : Int) ∧ True) ∧ Ent [(0, F), (1, Atom.cells x_2.snd (chS x.c x.w) 28)] [(0, F), (1, Atom.cells x_3.snd (chS x.c x.w) 28)]) ∧
 ∀ (x_3 : Nat × Nat) (js : Nat → Value),
 RrP x.c ∧ TgtOk x.c ∧ x_3.fst ≤ nS x.c ∧ newB x.c = stsB x.c x_3.fst (List.drop x_3.fst x.c.sts) →
 Same ⟨x_3.snd, 3, none⟩ x_3.snd ∧
 Br (decide ((↑x_3.fst : Int) < (↑x.w.vs.n : Int)))
 (Same ⟨x_3.snd, 3, none⟩ x_3.snd ∧
 QOpOk Try.prog (opIn Try.f12 11 3) (ixQ 13) ∧
 ∃ (x_4 : IxQX),
 [slice x.w.vs.a x.w.vs.n x.w.vs.cap, int i64 (↑x_3.fst : Int)] = [slice (some ⟨x_4.b, x_4.o, none⟩) x_4.len x_4.cap, int i64 x_4.n] ∧
 ((0 : Int) ≤ x_4.n ∧ x_4.n < (↑x_4.len : Int)) ∧
 ∃ (s : ByteArray),
 Look F ⟨x_4.b, x_4.o + x_4.n.toNat * 13, none⟩ (string s) ∧
 ∃ (n : Int),
 Look F ⟨x_4.b, x_4.o + x_4.n.toNat * 13 + 1, none⟩ (int i64 n) ∧
 ∃ (n_1 : Int),
 Look F ⟨x_4.b, x_4.o + x_4.n.toNat * 13 + 2, none⟩ (int i64 n_1) ∧
 ∃ (a : Option Addr),
 ∃ (l : Nat),
 ∃ (c : Nat),
 Look F ⟨x_4.b, x_4.o + x_4.n.toNat * 13 + 3, none⟩ (slice a l c) ∧
 ∃ (n_2 : Int),
 Look F ⟨x_4.b, x_4.o + x_4.n.toNat * 13 + 4, none⟩ (int i64 n_2) ∧
 ∃ (a_1 : Option Addr),
 ∃ (l_1 : Nat),
 ∃ (c_1 : Nat),
 Look F ⟨x_4.b, x_4.o + x_4.n.toNat * 13 + 5, none⟩ (slice a_1 l_1 c_1) ∧
 ∃ (a_2 : Option Addr),
 ∃ (l_2 : Nat),
 ∃ (c_2 : Nat),
 Look F ⟨x_4.b, x_4.o + x_4.n.toNat * 13 + 6, none⟩ (slice a_2 l_2 c_2) ∧
 ∃ (a_3 : Option Addr),
 ∃ (l_3 : Nat),
 ∃ (c_3 : Nat),
 Look F ⟨x_4.b, x_4.o + x_4.n.toNat * 13 + 7, none⟩ (slice a_3 l_3 c_3) ∧
 ∃ (a_4 : Option Addr),
 ∃ (l_4 : Nat),
 ∃ (c_4 : Nat),
 Look F ⟨x_4.b, x_4.o + x_4.n.toNat * 13 + 8, none⟩ (slice a_4 l_4 c_4) ∧
 ∃ (a_5 : Option Addr),
 ∃ (l_5 : Nat),
 ∃ (c_5 : Nat),
 Look F ⟨x_4.b, x_4.o + x_4.n.toNat * 13 + 9, none⟩ (slice a_5 l_5 c_5) ∧
 ∃ (n_3 : Int),
 Look F ⟨x_4.b, x_4.o + x_4.n.toNat * 13 + 10, none⟩ (int i64 n_3) ∧
 ∃ (a_6 : Option Addr),
 ∃ (l_6 : Nat),
 ∃ (c_6 : Nat),
 Look F ⟨x_4.b, x_4.o + x_4.n.toNat * 13 + 11, none⟩ (slice a_6 l_6 c_6) ∧
 ∃ (s_1 : ByteArray),
 Look F ⟨x_4.b, x_4.o + x_4.n.toNat * 13 + 12, none⟩ (string s_1) ∧
 ∀ (b : Nat),
 Same ⟨b, 0, none⟩ b ∧
 Same ⟨b, 1, none⟩ b ∧
 Same ⟨b, 2, none⟩ b ∧
 Same ⟨b, 3, none⟩ b ∧
 Same ⟨b, 4, none⟩ b ∧
 Same ⟨b, 5, none⟩ b ∧
 Same ⟨b, 6, none⟩ b ∧
 Same ⟨b, 7, none⟩ b ∧
 Same ⟨b, 8, none⟩ b ∧
 Same ⟨b, 9, none⟩ b ∧
 Same ⟨b, 10, none⟩ b ∧
 Same ⟨b, 11, none⟩ b ∧
 Same ⟨b, 12, none⟩ b ∧
 ∃ (n_4 : Nat),
 (Same ⟨x_3.snd, 0, none⟩ x_3.snd ∧
 Same ⟨x_3.snd, 1, none⟩ x_3.snd ∧
 Same ⟨x_3.snd, 2, none⟩ x_3.snd ∧
 Same ⟨x_3.snd, 3, none⟩ x_3.snd ∧
 Same ⟨x_3.snd, 4, none⟩ x_3.snd ∧
 Same ⟨x_3.snd, 5, none⟩ x_3.snd ∧
 Same ⟨x_3.snd, 6, none⟩ x_3.snd ∧
 Same ⟨x_3.snd, 7, none⟩ x_3.snd ∧
 FnOk Try.prog 46 rBeC ∧
 true = true ∧
 ∃ (x_5 : RbX),
 [agg { toList := (chS x.c x.w) }, int i64 (↑x_3.fst : Int)] = [agg { toList := (chS x_5.c x_5.w) }, int i64 (↑x_5.i : Int)] ∧
 ([] : List Atom) = [] ∧
 (Placed x_5.c ∧ x_5.c.sts[x_5.i]? = some x_5.s ∧ TgtOk x_5.c) ∧
 ChIn (Atom.pred (rest [(0, F), (1, Atom.cells x_3.snd (chS x.c x.w) 28), (12050, Atom.cells b [string s, int i64 n, int i64 n_1, slice a l c, int i64 n_2, slice a_1 l_1 c_1, slice a_2 l_2 c_2, slice a_3 l_3 c_3, slice a_4 l_4 c_4, slice a_5 l_5 c_5, int i64 n_3, slice a_6 l_6 c_6, string s_1] 61)] [])) x_5.w.v x_5.c ∧
 ∀ (y : Unit),
 True →
 Br (!initB x_5.c (↑x_5.i : Int) x_5.s)
 (Done rRtC x F (Ending.returned (bool false)) [(0, F), (1, Atom.cells x_3.snd (chS x.c x.w) 28), (12050, Atom.cells b [string s, int i64 n, int i64 n_1, slice a l c, int i64 n_2, slice a_1 l_1 c_1, slice a_2 l_2 c_2, slice a_3 l_3 c_3, slice a_4 l_4 c_4, slice a_5 l_5 c_5, int i64 n_3, slice a_6 l_6 c_6, string s_1] 61)])
 (Same ⟨b, 7, none⟩ b ∧
 Br (decide ((↑l_3 : Int) > (0 : Int)))
 (Same ⟨b, 1, none⟩ b ∧
 Br (n != (1 : Int))
 (Same ⟨b, 1, none⟩ b ∧
 Br (n != (2 : Int))
 (Done rRtC x F (Ending.returned (bool false)) [(0, F), (1, Atom.cells x_3.snd (chS x.c x.w) 28), (12050, Atom.cells b [string s, int i64 n, int i64 n_1, slice a l c, int i64 n_2, slice a_1 l_1 c_1, slice a_2 l_2 c_2, slice a_3 l_3 c_3, slice a_4 l_4 c_4, slice a_5 l_5 c_5, int i64 n_3, slice a_6 l_6 c_6, string s_1] 61)])
 (∃ (x_6 : RrI),
 ((RrQ x F x_6 ∧ newB x.c = (x_6.s.trans.all (okTr x.c (↑x_6.k : Int) x_6.s) && stsB x.c (x_6.k + 1) (List.drop (x_6.k + 1) x.c.sts))) ∧ x_6.k = n_4) ∧
 (pointer (some ⟨x_3.snd, 0, none⟩) = pointer (some ⟨x_6.b, 0, none⟩) ∧ int i64 (↑x_3.fst : Int) = int i64 (↑x_6.k : Int) ∧ pointer (some ⟨b, 0, none⟩) = pointer (some ⟨x_6.b2, 0, none⟩) ∧ True) ∧
 Ent [(0, F), (1, Atom.cells x_3.snd (chS x.c x.w) 28), (12050, Atom.cells b [string s, int i64 n, int i64 n_1, slice a l c, int i64 n_2, slice a_1 l_1 c_1, slice a_2 l_2 c_2, slice a_3 l_3 c_3, slice a_4 l_4 c_4, slice a_5 l_5 c_5, int i64 n_3, slice a_6 l_6 c_6, string s_1] 61)]
 [(0, F), (1, Atom.cells x_6.b (chS x.c x.w) 28),
 (2, Atom.cells x_6.b2 [string x_6.s.id, int i64 x_6.s.kind, int i64 x_6.s.parent, slice x_6.vk.a x_6.vk.n x_6.vk.cap, int i64 x_6.s.init, slice x_6.ve.a x_6.ve.n x_6.ve.cap, slice x_6.vx.a x_6.vx.n x_6.vx.cap, slice x_6.vt.a x_6.vt.n x_6.vt.cap, slice x_6.vd.a x_6.vd.n x_6.vd.cap, slice x_6.vi.a x_6.vi.n x_6.vi.cap, int i64 x_6.s.done.kind, slice x_6.vp.a x_6.vp.n x_6.vp.cap, string x_6.s.done.body] 61)]))
 (∃ (x_6 : RrI),
 ((RrQ x F x_6 ∧ newB x.c = (x_6.s.trans.all (okTr x.c (↑x_6.k : Int) x_6.s) && stsB x.c (x_6.k + 1) (List.drop (x_6.k + 1) x.c.sts))) ∧ x_6.k = n_4) ∧
 (pointer (some ⟨x_3.snd, 0, none⟩) = pointer (some ⟨x_6.b, 0, none⟩) ∧ int i64 (↑x_3.fst : Int) = int i64 (↑x_6.k : Int) ∧ pointer (some ⟨b, 0, none⟩) = pointer (some ⟨x_6.b2, 0, none⟩) ∧ True) ∧
 Ent [(0, F), (1, Atom.cells x_3.snd (chS x.c x.w) 28), (12050, Atom.cells b [string s, int i64 n, int i64 n_1, slice a l c, int i64 n_2, slice a_1 l_1 c_1, slice a_2 l_2 c_2, slice a_3 l_3 c_3, slice a_4 l_4 c_4, slice a_5 l_5 c_5, int i64 n_3, slice a_6 l_6 c_6, string s_1] 61)]
 [(0, F), (1, Atom.cells x_6.b (chS x.c x.w) 28),
 (2, Atom.cells x_6.b2 [string x_6.s.id, int i64 x_6.s.kind, int i64 x_6.s.parent, slice x_6.vk.a x_6.vk.n x_6.vk.cap, int i64 x_6.s.init, slice x_6.ve.a x_6.ve.n x_6.ve.cap, slice x_6.vx.a x_6.vx.n x_6.vx.cap, slice x_6.vt.a x_6.vt.n x_6.vt.cap, slice x_6.vd.a x_6.vd.n x_6.vd.cap, slice x_6.vi.a x_6.vi.n x_6.vi.cap, int i64 x_6.s.done.kind, slice x_6.vp.a x_6.vp.n x_6.vp.cap, string x_6.s.done.body] 61)]))
 (∃ (x_6 : RrI),
 ((RrQ x F x_6 ∧ newB x.c = (x_6.s.trans.all (okTr x.c (↑x_6.k : Int) x_6.s) && stsB x.c (x_6.k + 1) (List.drop (x_6.k + 1) x.c.sts))) ∧ x_6.k = n_4) ∧
 (pointer (some ⟨x_3.snd, 0, none⟩) = pointer (some ⟨x_6.b, 0, none⟩) ∧ int i64 (↑x_3.fst : Int) = int i64 (↑x_6.k : Int) ∧ pointer (some ⟨b, 0, none⟩) = pointer (some ⟨x_6.b2, 0, none⟩) ∧ True) ∧
 Ent [(0, F), (1, Atom.cells x_3.snd (chS x.c x.w) 28), (12050, Atom.cells b [string s, int i64 n, int i64 n_1, slice a l c, int i64 n_2, slice a_1 l_1 c_1, slice a_2 l_2 c_2, slice a_3 l_3 c_3, slice a_4 l_4 c_4, slice a_5 l_5 c_5, int i64 n_3, slice a_6 l_6 c_6, string s_1] 61)]
 [(0, F), (1, Atom.cells x_6.b (chS x.c x.w) 28),
 (2, Atom.cells x_6.b2 [string x_6.s.id, int i64 x_6.s.kind, int i64 x_6.s.parent, slice x_6.vk.a x_6.vk.n x_6.vk.cap, int i64 x_6.s.init, slice x_6.ve.a x_6.ve.n x_6.ve.cap, slice x_6.vx.a x_6.vx.n x_6.vx.cap, slice x_6.vt.a x_6.vt.n x_6.vt.cap, slice x_6.vd.a x_6.vd.n x_6.vd.cap, slice x_6.vi.a x_6.vi.n x_6.vi.cap, int i64 x_6.s.done.kind, slice x_6.vp.a x_6.vp.n x_6.vp.cap, string x_6.s.done.body] 61)]))) ∧
 ∀ (x_5 : RrI) (js : Nat → Value),
 (RrQ x F x_5 ∧ newB x.c = (x_5.s.trans.all (okTr x.c (↑x_5.k : Int) x_5.s) && stsB x.c (x_5.k + 1) (List.drop (x_5.k + 1) x.c.sts))) ∧ x_5.k = n_4 →
 ∃ (n : Nat),
 (∃ (x_6 : RrI),
 ((RrQ x F x_6 ∧ x_6.j ≤ x_6.s.trans.length ∧ newB x.c = ((List.drop x_6.j x_6.s.trans).all (okTr x.c (↑x_6.k : Int) x_6.s) && stsB x.c (x_6.k + 1) (List.drop (x_6.k + 1) x.c.sts))) ∧ x_6.k = n) ∧
 (pointer (some ⟨x_5.b, 0, none⟩) = pointer (some ⟨x_6.b, 0, none⟩) ∧ int i64 (↑x_5.k : Int) = int i64 (↑x_6.k : Int) ∧ pointer (some ⟨x_5.b2, 0, none⟩) = pointer (some ⟨x_6.b2, 0, none⟩) ∧ int i64 (0 : Int) = int i64 (↑x_6.j : Int) ∧ True) ∧
 Ent
 [(0, F), (1, Atom.cells x_5.b (chS x.c x.w) 28),
 (2, Atom.cells x_5.b2 [string x_5.s.id, int i64 x_5.s.kind, int i64 x_5.s.parent, slice x_5.vk.a x_5.vk.n x_5.vk.cap, int i64 x_5.s.init, slice x_5.ve.a x_5.ve.n x_5.ve.cap, slice x_5.vx.a x_5.vx.n x_5.vx.cap, slice x_5.vt.a x_5.vt.n x_5.vt.cap, slice x_5.vd.a x_5.vd.n x_5.vd.cap, slice x_5.vi.a x_5.vi.n x_5.vi.cap, int i64 x_5.s.done.kind, slice x_5.vp.a x_5.vp.n x_5.vp.cap, string x_5.s.done.body] 61)]
 [(0, F), (1, Atom.cells x_6.b (chS x.c x.w) 28),
 (2, Atom.cells x_6.b2 [string x_6.s.id, int i64 x_6.s.kind, int i64 x_6.s.parent, slice x_6.vk.a x_6.vk.n x_6.vk.cap, int i64 x_6.s.init, slice x_6.ve.a x_6.ve.n x_6.ve.cap, slice x_6.vx.a x_6.vx.n x_6.vx.cap, slice x_6.vt.a x_6.vt.n x_6.vt.cap, slice x_6.vd.a x_6.vd.n x_6.vd.cap, slice x_6.vi.a x_6.vi.n x_6.vi.cap, int i64 x_6.s.done.kind, slice x_6.vp.a x_6.vp.n x_6.vp.cap, string x_6.s.done.body] 61)]) ∧
 ∀ (x_6 : RrI) (js : Nat → Value),
 (RrQ x F x_6 ∧ x_6.j ≤ x_6.s.trans.length ∧ newB x.c = ((List.drop x_6.j x_6.s.trans).all (okTr x.c (↑x_6.k : Int) x_6.s) && stsB x.c (x_6.k + 1) (List.drop (x_6.k + 1) x.c.sts))) ∧ x_6.k = n →
 Same ⟨x_6.b2, 7, none⟩ x_6.b2 ∧
 Br (decide ((↑x_6.j : Int) < (↑x_6.vt.n : Int)))
 (true = true ∧
 Same ⟨x_6.b2, 7, none⟩ x_6.b2 ∧
 QOpOk Try.prog (opIn Try.f12 17 3) (ixQ 1) ∧
 ∃ (x_7 : IxQX),
 [slice x_6.vt.a x_6.vt.n x_6.vt.cap, int i64 (↑x_6.j : Int)] = [slice (some ⟨x_7.b, x_7.o, none⟩) x_7.len x_7.cap, int i64 x_7.n] ∧
 ((0 : Int) ≤ x_7.n ∧ x_7.n < (↑x_7.len : Int)) ∧
 ∃ (n_5 : Int),
 Look F ⟨x_7.b, x_7.o + x_7.n.toNat * 1, none⟩ (int i64 n_5) ∧
 Br (decide (n_5 < (0 : Int)))
 (Done rRtC x F (Ending.returned (bool false))
 [(0, F), (1, Atom.cells x_6.b (chS x.c x.w) 28),
 (2, Atom.cells x_6.b2 [string x_6.s.id, int i64 x_6.s.kind, int i64 x_6.s.parent, slice x_6.vk.a x_6.vk.n x_6.vk.cap, int i64 x_6.s.init, slice x_6.ve.a x_6.ve.n x_6.ve.cap, slice x_6.vx.a x_6.vx.n x_6.vx.cap, slice x_6.vt.a x_6.vt.n x_6.vt.cap, slice x_6.vd.a x_6.vd.n x_6.vd.cap, slice x_6.vi.a x_6.vi.n x_6.vi.cap, int i64 x_6.s.done.kind, slice x_6.vp.a x_6.vp.n x_6.vp.cap, string x_6.s.done.body] 61)])
 (Same ⟨x_6.b2, 7, none⟩ x_6.b2 ∧
 QOpOk Try.prog (opIn Try.f12 17 10) (ixQ 1) ∧
 ∃ (x_8 : IxQX),
 [slice x_6.vt.a x_6.vt.n x_6.vt.cap, int i64 (↑x_6.j : Int)] = [slice (some ⟨x_8.b, x_8.o, none⟩) x_8.len x_8.cap, int i64 x_8.n] ∧
 ((0 : Int) ≤ x_8.n ∧ x_8.n < (↑x_8.len : Int)) ∧
 ∃ (n_6 : Int),
 Look F ⟨x_8.b, x_8.o + x_8.n.toNat * 1, none⟩ (int i64 n_6) ∧
 Same ⟨x_6.b, 4, none⟩ x_6.b ∧
 Br (decide (n_6 ≥ (↑x.w.vt.n : Int)))
 (Done rRtC x F (Ending.returned (bool false))
 [(0, F), (1, Atom.cells x_6.b (chS x.c x.w) 28),
 (2, Atom.cells x_6.b2 [string x_6.s.id, int i64 x_6.s.kind, int i64 x_6.s.parent, slice x_6.vk.a x_6.vk.n x_6.vk.cap, int i64 x_6.s.init, slice x_6.ve.a x_6.ve.n x_6.ve.cap, slice x_6.vx.a x_6.vx.n x_6.vx.cap, slice x_6.vt.a x_6.vt.n x_6.vt.cap, slice x_6.vd.a x_6.vd.n x_6.vd.cap, slice x_6.vi.a x_6.vi.n x_6.vi.cap, int i64 x_6.s.done.kind, slice x_6.vp.a x_6.vp.n x_6.vp.cap, string x_6.s.done.body] 61)])
 (Same ⟨x_6.b2, 7, none⟩ x_6.b2 ∧
 QOpOk Try.prog (opIn Try.f12 17 21) (ixQ 1) ∧
 ∃ (x_9 : IxQX),
 [slice x_6.vt.a x_6.vt.n x_6.vt.cap, int i64 (↑x_6.j : Int)] = [slice (some ⟨x_9.b, x_9.o, none⟩) x_9.len x_9.cap, int i64 x_9.n] ∧
 ((0 : Int) ≤ x_9.n ∧ x_9.n < (↑x_9.len : Int)) ∧
 ∃ (n_7 : Int),
 Look F ⟨x_9.b, x_9.o + x_9.n.toNat * 1, none⟩ (int i64 n_7) ∧
 Same ⟨x_6.b2, 4, none⟩ x_6.b2 ∧
 Br (n_7 == x_6.s.init)
 (Done rRtC x F (Ending.returned (bool false))
 [(0, F), (1, Atom.cells x_6.b (chS x.c x.w) 28),
 (2, Atom.cells x_6.b2 [string x_6.s.id, int i64 x_6.s.kind, int i64 x_6.s.parent, slice x_6.vk.a x_6.vk.n x_6.vk.cap, int i64 x_6.s.init, slice x_6.ve.a x_6.ve.n x_6.ve.cap, slice x_6.vx.a x_6.vx.n x_6.vx.cap, slice x_6.vt.a x_6.vt.n x_6.vt.cap, slice x_6.vd.a x_6.vd.n x_6.vd.cap, slice x_6.vi.a x_6.vi.n x_6.vi.cap, int i64 x_6.s.done.kind, slice x_6.vp.a x_6.vp.n x_6.vp.cap, string x_6.s.done.body] 61)])
 (Same ⟨x_6.b, 4, none⟩ x_6.b ∧
 Same ⟨x_6.b2, 7, none⟩ x_6.b2 ∧
 QOpOk Try.prog (opIn Try.f12 17 33) (ixQ 1) ∧
 ∃ (x_10 : IxQX),
 [slice x_6.vt.a x_6.vt.n x_6.vt.cap, int i64 (↑x_6.j : Int)] = [slice (some ⟨x_10.b, x_10.o, none⟩) x_10.len x_10.cap, int i64 x_10.n] ∧
 ((0 : Int) ≤ x_10.n ∧ x_10.n < (↑x_10.len : Int)) ∧
 ∃ (n_8 : Int),
 Look F ⟨x_10.b, x_10.o + x_10.n.toNat * 1, none⟩ (int i64 n_8) ∧
 QOpOk Try.prog (opIn Try.f12 17 35) (ixQ 6) ∧
 ∃ (x_11 : IxQX),
 [slice x.w.vt.a x.w.vt.n x.w.vt.cap, int i64 n_8] = [slice (some ⟨x_11.b, x_11.o, none⟩) x_11.len x_11.cap, int i64 x_11.n] ∧
 ((0 : Int) ≤ x_11.n ∧ x_11.n < (↑x_11.len : Int)) ∧
 ∃ (n_9 : Int),
 Look F ⟨x_11.b, x_11.o + x_11.n.toNat * 6, none⟩ (int i64 n_9) ∧
 Br (n_9 != (↑x_6.k : Int))
 (Done rRtC x F (Ending.returned (bool false))
 [(0, F), (1, Atom.cells x_6.b (chS x.c x.w) 28),
 (2, Atom.cells x_6.b2 [string x_6.s.id, int i64 x_6.s.kind, int i64 x_6.s.parent, slice x_6.vk.a x_6.vk.n x_6.vk.cap, int i64 x_6.s.init, slice x_6.ve.a x_6.ve.n x_6.ve.cap, slice x_6.vx.a x_6.vx.n x_6.vx.cap, slice x_6.vt.a x_6.vt.n x_6.vt.cap, slice x_6.vd.a x_6.vd.n x_6.vd.cap, slice x_6.vi.a x_6.vi.n x_6.vi.cap, int i64 x_6.s.done.kind, slice x_6.vp.a x_6.vp.n x_6.vp.cap, string x_6.s.done.body] 61)])
 (((-9223372036854775808 : Int) ≤ (↑x_6.j : Int) + (1 : Int) ∧ (↑x_6.j : Int) + (1 : Int) ≤ (9223372036854775807 : Int)) ∧
 ∃ (y : RrI),
 ((RrQ x F y ∧ y.j ≤ y.s.trans.length ∧ newB x.c = ((List.drop y.j y.s.trans).all (okTr x.c (↑y.k : Int) y.s) && stsB x.c (y.k + 1) (List.drop (y.k + 1) x.c.sts))) ∧ y.k = n) ∧
 (pointer (some ⟨x_6.b, 0, none⟩) = pointer (some ⟨y.b, 0, none⟩) ∧ int i64 (↑x_6.k : Int) = int i64 (↑y.k : Int) ∧ pointer (some ⟨x_6.b2, 0, none⟩) = pointer (some ⟨y.b2, 0, none⟩) ∧ int i64 ((↑x_6.j : Int) + (1 : Int)) = int i64 (↑y.j : Int) ∧ True) ∧
 Ent
 [(0, F), (1, Atom.cells x_6.b (chS x.c x.w) 28),
 (2, Atom.cells x_6.b2 [string x_6.s.id, int i64 x_6.s.kind, int i64 x_6.s.parent, slice x_6.vk.a x_6.vk.n x_6.vk.cap, int i64 x_6.s.init, slice x_6.ve.a x_6.ve.n x_6.ve.cap, slice x_6.vx.a x_6.vx.n x_6.vx.cap, slice x_6.vt.a x_6.vt.n x_6.vt.cap, slice x_6.vd.a x_6.vd.n x_6.vd.cap, slice x_6.vi.a x_6.vi.n x_6.vi.cap, int i64 x_6.s.done.kind, slice x_6.vp.a x_6.vp.n x_6.vp.cap, string x_6.s.done.body] 61)]
 [(0, F), (1, Atom.cells y.b (chS x.c x.w) 28),
 (2, Atom.cells y.b2 [string y.s.id, int i64 y.s.kind, int i64 y.s.parent, slice y.vk.a y.vk.n y.vk.cap, int i64 y.s.init, slice y.ve.a y.ve.n y.ve.cap, slice y.vx.a y.vx.n y.vx.cap, slice y.vt.a y.vt.n y.vt.cap, slice y.vd.a y.vd.n y.vd.cap, slice y.vi.a y.vi.n y.vi.cap, int i64 y.s.done.kind, slice y.vp.a y.vp.n y.vp.cap, string y.s.done.body] 61)] ∧
 y.s.trans.length - y.j < x_6.s.trans.length - x_6.j)))))
 (((-9223372036854775808 : Int) ≤ (↑x_6.k : Int) + (1 : Int) ∧ (↑x_6.k : Int) + (1 : Int) ≤ (9223372036854775807 : Int)) ∧
 ∃ (y : Nat × Nat),
 (RrP x.c ∧ TgtOk x.c ∧ y.fst ≤ nS x.c ∧ newB x.c = stsB x.c y.fst (List.drop y.fst x.c.sts)) ∧
 (pointer (some ⟨x_6.b, 0, none⟩) = pointer (some ⟨y.snd, 0, none⟩) ∧ int i64 ((↑x_6.k : Int) + (1 : Int)) = int i64 (↑y.fst : Int) ∧ True) ∧
 Ent
 [(0, F), (1, Atom.cells x_6.b (chS x.c x.w) 28),
 (2, Atom.cells x_6.b2 [string x_6.s.id, int i64 x_6.s.kind, int i64 x_6.s.parent, slice x_6.vk.a x_6.vk.n x_6.vk.cap, int i64 x_6.s.init, slice x_6.ve.a x_6.ve.n x_6.ve.cap, slice x_6.vx.a x_6.vx.n x_6.vx.cap, slice x_6.vt.a x_6.vt.n x_6.vt.cap, slice x_6.vd.a x_6.vd.n x_6.vd.cap, slice x_6.vi.a x_6.vi.n x_6.vi.cap, int i64 x_6.s.done.kind, slice x_6.vp.a x_6.vp.n x_6.vp.cap, string x_6.s.done.body] 61)]
 [(0, F), (1, Atom.cells y.snd (chS x.c x.w) 28)] ∧
 nS x.c - y.fst < nS x.c - x_3.fst))
 (Done rRtC x F (Ending.returned (bool true)) [(0, F), (1, Atom.cells x_3.snd (chS x.c x.w) 28)])))) := by
  obtain ⟨c, w⟩ := x
  replace hr : ChIn F w.v c := hr
  obtain ⟨hn, hnb⟩ := hr.num
  obtain ⟨htn, htb⟩ := hr.numT
  have no : ∀ {S : St}, Ent S (ofL [F]) → newB c = false → Done rRtC ⟨c, w⟩ F (.returned (.bool false)) S := fun hS h => ⟨⟨(), trivial, retB h.symm, hS⟩⟩
  intro b1
  iterate 8 refine ⟨⟨rfl, rfl⟩, ?_⟩
  refine ⟨rpl_ok, rfl, ⟨c, w⟩, rfl, rfl, trivial, hr.sub (sub_rest 0 (by simp) rfl), fun _ _ => br_intro (fun q => no (Ent.pick [0] rfl rfl) (newB_no fun hp _ _ => ?_)) (fun q => ⟨⟨rfl, rfl⟩, br_decide (fun q => no (Ent.pick [0] rfl rfl) (newB_no fun _ h _ => ?_)) (fun q2 => ?_)⟩)⟩
  · dsimp only at q
    rw [placedB_spec.2 hp] at q; cases q
  · dsimp only at q; omega
  have hp : Placed c := placedB_spec.1 (by dsimp only at q; simpa using q)
  have hP : RrP c := ⟨hp, by dsimp only at q2; omega⟩
  have hnew : newB c = (c.trs.all (aimB c) && stsB c 0 c.sts) := by
    show newB c = transB c
    rw [Bool.eq_iff_iff, newB_spec]
    exact ⟨fun h => h.2.2, fun h => ⟨hP.1, hP.2, h⟩⟩
  clear q q2
  have hn2 := hp.n2
  have hn128 := hp.n128
  obtain ⟨b0, o0, ea, hst⟩ := hr.stsAt (by omega)
  refine ⟨⟨(0, b1), ⟨hP, Nat.zero_le _, fun j t h => absurd h (Nat.not_lt_zero j), hnew⟩, ⟨rfl, rfl, trivial⟩, Ent.pick [0, 1000] rfl rfl⟩, ?_⟩
  clear hnew b1
  rintro ⟨k, b1⟩ js ⟨-, g2, g3, g4⟩
  dsimp only at g2 g3 g4 ⊢
  refine ⟨⟨rfl, rfl⟩, br_decide (fun hlt => ?_) (fun hge => ?_)⟩
  · obtain ⟨t, ht⟩ : ∃ t, c.trs[k]? = some t := ⟨_, List.getElem?_eq_getElem (by omega)⟩
    obtain ⟨tb, to, rt, et, ⟨tve, tvt, rfl, tp1, tp2⟩, tL⟩ := hr.trsAt ht
    obtain ⟨eta, etc, rfl, -⟩ := SlIn.open tp1
    obtain ⟨tta, ttc, rfl, -⟩ := SlIn.open tp2
    rw [drop_g ht, List.all_cons] at g4
    refine ⟨rfl, ?_⟩
    iterate 8 refine ⟨⟨rfl, rfl⟩, ?_⟩
    refine ⟨⟨rfl, rfl⟩, ixq_ok 6 rfl rfl rfl rfl, ⟨tb, to, w.vt.n, w.vt.cap, k⟩, by dsimp only; rw [et], by dsimp only; omega, t.source, tL 0 _ rfl, _, _, _, tL 1 _ rfl, t.cond, tL 2 _ rfl, _, _, _, tL 3 _ rfl, t.internal, tL 4 _ rfl, t.block, tL 5 _ rfl, ram_ok, rfl, ⟨c, w, t, ⟨eta, t.events.length, etc⟩, ⟨tta, t.targets.length, ttc⟩⟩, rfl, rfl, hp, ⟨hr.sub (sub_rest 0 (by simp) rfl), IntsIn.sub (sub_rest 0 (by simp) rfl) tp2⟩, fun _ _ => br_intro (fun q => no (Ent.pick [0] rfl rfl) ?_) (fun q => ⟨by omega, (k + 1, b1), ⟨hP, by dsimp only; omega, fun j t' hj ht' => ?_, ?_⟩, ⟨rfl, rfl, trivial⟩, Ent.pick [0, 1] rfl rfl, by dsimp only; omega⟩)⟩
    · dsimp only at q
      have q : aimB c t = false := by simpa using q
      rw [g4, q]; rfl
    · dsimp only at q hj
      have q : aimB c t = true := by simpa using q
      by_cases e : j < k
      · exact g3 j t' e ht'
      · have e : j = k := by omega
        subst e
        rw [ht] at ht'
        cases ht'
        exact q
    · dsimp only at q ⊢
      have q : aimB c t = true := by simpa using q
      rw [g4, q, Bool.true_and]
  · have hkn : k = c.trs.length := by omega
    have htg : TgtOk c := fun i t ht u hu => by
      have hi := (List.getElem?_eq_some_iff.1 ht).1
      have := g3 i t (by omega) ht
      unfold aimB at this
      rw [Bool.and_eq_true] at this
      exact aimT_mem _ _ this.2 u hu
    rw [List.drop_eq_nil_of_le (by omega), List.all_nil, Bool.true_and] at g4
    refine ⟨⟨(0, b1), ⟨hP, htg, Nat.zero_le _, g4⟩, ⟨rfl, rfl, trivial⟩, Ent.pick [0, 1] rfl rfl⟩, ?_⟩
    clear g2 g3 g4 hge hkn b1 k
    rintro ⟨k, b1⟩ js2 ⟨-, -, g3, g4⟩
    dsimp only at g3 g4 ⊢
    refine ⟨⟨rfl, rfl⟩, br_decide (fun hlt => ?_) (fun hge => ⟨(), trivial, retB ?_, Ent.pick [0] rfl rfl⟩)⟩
    · have hk : k < nS c := by omega
      obtain ⟨s, hs⟩ := get_st hk
      obtain ⟨r, ⟨vk, ve, vx, vt, vd, vi, vp, rfl, p1, p2, p3, p4, p5, p6, p7⟩, hL⟩ := hst k s hs
      obtain ⟨ka, kc, rfl, -⟩ := SlIn.open p1
      obtain ⟨ea2, ec, rfl, -⟩ := SlIn.open p2
      obtain ⟨xa, xc, rfl, -⟩ := SlIn.open p3
      obtain ⟨ta, tc, rfl, -, -, htb2, -⟩ := SlIn.open p4
      obtain ⟨da, dc, rfl, -⟩ := SlIn.open p5
      obtain ⟨ia, ic, rfl, -⟩ := SlIn.open p6
      obtain ⟨pa, pc, rfl, -⟩ := SlIn.open p7
      rw [drop_g hs, stsB] at g4
      refine ⟨⟨rfl, rfl⟩, ixq_ok 13 rfl rfl rfl rfl, ⟨b0, o0, w.vs.n, w.vs.cap, k⟩, by dsimp only; rw [ea], by dsimp only; omega, s.id, hL 0 _ rfl, s.kind, hL 1 _ rfl, s.parent, hL 2 _ rfl, _, _, _, hL 3 _ rfl, s.init, hL 4 _ rfl, _, _, _, hL 5 _ rfl, _, _, _, hL 6 _ rfl, _, _, _, hL 7 _ rfl, _, _, _, hL 8 _ rfl, _, _, _, hL 9 _ rfl, s.done.kind, hL 10 _ rfl, _, _, _, hL 11 _ rfl, s.done.body, hL 12 _ rfl, fun bs => ?_⟩
      iterate 13 refine ⟨⟨rfl, rfl⟩, ?_⟩
      have start : (s.trans.length = 0 ∨ s.kind = 1 ∨ s.kind = 2) → initB c k s = true → ∃ x : RrI, ((RrQ ⟨c, w⟩ F x ∧ newB c = (x.s.trans.all (okTr c x.k x.s) && stsB c (x.k + 1) (c.sts.drop (x.k + 1)))) ∧ x.k = k) ∧ (Value.pointer (some ⟨b1, 0, none⟩) = .pointer (some ⟨x.b, 0, none⟩) ∧ Value.int .i64 k = .int .i64 x.k ∧ Value.pointer (some ⟨bs, 0, none⟩) = .pointer (some ⟨x.b2, 0, none⟩) ∧ True) ∧ Ent [(0, F), (1, .cells b1 (chS c w) 28), (12050, .cells bs [.string s.id, .int .i64 s.kind, .int .i64 s.parent, .slice ka s.kids.length kc, .int .i64 s.init, .slice ea2 s.entry.length ec, .slice xa s.exit.length xc, .slice ta s.trans.length tc, .slice da s.data.length dc, .slice ia s.invs.length ic, .int .i64 s.done.kind, .slice pa s.done.params.length pc, .string s.done.body] 61)] (ofL (x.st3 ⟨c, w⟩ F)) := fun h hb =>
        ⟨⟨k, b1, bs, 0, s, ⟨ka, s.kids.length, kc⟩, ⟨ea2, s.entry.length, ec⟩, ⟨xa, s.exit.length, xc⟩, ⟨ta, s.trans.length, tc⟩, ⟨da, s.data.length, dc⟩, ⟨ia, s.invs.length, ic⟩, ⟨pa, s.done.params.length, pc⟩⟩, ⟨⟨⟨hP, htg, hs, p4, h⟩, by dsimp only; rw [g4, hb, Bool.true_and]⟩, rfl⟩, ⟨rfl, rfl, rfl, trivial⟩, Ent.pick [0, 1, 12050] rfl rfl⟩
      refine ⟨k, ?_, ?_⟩
      · iterate 8 refine ⟨⟨rfl, rfl⟩, ?_⟩
        refine ⟨rbe_ok, rfl, ⟨c, w, k, s⟩, rfl, rfl, ⟨hp, hs, htg⟩, hr.sub (sub_rest 0 (by simp) rfl), fun _ _ => br_intro (fun q => no (Ent.pick [0] rfl rfl) ?_) (fun q => ?_)⟩
        · dsimp only at q
          have q : initB c k s = false := by simpa using q
          rw [g4, q]; rfl
        · dsimp only at q
          have hb : initB c k s = true := by simpa using q
          refine ⟨⟨rfl, rfl⟩, br_decide (fun q1 => ⟨⟨rfl, rfl⟩, br_intro (fun q2 => ⟨⟨rfl, rfl⟩, br_intro (fun q3 => no (Ent.pick [0] rfl rfl) ?_) (fun q3 => start (.inr (.inr (by simpa using q3))) hb)⟩) (fun q2 => start (.inr (.inl (by simpa using q2))) hb)⟩) (fun q1 => start (.inl (by omega)) hb)⟩
          obtain ⟨u, us, hu⟩ : ∃ u us, s.trans = u :: us := by
            cases h : s.trans with
            | nil => rw [h] at q1; simp at q1
            | cons u us => exact ⟨u, us, rfl⟩
          rw [g4, hb, Bool.true_and, hu, List.all_cons]
          have : okTr c k s u = false := by
            unfold okTr
            rw [q2, q3]; rfl
          rw [this]; rfl
      clear start hL p1 p2 p3 p4 p5 p6 p7 g4 bs b1
      rintro ⟨k2, b1, b2, j0, s2, wk, we, wx, wt, wd, wi, wp⟩ js3 ⟨⟨⟨-, -, f3, f4, f5⟩, f6⟩, hkk⟩
      dsimp only at f3 f4 f5 f6 hkk ⊢
      subst hkk
      rw [hs] at f3
      cases f3
      refine ⟨k2, ⟨⟨k2, b1, b2, 0, s, wk, we, wx, wt, wd, wi, wp⟩, ⟨⟨⟨hP, htg, hs, f4, f5⟩, Nat.zero_le _, f6⟩, rfl⟩, ⟨rfl, rfl, rfl, rfl, trivial⟩, Ent.pick [0, 1, 2] rfl rfl⟩, ?_⟩
      clear f4 f6 b1 b2 wk we wx wt wd wi wp
      rintro ⟨k3, b1, b2, j, s3, wk, we, wx, wt, wd, wi, wp⟩ js4 ⟨⟨⟨-, -, f3, f4, -⟩, f6, f7⟩, hkk⟩
      dsimp only at f3 f4 f6 f7 hkk ⊢
      subst hkk
      rw [hs] at f3
      cases f3
      obtain ⟨hwn, -, hwb⟩ := SlIn.num f4
      refine ⟨⟨rfl, rfl⟩, br_decide (fun hlt2 => ?_) (fun hge2 => ⟨by omega, (k3 + 1, b1), ⟨hP, htg, hk, ?_⟩, ⟨rfl, rfl, trivial⟩, Ent.pick [0, 1] rfl rfl, by dsimp only; omega⟩)⟩
      · obtain ⟨u, hu⟩ : ∃ u, s.trans[j]? = some u := ⟨_, List.getElem?_eq_getElem (by omega)⟩
        obtain ⟨ub, uo, eu, hlk⟩ := kid_get f4 hu
        have hkd : s.kind = 1 ∨ s.kind = 2 := f5.resolve_left (by omega)
        rw [drop_g hu, List.all_cons, Bool.and_assoc] at f7
        have hok : okTr c k3 s u = bif decide (u < 0) then false else bif decide (u ≥ c.trs.length) then false else bif u == s.init then false else match c.trs[u.toNat]? with
          | none => false
          | some t => !(t.source != (k3 : Int)) := by
          unfold okTr
          have : (s.kind != 1 && s.kind != 2) = false := by
            rcases hkd with h | h <;> rw [h] <;> rfl
          rw [this]; rfl
        have bad : okTr c k3 s u = false → newB c = false := fun h => by rw [f7, h]; rfl
        refine ⟨rfl, ⟨rfl, rfl⟩, ixq_ok 1 rfl rfl rfl rfl, ⟨ub, uo, wt.n, wt.cap, j⟩, by dsimp only; rw [eu], by dsimp only; omega, u, hlk, br_decide (fun q => no (Ent.pick [0] rfl rfl) (bad ?_)) (fun q1 => ⟨⟨rfl, rfl⟩, ixq_ok 1 rfl rfl rfl rfl, ⟨ub, uo, wt.n, wt.cap, j⟩, by dsimp only; rw [eu], by dsimp only; omega, u, hlk, ⟨rfl, rfl⟩, br_decide (fun q => no (Ent.pick [0] rfl rfl) (bad ?_)) (fun q2 => ⟨⟨rfl, rfl⟩, ixq_ok 1 rfl rfl rfl rfl, ⟨ub, uo, wt.n, wt.cap, j⟩, by dsimp only; rw [eu], by dsimp only; omega, u, hlk, ⟨rfl, rfl⟩, br_intro (fun q => no (Ent.pick [0] rfl rfl) (bad ?_)) (fun q3 => ?_)⟩)⟩)⟩
        · rw [hok, decide_eq_true q]; rfl
        · rw [hok, decide_eq_false q1, decide_eq_true (by omega)]; rfl
        · rw [hok, decide_eq_false q1, decide_eq_false (by omega), q]; rfl
        · obtain ⟨m, rfl⟩ : ∃ m : Nat, u = m := ⟨u.toNat, by omega⟩
          obtain ⟨t, ht⟩ : ∃ t, c.trs[m]? = some t := ⟨_, List.getElem?_eq_getElem (by omega)⟩
          obtain ⟨tb, to, rt, et, ⟨tve, tvt, rfl, tp1, tp2⟩, tL⟩ := hr.trsAt ht
          have hok : okTr c k3 s m = !(t.source != (k3 : Int)) := by
            rw [hok, decide_eq_false q1, decide_eq_false (by omega), q3, Int.toNat_natCast, ht]; rfl
          refine ⟨⟨rfl, rfl⟩, ⟨rfl, rfl⟩, ixq_ok 1 rfl rfl rfl rfl, ⟨ub, uo, wt.n, wt.cap, j⟩, by dsimp only; rw [eu], by dsimp only; omega, m, hlk, ixq_ok 6 rfl rfl rfl rfl, ⟨tb, to, w.vt.n, w.vt.cap, m⟩, by dsimp only; rw [et], by dsimp only; omega, t.source, tL 0 _ rfl, br_intro (fun q => no (Ent.pick [0] rfl rfl) (bad ?_)) (fun q => ⟨by omega, ⟨k3, b1, b2, j + 1, s, wk, we, wx, wt, wd, wi, wp⟩, ⟨⟨⟨hP, htg, hs, f4, f5⟩, by dsimp only; omega, ?_⟩, rfl⟩, ⟨rfl, rfl, rfl, rfl, trivial⟩, Ent.pick [0, 1, 2] rfl rfl, by dsimp only; omega⟩)⟩
          · rw [hok, q]; rfl
          · dsimp only
            rw [f7, hok, q]; rfl
      · dsimp only
        rw [f7, List.drop_eq_nil_of_le (by omega), List.all_nil, Bool.true_and]
    · rw [List.drop_eq_nil_of_le (by unfold nS at *; omega)] at g4
      exact g4.symm
set_option maxRecDepth 100000 in
theorem rrt_ok : FnOk Try.prog 12 rRtC :=
  fnOk (N := 111) (by kernel_rfl) Try.func12 rfl (by kernel_rfl) (fun _ => Nat.le_of_ble_eq_true rfl) rrt_H [] fun x F hc hr => Eq.mpr (by kernel_rfl) (rrt_vc x F hc hr)
end Go.Proofs.Ytfmadkaiigiaiaa
