/- Two charts that are the same. -/
import Derived.Test.YtfmadkaiigiaiaaLatSA
set_option linter.all false
namespace Go.Proofs.Ytfmadkaiigiaiaa
open Go
set_option maxHeartbeats 1000000
structure SmX where
  c : ChD
  w1 : ChS
  w2 : ChS
def smC : Con where
  X := SmX
  Y := Unit
  args x := [chAgg x.c x.w1, chAgg x.c x.w2]
  pre _ := []
  cond _ := True
  rdc x F := ChIn F x.w1.v x.c ∧ ChIn F x.w2.v x.c
  rel _ _ := True
  val _ _ := .returned (.bool true)
  post _ _ := []
  rmono _ _ _ h hk := ⟨hk.1.sub h, hk.2.sub h⟩
structure SmI where
  k : Nat
  b1 : Nat
  b2 : Nat
  j : Nat
  xs : List ActD
def smS (x : SmX) (F : Atom) (i : SmI) : List Atom := [F, .cells i.b1 (chS x.c x.w1) 28, .cells i.b2 (chS x.c x.w2) 28]
def smL (i : SmI) (l : List (Nat × Value)) : List (Nat × Value) := [(2, .pointer (some ⟨i.b1, 0, none⟩)), (3, .pointer (some ⟨i.b2, 0, none⟩))] ++ l
def smInv (x : SmX) (F : Atom) : Nat → Option Inv := fun
  | 0 => some { X := SmI, P := fun i => i.k ≤ x.c.sts.length, mu := fun i => x.c.sts.length - i.k, lv := fun i => smL i [(5, .int .i64 i.k)], st := fun i => smS x F i }
  | 2 => some { X := SmI, P := fun i => i.k ≤ x.c.trs.length, mu := fun i => x.c.trs.length - i.k, lv := fun i => smL i [(6, .int .i64 i.k)], st := fun i => smS x F i }
  | 4 => some { X := SmI, P := fun i => i.k ≤ x.c.blks.length, mu := fun i => x.c.blks.length - i.k, lv := fun i => smL i [(7, .int .i64 i.k)], st := fun i => smS x F i }
  | 6 => some { X := SmI, P := fun i => x.c.blks[i.k]? = some i.xs ∧ i.j ≤ i.xs.length, gh := some ⟨Nat, fun i => i.k⟩, mu := fun i => i.xs.length - i.j, lv := fun i => smL i [(7, .int .i64 i.k), (8, .int .i64 i.j)], st := fun i => smS x F i }
  | 8 => some { X := SmI, P := fun i => i.k ≤ x.c.data.length, mu := fun i => x.c.data.length - i.k, lv := fun i => smL i [(9, .int .i64 i.k)], st := fun i => smS x F i }
  | 10 => some { X := SmI, P := fun i => i.k ≤ x.c.invs.length, mu := fun i => x.c.invs.length - i.k, lv := fun i => smL i [(10, .int .i64 i.k)], st := fun i => smS x F i }
  | _ => none
def sh6s : List LH := [.ex 0 (.int .i64), .ex 0 .slice, .ex 0 .str, .ex 0 .slice, .ex 0 .bool, .ex 0 (.int .i64)]
def sh19 : List LH := [.ex 0 (.int .i64), .ex 0 .str, .ex 0 .str, .ex 0 .str, .ex 0 .str, .ex 0 .str, .ex 0 .str, .ex 0 .str, .ex 0 (.int .i64), .ex 0 .str, .ex 0 .str, .ex 0 .str, .ex 0 .str, .ex 0 .str, .ex 0 .slice, .ex 0 .slice, .ex 0 (.int .i64), .ex 0 .slice, .ex 0 .str]
def sh8i : List LH := [.ex 0 .str, .ex 0 .str, .ex 0 (.int .i64), .ex 0 .bool, .ex 0 (.int .i64), .ex 0 .slice, .ex 0 .str, .ex 0 (.int .i64)]
def sh3 : List LH := [.ex 0 .str, .ex 0 .str, .ex 0 .str]
def smOv (_x : SmX) (_F : Atom) : List (Nat × Nat × OH) := [(0, 0, .n 1000), (0, 1, .n 1010), (1, 1, .q [.atj 1000]), (1, 3, .q [.atj 1010]), (1, 7, .q [.atj 1000]), (1, 9, .q [.atj 1010]), (1, 14, .q [.atj 1000]), (1, 16, .q [.atj 1010]), (1, 21, .q [.atj 1000]), (1, 24, .q [.atj 1010]), (1, 30, .q [.atj 1000]), (1, 33, .q [.atj 1010]), (1, 39, .q [.atj 1000]), (1, 42, .q [.atj 1010]), (1, 48, .q [.atj 1000]), (1, 51, .q [.atj 1010]), (1, 57, .q [.atj 1000]), (1, 60, .q [.atj 1010]), (4, 2, .q [.atj 1]), (6, 1, .q [.atj 1]), (6, 6, .q [.atj 2]), (9, 2, .q [.atj 1]), (11, 1, .q [.atj 1]), (11, 6, .q [.atj 2]), (14, 2, .q [.atj 1]), (16, 1, .q [.atj 1]), (16, 8, .q [.atj 2]), (19, 2, .q [.atj 1]), (21, 1, .q [.atj 1]), (21, 10, .q [.atj 2]), (24, 2, .q [.atj 1]), (26, 1, .q [.atj 1]), (26, 6, .q [.atj 2]), (29, 2, .q [.atj 1]), (31, 1, .q [.atj 1]), (31, 6, .q [.atj 2]),
  (6, 3, .qo (ixQ 13)), (6, 4, .q sh13), (6, 8, .qo (ixQ 13)), (6, 9, .q sh13), (6, 10, .c sSC [] []), (11, 3, .qo (ixQ 6)), (11, 4, .q sh6s), (11, 8, .qo (ixQ 6)), (11, 9, .q sh6s), (11, 10, .c sTC [] []),
  (16, 3, .qo (ixQ 1)), (16, 5, .q [.ex 0 .slice]), (16, 10, .qo (ixQ 1)), (16, 12, .q [.ex 0 .slice]), (19, 4, .qo (ixQ 1)), (19, 6, .q [.ex 0 .slice]), (21, 3, .qo (ixQ 1)), (21, 5, .q [.ex 0 .slice]), (21, 7, .qo (ixQ 19)), (21, 8, .q sh19), (21, 12, .qo (ixQ 1)), (21, 14, .q [.ex 0 .slice]), (21, 16, .qo (ixQ 19)), (21, 17, .q sh19), (21, 18, .c sAC [] []),
  (26, 3, .qo (ixQ 3)), (26, 4, .q sh3), (26, 8, .qo (ixQ 3)), (26, 9, .q sh3), (26, 10, .qo neqD), (31, 3, .qo (ixQ 8)), (31, 4, .q sh8i), (31, 8, .qo (ixQ 8)), (31, 9, .q sh8i), (31, 10, .c sVC [] [])]
noncomputable def sm_H (x : Con.X smC) (F : Atom) : Hints where
  op := hk ((smOv x F) ++ [])
  inv := smInv x F
  cut := (fun _ _ _ => none) x F
  ord := (fun _ => [])
open Go.Value (int slice string bool pointer agg tuple func) in
open Go.IntKind (i64) in
set_option maxRecDepth 100000 in
theorem sm_vc (x : SmX) (F : Atom) (hc : Con.cond smC x) (hr : Con.rdc smC x F) :
  ∀ (b b_1 : Nat),
 Same ⟨b, 0, none⟩ b ∧
 Same ⟨b_1, 0, none⟩ b_1 ∧
 Br (!x.c.name.toList == x.c.name.toList) (Done smC x F (Ending.returned (bool false)) [(0, F), (1000, Atom.cells b (chS x.c x.w1) 28), (1010, Atom.cells b_1 (chS x.c x.w2) 28)])
 (Same ⟨b, 1, none⟩ b ∧
 Same ⟨b_1, 1, none⟩ b_1 ∧
 Br (!x.c.late == x.c.late) (Done smC x F (Ending.returned (bool false)) [(0, F), (1000, Atom.cells b (chS x.c x.w1) 28), (1010, Atom.cells b_1 (chS x.c x.w2) 28)])
 (Same ⟨b, 2, none⟩ b ∧
 Same ⟨b_1, 2, none⟩ b_1 ∧
 Br (x.c.script != x.c.script) (Done smC x F (Ending.returned (bool false)) [(0, F), (1000, Atom.cells b (chS x.c x.w1) 28), (1010, Atom.cells b_1 (chS x.c x.w2) 28)])
 (Same ⟨b, 3, none⟩ b ∧
 Same ⟨b_1, 3, none⟩ b_1 ∧
 Br ((↑x.w1.vs.n : Int) != (↑x.w2.vs.n : Int)) (Done smC x F (Ending.returned (bool false)) [(0, F), (1000, Atom.cells b (chS x.c x.w1) 28), (1010, Atom.cells b_1 (chS x.c x.w2) 28)])
 (Same ⟨b, 4, none⟩ b ∧
 Same ⟨b_1, 4, none⟩ b_1 ∧
 Br ((↑x.w1.vt.n : Int) != (↑x.w2.vt.n : Int)) (Done smC x F (Ending.returned (bool false)) [(0, F), (1000, Atom.cells b (chS x.c x.w1) 28), (1010, Atom.cells b_1 (chS x.c x.w2) 28)])
 (Same ⟨b, 5, none⟩ b ∧
 Same ⟨b_1, 5, none⟩ b_1 ∧
 Br ((↑x.w1.vb.n : Int) != (↑x.w2.vb.n : Int)) (Done smC x F (Ending.returned (bool false)) [(0, F), (1000, Atom.cells b (chS x.c x.w1) 28), (1010, Atom.cells b_1 (chS x.c x.w2) 28)])
 (Same ⟨b, 6, none⟩ b ∧
 Same ⟨b_1, 6, none⟩ b_1 ∧
 Br ((↑x.w1.vd.n : Int) != (↑x.w2.vd.n : Int)) (Done smC x F (Ending.returned (bool false)) [(0, F), (1000, Atom.cells b (chS x.c x.w1) 28), (1010, Atom.cells b_1 (chS x.c x.w2) 28)])
 (Same ⟨b, 7, none⟩ b ∧
 Same ⟨b_1, 7, none⟩ b_1 ∧
 Br ((↑x.w1.vi.n : Int) != (↑x.w2.vi.n : Int)) (Done smC x F (Ending.returned (bool false)) [(0, F), (1000, Atom.cells b (chS x.c x.w1) 28), (1010, Atom.cells b_1 (chS x.c x.w2) 28)])
 ((∃ (x_1 : SmI),
 x_1.k ≤ x.c.sts.length ∧
 (pointer (some ⟨b, 0, none⟩) = pointer (some ⟨x_1.b1, 0, none⟩) ∧ pointer (some ⟨b_1, 0, none⟩) = pointer (some ⟨x_1.b2, 0, none⟩) ∧ int i64 (0 : Int) = int i64 (↑x_1.k : Int) ∧ True) ∧
 Ent [(0, F), (1000, Atom.cells b (chS x.c x.w1) 28), (1010, Atom.cells b_1 (chS x.c x.w2) 28)]
 [(0, F), (1, Atom.cells x_1.b1 (chS x.c x.w1) 28), (2, Atom.cells x_1.b2 (chS x.c x.w2) 28)]) ∧
 ∀ (x_1 : SmI) (js : Nat → Value),
 x_1.k ≤ x.c.sts.length →
 Same ⟨x_1.b1, 3, none⟩ x_1.b1 ∧
 Br (decide ((↑x_1.k : Int) < (↑x.w1.vs.n : Int)))
 (true = true ∧
 Same ⟨x_1.b1, 3, none⟩ x_1.b1 ∧
 QOpOk Try.prog (opIn Try.f13 6 3) (ixQ 13) ∧
 ∃ (x_2 : IxQX),
 [slice x.w1.vs.a x.w1.vs.n x.w1.vs.cap, int i64 (↑x_1.k : Int)] = [slice (some ⟨x_2.b, x_2.o, none⟩) x_2.len x_2.cap, int i64 x_2.n] ∧
 ((0 : Int) ≤ x_2.n ∧ x_2.n < (↑x_2.len : Int)) ∧
 ∃ (s : ByteArray),
 Look F ⟨x_2.b, x_2.o + x_2.n.toNat * 13, none⟩ (string s) ∧
 ∃ (n : Int),
 Look F ⟨x_2.b, x_2.o + x_2.n.toNat * 13 + 1, none⟩ (int i64 n) ∧
 ∃ (n_1 : Int),
 Look F ⟨x_2.b, x_2.o + x_2.n.toNat * 13 + 2, none⟩ (int i64 n_1) ∧
 ∃ (a : Option Addr),
 ∃ (l : Nat),
 ∃ (c : Nat),
 Look F ⟨x_2.b, x_2.o + x_2.n.toNat * 13 + 3, none⟩ (slice a l c) ∧
 ∃ (n_2 : Int),
 Look F ⟨x_2.b, x_2.o + x_2.n.toNat * 13 + 4, none⟩ (int i64 n_2) ∧
 ∃ (a_1 : Option Addr),
 ∃ (l_1 : Nat),
 ∃ (c_1 : Nat),
 Look F ⟨x_2.b, x_2.o + x_2.n.toNat * 13 + 5, none⟩ (slice a_1 l_1 c_1) ∧
 ∃ (a_2 : Option Addr),
 ∃ (l_2 : Nat),
 ∃ (c_2 : Nat),
 Look F ⟨x_2.b, x_2.o + x_2.n.toNat * 13 + 6, none⟩ (slice a_2 l_2 c_2) ∧
 ∃ (a_3 : Option Addr),
 ∃ (l_3 : Nat),
 ∃ (c_3 : Nat),
 Look F ⟨x_2.b, x_2.o + x_2.n.toNat * 13 + 7, none⟩ (slice a_3 l_3 c_3) ∧
 ∃ (a_4 : Option Addr),
 ∃ (l_4 : Nat),
 ∃ (c_4 : Nat),
 Look F ⟨x_2.b, x_2.o + x_2.n.toNat * 13 + 8, none⟩ (slice a_4 l_4 c_4) ∧
 ∃ (a_5 : Option Addr),
 ∃ (l_5 : Nat),
 ∃ (c_5 : Nat),
 Look F ⟨x_2.b, x_2.o + x_2.n.toNat * 13 + 9, none⟩ (slice a_5 l_5 c_5) ∧
 ∃ (n_3 : Int),
 Look F ⟨x_2.b, x_2.o + x_2.n.toNat * 13 + 10, none⟩ (int i64 n_3) ∧
 ∃ (a_6 : Option Addr),
 ∃ (l_6 : Nat),
 ∃ (c_6 : Nat),
 Look F ⟨x_2.b, x_2.o + x_2.n.toNat * 13 + 11, none⟩ (slice a_6 l_6 c_6) ∧
 ∃ (s_1 : ByteArray),
 Look F ⟨x_2.b, x_2.o + x_2.n.toNat * 13 + 12, none⟩ (string s_1) ∧
 Same ⟨x_1.b2, 3, none⟩ x_1.b2 ∧
 QOpOk Try.prog (opIn Try.f13 6 8) (ixQ 13) ∧
 ∃ (x_3 : IxQX),
 [slice x.w2.vs.a x.w2.vs.n x.w2.vs.cap, int i64 (↑x_1.k : Int)] = [slice (some ⟨x_3.b, x_3.o, none⟩) x_3.len x_3.cap, int i64 x_3.n] ∧
 ((0 : Int) ≤ x_3.n ∧ x_3.n < (↑x_3.len : Int)) ∧
 ∃ (s_2 : ByteArray),
 Look F ⟨x_3.b, x_3.o + x_3.n.toNat * 13, none⟩ (string s_2) ∧
 ∃ (n_4 : Int),
 Look F ⟨x_3.b, x_3.o + x_3.n.toNat * 13 + 1, none⟩ (int i64 n_4) ∧
 ∃ (n_5 : Int),
 Look F ⟨x_3.b, x_3.o + x_3.n.toNat * 13 + 2, none⟩ (int i64 n_5) ∧
 ∃ (a_7 : Option Addr),
 ∃ (l_7 : Nat),
 ∃ (c_7 : Nat),
 Look F ⟨x_3.b, x_3.o + x_3.n.toNat * 13 + 3, none⟩ (slice a_7 l_7 c_7) ∧
 ∃ (n_6 : Int),
 Look F ⟨x_3.b, x_3.o + x_3.n.toNat * 13 + 4, none⟩ (int i64 n_6) ∧
 ∃ (a_8 : Option Addr),
 ∃ (l_8 : Nat),
 ∃ (c_8 : Nat),
 Look F ⟨x_3.b, x_3.o + x_3.n.toNat * 13 + 5, none⟩ (slice a_8 l_8 c_8) ∧
 ∃ (a_9 : Option Addr),
 ∃ (l_9 : Nat),
 ∃ (c_9 : Nat),
 Look F ⟨x_3.b, x_3.o + x_3.n.toNat * 13 + 6, none⟩ (slice a_9 l_9 c_9) ∧
 ∃ (a_10 : Option Addr),
 ∃ (l_10 : Nat),
 ∃ (c_10 : Nat),
 Look F ⟨x_3.b, x_3.o + x_3.n.toNat * 13 + 7, none⟩ (slice a_10 l_10 c_10) ∧
 ∃ (a_11 : Option Addr),
 ∃ (l_11 : Nat),
 ∃ (c_11 : Nat),
 Look F ⟨x_3.b, x_3.o + x_3.n.toNat * 13 + 8, none⟩ (slice a_11 l_11 c_11) ∧
 ∃ (a_12 : Option Addr),
 ∃ (l_12 : Nat),
 ∃ (c_12 : Nat),
 Look F ⟨x_3.b, x_3.o + x_3.n.toNat * 13 + 9, none⟩ (slice a_12 l_12 c_12) ∧
 ∃ (n_7 : Int),
 Look F ⟨x_3.b, x_3.o + x_3.n.toNat * 13 + 10, none⟩ (int i64 n_7) ∧
 ∃ (a_13 : Option Addr),
 ∃ (l_13 : Nat),
 ∃ (c_13 : Nat),
 Look F ⟨x_3.b, x_3.o + x_3.n.toNat * 13 + 11, none⟩ (slice a_13 l_13 c_13) ∧
 ∃ (s_3 : ByteArray),
 Look F ⟨x_3.b, x_3.o + x_3.n.toNat * 13 + 12, none⟩ (string s_3) ∧
 FnOk Try.prog 47 sSC ∧
 true = true ∧
 ∃ (x_4 : sSX),
 [agg { toList := [string s, int i64 n, int i64 n_1, slice a l c, int i64 n_2, slice a_1 l_1 c_1, slice a_2 l_2 c_2, slice a_3 l_3 c_3, slice a_4 l_4 c_4, slice a_5 l_5 c_5, int i64 n_3, slice a_6 l_6 c_6, string s_1] }, agg { toList := [string s_2, int i64 n_4, int i64 n_5, slice a_7 l_7 c_7, int i64 n_6, slice a_8 l_8 c_8, slice a_9 l_9 c_9, slice a_10 l_10 c_10, slice a_11 l_11 c_11, slice a_12 l_12 c_12, int i64 n_7, slice a_13 l_13 c_13, string s_3] }] =
 [agg { toList := [string x_4.s.id, int i64 x_4.s.kind, int i64 x_4.s.parent, slice x_4.k1.a x_4.k1.n x_4.k1.cap, int i64 x_4.s.init, slice x_4.e1.a x_4.e1.n x_4.e1.cap, slice x_4.x1.a x_4.x1.n x_4.x1.cap, slice x_4.t1.a x_4.t1.n x_4.t1.cap, slice x_4.d1.a x_4.d1.n x_4.d1.cap, slice x_4.i1.a x_4.i1.n x_4.i1.cap, int i64 x_4.s.done.kind, slice x_4.p1.a x_4.p1.n x_4.p1.cap, string x_4.s.done.body] },
 agg { toList := [string x_4.s.id, int i64 x_4.s.kind, int i64 x_4.s.parent, slice x_4.k2.a x_4.k2.n x_4.k2.cap, int i64 x_4.s.init, slice x_4.e2.a x_4.e2.n x_4.e2.cap, slice x_4.x2.a x_4.x2.n x_4.x2.cap, slice x_4.t2.a x_4.t2.n x_4.t2.cap, slice x_4.d2.a x_4.d2.n x_4.d2.cap, slice x_4.i2.a x_4.i2.n x_4.i2.cap, int i64 x_4.s.done.kind, slice x_4.p2.a x_4.p2.n x_4.p2.cap, string x_4.s.done.body] }] ∧
 ([] : List Atom) = [] ∧
 True ∧
 (IntsIn (Atom.pred (rest [(0, F), (1, Atom.cells x_1.b1 (chS x.c x.w1) 28), (2, Atom.cells x_1.b2 (chS x.c x.w2) 28)] []))
 (slice x_4.k1.a x_4.k1.n x_4.k1.cap) x_4.s.kids ∧
 IntsIn (Atom.pred (rest [(0, F), (1, Atom.cells x_1.b1 (chS x.c x.w1) 28), (2, Atom.cells x_1.b2 (chS x.c x.w2) 28)] []))
 (slice x_4.k2.a x_4.k2.n x_4.k2.cap) x_4.s.kids ∧
 IntsIn (Atom.pred (rest [(0, F), (1, Atom.cells x_1.b1 (chS x.c x.w1) 28), (2, Atom.cells x_1.b2 (chS x.c x.w2) 28)] []))
 (slice x_4.e1.a x_4.e1.n x_4.e1.cap) x_4.s.entry ∧
 IntsIn
 (Atom.pred (rest [(0, F), (1, Atom.cells x_1.b1 (chS x.c x.w1) 28), (2, Atom.cells x_1.b2 (chS x.c x.w2) 28)] []))
 (slice x_4.e2.a x_4.e2.n x_4.e2.cap) x_4.s.entry ∧
 IntsIn
 (Atom.pred (rest [(0, F), (1, Atom.cells x_1.b1 (chS x.c x.w1) 28), (2, Atom.cells x_1.b2 (chS x.c x.w2) 28)] []))
 (slice x_4.x1.a x_4.x1.n x_4.x1.cap) x_4.s.exit ∧
 IntsIn
 (Atom.pred
 (rest [(0, F), (1, Atom.cells x_1.b1 (chS x.c x.w1) 28), (2, Atom.cells x_1.b2 (chS x.c x.w2) 28)] []))
 (slice x_4.x2.a x_4.x2.n x_4.x2.cap) x_4.s.exit ∧
 IntsIn
 (Atom.pred
 (rest [(0, F), (1, Atom.cells x_1.b1 (chS x.c x.w1) 28), (2, Atom.cells x_1.b2 (chS x.c x.w2) 28)] []))
 (slice x_4.t1.a x_4.t1.n x_4.t1.cap) x_4.s.trans ∧
 IntsIn
 (Atom.pred
 (rest [(0, F), (1, Atom.cells x_1.b1 (chS x.c x.w1) 28), (2, Atom.cells x_1.b2 (chS x.c x.w2) 28)] []))
 (slice x_4.t2.a x_4.t2.n x_4.t2.cap) x_4.s.trans ∧
 IntsIn
 (Atom.pred
 (rest [(0, F), (1, Atom.cells x_1.b1 (chS x.c x.w1) 28), (2, Atom.cells x_1.b2 (chS x.c x.w2) 28)] []))
 (slice x_4.d1.a x_4.d1.n x_4.d1.cap) x_4.s.data ∧
 IntsIn
 (Atom.pred
 (rest [(0, F), (1, Atom.cells x_1.b1 (chS x.c x.w1) 28), (2, Atom.cells x_1.b2 (chS x.c x.w2) 28)]
 []))
 (slice x_4.d2.a x_4.d2.n x_4.d2.cap) x_4.s.data ∧
 IntsIn
 (Atom.pred
 (rest [(0, F), (1, Atom.cells x_1.b1 (chS x.c x.w1) 28), (2, Atom.cells x_1.b2 (chS x.c x.w2) 28)]
 []))
 (slice x_4.i1.a x_4.i1.n x_4.i1.cap) x_4.s.invs ∧
 IntsIn
 (Atom.pred
 (rest [(0, F), (1, Atom.cells x_1.b1 (chS x.c x.w1) 28), (2, Atom.cells x_1.b2 (chS x.c x.w2) 28)]
 []))
 (slice x_4.i2.a x_4.i2.n x_4.i2.cap) x_4.s.invs ∧
 ParsIn
 (Atom.pred
 (rest
 [(0, F), (1, Atom.cells x_1.b1 (chS x.c x.w1) 28), (2, Atom.cells x_1.b2 (chS x.c x.w2) 28)]
 []))
 (slice x_4.p1.a x_4.p1.n x_4.p1.cap) x_4.s.done.params ∧
 ParsIn
 (Atom.pred
 (rest
 [(0, F), (1, Atom.cells x_1.b1 (chS x.c x.w1) 28), (2, Atom.cells x_1.b2 (chS x.c x.w2) 28)]
 []))
 (slice x_4.p2.a x_4.p2.n x_4.p2.cap) x_4.s.done.params) ∧
 ∀ (y : Unit),
 True →
 ((-9223372036854775808 : Int) ≤ (↑x_1.k : Int) + (1 : Int) ∧ (↑x_1.k : Int) + (1 : Int) ≤ (9223372036854775807 : Int)) ∧
 ∃ (y : SmI),
 y.k ≤ x.c.sts.length ∧
 (pointer (some ⟨x_1.b1, 0, none⟩) = pointer (some ⟨y.b1, 0, none⟩) ∧ pointer (some ⟨x_1.b2, 0, none⟩) = pointer (some ⟨y.b2, 0, none⟩) ∧ int i64 ((↑x_1.k : Int) + (1 : Int)) = int i64 (↑y.k : Int) ∧ True) ∧
 Ent [(0, F), (1, Atom.cells x_1.b1 (chS x.c x.w1) 28), (2, Atom.cells x_1.b2 (chS x.c x.w2) 28)]
 [(0, F), (1, Atom.cells y.b1 (chS x.c x.w1) 28), (2, Atom.cells y.b2 (chS x.c x.w2) 28)] ∧
 x.c.sts.length - y.k < x.c.sts.length - x_1.k)
 ((∃ (x_2 : SmI),
 x_2.k ≤ x.c.trs.length ∧
 (pointer (some ⟨x_1.b1, 0, none⟩) = pointer (some ⟨x_2.b1, 0, none⟩) ∧ pointer (some ⟨x_1.b2, 0, none⟩) = pointer (some ⟨x_2.b2, 0, none⟩) ∧ int i64 (0 : Int) = int i64 (↑x_2.k : Int) ∧ True) ∧
 Ent [(0, F), (1, Atom.cells x_1.b1 (chS x.c x.w1) 28), (2, Atom.cells x_1.b2 (chS x.c x.w2) 28)]
 [(0, F), (1, Atom.cells x_2.b1 (chS x.c x.w1) 28), (2, Atom.cells x_2.b2 (chS x.c x.w2) 28)]) ∧
 ∀ (x_2 : SmI) (js : Nat → Value),
 x_2.k ≤ x.c.trs.length →
 Same ⟨x_2.b1, 4, none⟩ x_2.b1 ∧
 Br (decide ((↑x_2.k : Int) < (↑x.w1.vt.n : Int)))
 (true = true ∧
 Same ⟨x_2.b1, 4, none⟩ x_2.b1 ∧
 QOpOk Try.prog (opIn Try.f13 11 3) (ixQ 6) ∧
 ∃ (x_3 : IxQX),
 [slice x.w1.vt.a x.w1.vt.n x.w1.vt.cap, int i64 (↑x_2.k : Int)] = [slice (some ⟨x_3.b, x_3.o, none⟩) x_3.len x_3.cap, int i64 x_3.n] ∧
 ((0 : Int) ≤ x_3.n ∧ x_3.n < (↑x_3.len : Int)) ∧
 ∃ (n : Int),
 Look F ⟨x_3.b, x_3.o + x_3.n.toNat * 6, none⟩ (int i64 n) ∧
 ∃ (a : Option Addr),
 ∃ (l : Nat),
 ∃ (c : Nat),
 Look F ⟨x_3.b, x_3.o + x_3.n.toNat * 6 + 1, none⟩ (slice a l c) ∧
 ∃ (s : ByteArray),
 Look F ⟨x_3.b, x_3.o + x_3.n.toNat * 6 + 2, none⟩ (string s) ∧
 ∃ (a_1 : Option Addr),
 ∃ (l_1 : Nat),
 ∃ (c_1 : Nat),
 Look F ⟨x_3.b, x_3.o + x_3.n.toNat * 6 + 3, none⟩ (slice a_1 l_1 c_1) ∧
 ∃ (b : Bool),
 Look F ⟨x_3.b, x_3.o + x_3.n.toNat * 6 + 4, none⟩ (bool b) ∧
 ∃ (n_1 : Int),
 Look F ⟨x_3.b, x_3.o + x_3.n.toNat * 6 + 5, none⟩ (int i64 n_1) ∧
 Same ⟨x_2.b2, 4, none⟩ x_2.b2 ∧
 QOpOk Try.prog (opIn Try.f13 11 8) (ixQ 6) ∧
 ∃ (x_4 : IxQX),
 [slice x.w2.vt.a x.w2.vt.n x.w2.vt.cap, int i64 (↑x_2.k : Int)] = [slice (some ⟨x_4.b, x_4.o, none⟩) x_4.len x_4.cap, int i64 x_4.n] ∧
 ((0 : Int) ≤ x_4.n ∧ x_4.n < (↑x_4.len : Int)) ∧
 ∃ (n_2 : Int),
 Look F ⟨x_4.b, x_4.o + x_4.n.toNat * 6, none⟩ (int i64 n_2) ∧
 ∃ (a_2 : Option Addr),
 ∃ (l_2 : Nat),
 ∃ (c_2 : Nat),
 Look F ⟨x_4.b, x_4.o + x_4.n.toNat * 6 + 1, none⟩ (slice a_2 l_2 c_2) ∧
 ∃ (s_1 : ByteArray),
 Look F ⟨x_4.b, x_4.o + x_4.n.toNat * 6 + 2, none⟩ (string s_1) ∧
 ∃ (a_3 : Option Addr),
 ∃ (l_3 : Nat),
 ∃ (c_3 : Nat),
 Look F ⟨x_4.b, x_4.o + x_4.n.toNat * 6 + 3, none⟩ (slice a_3 l_3 c_3) ∧
 ∃ (b_2 : Bool),
 Look F ⟨x_4.b, x_4.o + x_4.n.toNat * 6 + 4, none⟩ (bool b_2) ∧
 ∃ (n_3 : Int),
 Look F ⟨x_4.b, x_4.o + x_4.n.toNat * 6 + 5, none⟩ (int i64 n_3) ∧
 FnOk Try.prog 48 sTC ∧
 true = true ∧
 ∃ (x_5 : sTX),
 [agg { toList := [int i64 n, slice a l c, string s, slice a_1 l_1 c_1, bool b, int i64 n_1] }, agg { toList := [int i64 n_2, slice a_2 l_2 c_2, string s_1, slice a_3 l_3 c_3, bool b_2, int i64 n_3] }] = [agg { toList := [int i64 x_5.t.source, slice x_5.e1.a x_5.e1.n x_5.e1.cap, string x_5.t.cond, slice x_5.g1.a x_5.g1.n x_5.g1.cap, bool x_5.t.internal, int i64 x_5.t.block] }, agg { toList := [int i64 x_5.t.source, slice x_5.e2.a x_5.e2.n x_5.e2.cap, string x_5.t.cond, slice x_5.g2.a x_5.g2.n x_5.g2.cap, bool x_5.t.internal, int i64 x_5.t.block] }] ∧
 ([] : List Atom) = [] ∧
 True ∧
 (StrsIn (Atom.pred (rest [(0, F), (1, Atom.cells x_2.b1 (chS x.c x.w1) 28), (2, Atom.cells x_2.b2 (chS x.c x.w2) 28)] [])) (slice x_5.e1.a x_5.e1.n x_5.e1.cap) x_5.t.events ∧
 StrsIn (Atom.pred (rest [(0, F), (1, Atom.cells x_2.b1 (chS x.c x.w1) 28), (2, Atom.cells x_2.b2 (chS x.c x.w2) 28)] [])) (slice x_5.e2.a x_5.e2.n x_5.e2.cap) x_5.t.events ∧
 IntsIn (Atom.pred (rest [(0, F), (1, Atom.cells x_2.b1 (chS x.c x.w1) 28), (2, Atom.cells x_2.b2 (chS x.c x.w2) 28)] [])) (slice x_5.g1.a x_5.g1.n x_5.g1.cap) x_5.t.targets ∧
 IntsIn (Atom.pred (rest [(0, F), (1, Atom.cells x_2.b1 (chS x.c x.w1) 28), (2, Atom.cells x_2.b2 (chS x.c x.w2) 28)] [])) (slice x_5.g2.a x_5.g2.n x_5.g2.cap) x_5.t.targets) ∧
 ∀ (y : Unit),
 True →
 ((-9223372036854775808 : Int) ≤ (↑x_2.k : Int) + (1 : Int) ∧ (↑x_2.k : Int) + (1 : Int) ≤ (9223372036854775807 : Int)) ∧
 ∃ (y : SmI),
 y.k ≤ x.c.trs.length ∧
 (pointer (some ⟨x_2.b1, 0, none⟩) = pointer (some ⟨y.b1, 0, none⟩) ∧ pointer (some ⟨x_2.b2, 0, none⟩) = pointer (some ⟨y.b2, 0, none⟩) ∧ int i64 ((↑x_2.k : Int) + (1 : Int)) = int i64 (↑y.k : Int) ∧ True) ∧
 Ent [(0, F), (1, Atom.cells x_2.b1 (chS x.c x.w1) 28), (2, Atom.cells x_2.b2 (chS x.c x.w2) 28)]
 [(0, F), (1, Atom.cells y.b1 (chS x.c x.w1) 28), (2, Atom.cells y.b2 (chS x.c x.w2) 28)] ∧
 x.c.trs.length - y.k < x.c.trs.length - x_2.k)
 ((∃ (x_3 : SmI),
 x_3.k ≤ x.c.blks.length ∧
 (pointer (some ⟨x_2.b1, 0, none⟩) = pointer (some ⟨x_3.b1, 0, none⟩) ∧ pointer (some ⟨x_2.b2, 0, none⟩) = pointer (some ⟨x_3.b2, 0, none⟩) ∧ int i64 (0 : Int) = int i64 (↑x_3.k : Int) ∧ True) ∧
 Ent [(0, F), (1, Atom.cells x_2.b1 (chS x.c x.w1) 28), (2, Atom.cells x_2.b2 (chS x.c x.w2) 28)]
 [(0, F), (1, Atom.cells x_3.b1 (chS x.c x.w1) 28), (2, Atom.cells x_3.b2 (chS x.c x.w2) 28)]) ∧
 ∀ (x_3 : SmI) (js : Nat → Value),
 x_3.k ≤ x.c.blks.length →
 Same ⟨x_3.b1, 5, none⟩ x_3.b1 ∧
 Br (decide ((↑x_3.k : Int) < (↑x.w1.vb.n : Int)))
 (true = true ∧
 Same ⟨x_3.b1, 5, none⟩ x_3.b1 ∧
 QOpOk Try.prog (opIn Try.f13 16 3) (ixQ 1) ∧
 ∃ (x_4 : IxQX),
 [slice x.w1.vb.a x.w1.vb.n x.w1.vb.cap, int i64 (↑x_3.k : Int)] = [slice (some ⟨x_4.b, x_4.o, none⟩) x_4.len x_4.cap, int i64 x_4.n] ∧
 ((0 : Int) ≤ x_4.n ∧ x_4.n < (↑x_4.len : Int)) ∧
 ∃ (a : Option Addr),
 ∃ (l : Nat),
 ∃ (c : Nat),
 Look F ⟨x_4.b, x_4.o + x_4.n.toNat * 1, none⟩ (slice a l c) ∧
 Same ⟨x_3.b2, 5, none⟩ x_3.b2 ∧
 QOpOk Try.prog (opIn Try.f13 16 10) (ixQ 1) ∧
 ∃ (x_5 : IxQX),
 [slice x.w2.vb.a x.w2.vb.n x.w2.vb.cap, int i64 (↑x_3.k : Int)] = [slice (some ⟨x_5.b, x_5.o, none⟩) x_5.len x_5.cap, int i64 x_5.n] ∧
 ((0 : Int) ≤ x_5.n ∧ x_5.n < (↑x_5.len : Int)) ∧
 ∃ (a : Option Addr),
 ∃ (l_1 : Nat),
 ∃ (c : Nat),
 Look F ⟨x_5.b, x_5.o + x_5.n.toNat * 1, none⟩ (slice a l_1 c) ∧
 Br ((↑l : Int) != (↑l_1 : Int)) (Done smC x F (Ending.returned (bool false)) [(0, F), (1, Atom.cells x_3.b1 (chS x.c x.w1) 28), (2, Atom.cells x_3.b2 (chS x.c x.w2) 28)])
 (∃ (n : Nat),
 (∃ (x_6 : SmI),
 ((x.c.blks[x_6.k]? = some x_6.xs ∧ x_6.j ≤ x_6.xs.length) ∧ x_6.k = n) ∧
 (pointer (some ⟨x_3.b1, 0, none⟩) = pointer (some ⟨x_6.b1, 0, none⟩) ∧ pointer (some ⟨x_3.b2, 0, none⟩) = pointer (some ⟨x_6.b2, 0, none⟩) ∧ int i64 (↑x_3.k : Int) = int i64 (↑x_6.k : Int) ∧ int i64 (0 : Int) = int i64 (↑x_6.j : Int) ∧ True) ∧
 Ent [(0, F), (1, Atom.cells x_3.b1 (chS x.c x.w1) 28), (2, Atom.cells x_3.b2 (chS x.c x.w2) 28)]
 [(0, F), (1, Atom.cells x_6.b1 (chS x.c x.w1) 28), (2, Atom.cells x_6.b2 (chS x.c x.w2) 28)]) ∧
 ∀ (x_6 : SmI) (js : Nat → Value),
 (x.c.blks[x_6.k]? = some x_6.xs ∧ x_6.j ≤ x_6.xs.length) ∧ x_6.k = n →
 Same ⟨x_6.b1, 5, none⟩ x_6.b1 ∧
 QOpOk Try.prog (opIn Try.f13 19 4) (ixQ 1) ∧
 ∃ (x_7 : IxQX),
 [slice x.w1.vb.a x.w1.vb.n x.w1.vb.cap, int i64 (↑x_6.k : Int)] = [slice (some ⟨x_7.b, x_7.o, none⟩) x_7.len x_7.cap, int i64 x_7.n] ∧
 ((0 : Int) ≤ x_7.n ∧ x_7.n < (↑x_7.len : Int)) ∧
 ∃ (a : Option Addr),
 ∃ (l : Nat),
 ∃ (c : Nat),
 Look F ⟨x_7.b, x_7.o + x_7.n.toNat * 1, none⟩ (slice a l c) ∧
 Br (decide ((↑x_6.j : Int) < (↑l : Int)))
 (true = true ∧
 Same ⟨x_6.b1, 5, none⟩ x_6.b1 ∧
 QOpOk Try.prog (opIn Try.f13 21 3) (ixQ 1) ∧
 ∃ (x_8 : IxQX),
 [slice x.w1.vb.a x.w1.vb.n x.w1.vb.cap, int i64 (↑x_6.k : Int)] = [slice (some ⟨x_8.b, x_8.o, none⟩) x_8.len x_8.cap, int i64 x_8.n] ∧
 ((0 : Int) ≤ x_8.n ∧ x_8.n < (↑x_8.len : Int)) ∧
 ∃ (a : Option Addr),
 ∃ (l : Nat),
 ∃ (c : Nat),
 Look F ⟨x_8.b, x_8.o + x_8.n.toNat * 1, none⟩ (slice a l c) ∧
 QOpOk Try.prog (opIn Try.f13 21 7) (ixQ 19) ∧
 ∃ (x_9 : IxQX),
 [slice a l c, int i64 (↑x_6.j : Int)] = [slice (some ⟨x_9.b, x_9.o, none⟩) x_9.len x_9.cap, int i64 x_9.n] ∧
 ((0 : Int) ≤ x_9.n ∧ x_9.n < (↑x_9.len : Int)) ∧
 ∃ (n_1 : Int),
 Look F ⟨x_9.b, x_9.o + x_9.n.toNat * 19, none⟩ (int i64 n_1) ∧
 ∃ (s : ByteArray),
 Look F ⟨x_9.b, x_9.o + x_9.n.toNat * 19 + 1, none⟩ (string s) ∧
 ∃ (s_1 : ByteArray),
 Look F ⟨x_9.b, x_9.o + x_9.n.toNat * 19 + 2, none⟩ (string s_1) ∧
 ∃ (s_2 : ByteArray),
 Look F ⟨x_9.b, x_9.o + x_9.n.toNat * 19 + 3, none⟩ (string s_2) ∧
 ∃ (s_3 : ByteArray),
 Look F ⟨x_9.b, x_9.o + x_9.n.toNat * 19 + 4, none⟩ (string s_3) ∧
 ∃ (s_4 : ByteArray),
 Look F ⟨x_9.b, x_9.o + x_9.n.toNat * 19 + 5, none⟩ (string s_4) ∧
 ∃ (s_5 : ByteArray),
 Look F ⟨x_9.b, x_9.o + x_9.n.toNat * 19 + 6, none⟩ (string s_5) ∧
 ∃ (s_6 : ByteArray),
 Look F ⟨x_9.b, x_9.o + x_9.n.toNat * 19 + 7, none⟩ (string s_6) ∧
 ∃ (n_2 : Int),
 Look F ⟨x_9.b, x_9.o + x_9.n.toNat * 19 + 8, none⟩ (int i64 n_2) ∧
 ∃ (s_7 : ByteArray),
 Look F ⟨x_9.b, x_9.o + x_9.n.toNat * 19 + 9, none⟩ (string s_7) ∧
 ∃ (s_8 : ByteArray),
 Look F ⟨x_9.b, x_9.o + x_9.n.toNat * 19 + 10, none⟩ (string s_8) ∧
 ∃ (s_9 : ByteArray),
 Look F ⟨x_9.b, x_9.o + x_9.n.toNat * 19 + 11, none⟩ (string s_9) ∧
 ∃ (s_10 : ByteArray),
 Look F ⟨x_9.b, x_9.o + x_9.n.toNat * 19 + 12, none⟩ (string s_10) ∧
 ∃ (s_11 : ByteArray),
 Look F ⟨x_9.b, x_9.o + x_9.n.toNat * 19 + 13, none⟩ (string s_11) ∧
 ∃ (a : Option Addr),
 ∃ (l : Nat),
 ∃ (c : Nat),
 Look F ⟨x_9.b, x_9.o + x_9.n.toNat * 19 + 14, none⟩ (slice a l c) ∧
 ∃ (a_1 : Option Addr),
 ∃ (l_2 : Nat),
 ∃ (c_1 : Nat),
 Look F ⟨x_9.b, x_9.o + x_9.n.toNat * 19 + 15, none⟩ (slice a_1 l_2 c_1) ∧
 ∃ (n_3 : Int),
 Look F ⟨x_9.b, x_9.o + x_9.n.toNat * 19 + 16, none⟩ (int i64 n_3) ∧
 ∃ (a_2 : Option Addr),
 ∃ (l_3 : Nat),
 ∃ (c_2 : Nat),
 Look F ⟨x_9.b, x_9.o + x_9.n.toNat * 19 + 17, none⟩ (slice a_2 l_3 c_2) ∧
 ∃ (s_12 : ByteArray),
 Look F ⟨x_9.b, x_9.o + x_9.n.toNat * 19 + 18, none⟩ (string s_12) ∧
 Same ⟨x_6.b2, 5, none⟩ x_6.b2 ∧
 QOpOk Try.prog (opIn Try.f13 21 12) (ixQ 1) ∧
 ∃ (x_10 : IxQX),
 [slice x.w2.vb.a x.w2.vb.n x.w2.vb.cap, int i64 (↑x_6.k : Int)] = [slice (some ⟨x_10.b, x_10.o, none⟩) x_10.len x_10.cap, int i64 x_10.n] ∧
 ((0 : Int) ≤ x_10.n ∧ x_10.n < (↑x_10.len : Int)) ∧
 ∃ (a_3 : Option Addr),
 ∃ (l_4 : Nat),
 ∃ (c_3 : Nat),
 Look F ⟨x_10.b, x_10.o + x_10.n.toNat * 1, none⟩ (slice a_3 l_4 c_3) ∧
 QOpOk Try.prog (opIn Try.f13 21 16) (ixQ 19) ∧
 ∃ (x_11 : IxQX),
 [slice a_3 l_4 c_3, int i64 (↑x_6.j : Int)] = [slice (some ⟨x_11.b, x_11.o, none⟩) x_11.len x_11.cap, int i64 x_11.n] ∧
 ((0 : Int) ≤ x_11.n ∧ x_11.n < (↑x_11.len : Int)) ∧
 ∃ (n_4 : Int),
 Look F ⟨x_11.b, x_11.o + x_11.n.toNat * 19, none⟩ (int i64 n_4) ∧
 ∃ (s_13 : ByteArray),
 Look F ⟨x_11.b, x_11.o + x_11.n.toNat * 19 + 1, none⟩ (string s_13) ∧
 ∃ (s_14 : ByteArray),
 Look F ⟨x_11.b, x_11.o + x_11.n.toNat * 19 + 2, none⟩ (string s_14) ∧
 ∃ (s_15 : ByteArray),
 Look F ⟨x_11.b, x_11.o + x_11.n.toNat * 19 + 3, none⟩ (string s_15) ∧
 ∃ (s_16 : ByteArray),
 Look F ⟨x_11.b, x_11.o + x_11.n.toNat * 19 + 4, none⟩ (string s_16) ∧
 ∃ (s_17 : ByteArray),
 Look F ⟨x_11.b, x_11.o + x_11.n.toNat * 19 + 5, none⟩ (string s_17) ∧
 ∃ (s_18 : ByteArray),
 Look F ⟨x_11.b, x_11.o + x_11.n.toNat * 19 + 6, none⟩ (string s_18) ∧
 ∃ (s_19 : ByteArray),
 Look F ⟨x_11.b, x_11.o + x_11.n.toNat * 19 + 7, none⟩ (string s_19) ∧
 ∃ (n_5 : Int),
 Look F ⟨x_11.b, x_11.o + x_11.n.toNat * 19 + 8, none⟩ (int i64 n_5) ∧
 ∃ (s_20 : ByteArray),
 Look F ⟨x_11.b, x_11.o + x_11.n.toNat * 19 + 9, none⟩ (string s_20) ∧
 ∃ (s_21 : ByteArray),
 Look F ⟨x_11.b, x_11.o + x_11.n.toNat * 19 + 10, none⟩ (string s_21) ∧
 ∃ (s_22 : ByteArray),
 Look F ⟨x_11.b, x_11.o + x_11.n.toNat * 19 + 11, none⟩ (string s_22) ∧
 ∃ (s_23 : ByteArray),
 Look F ⟨x_11.b, x_11.o + x_11.n.toNat * 19 + 12, none⟩ (string s_23) ∧
 ∃ (s_24 : ByteArray),
 Look F ⟨x_11.b, x_11.o + x_11.n.toNat * 19 + 13, none⟩ (string s_24) ∧
 ∃ (a_4 : Option Addr),
 ∃ (l_5 : Nat),
 ∃ (c_4 : Nat),
 Look F ⟨x_11.b, x_11.o + x_11.n.toNat * 19 + 14, none⟩ (slice a_4 l_5 c_4) ∧
 ∃ (a_5 : Option Addr),
 ∃ (l_6 : Nat),
 ∃ (c_5 : Nat),
 Look F ⟨x_11.b, x_11.o + x_11.n.toNat * 19 + 15, none⟩ (slice a_5 l_6 c_5) ∧
 ∃ (n_6 : Int),
 Look F ⟨x_11.b, x_11.o + x_11.n.toNat * 19 + 16, none⟩ (int i64 n_6) ∧
 ∃ (a_6 : Option Addr),
 ∃ (l_7 : Nat),
 ∃ (c_6 : Nat),
 Look F ⟨x_11.b, x_11.o + x_11.n.toNat * 19 + 17, none⟩ (slice a_6 l_7 c_6) ∧
 ∃ (s_25 : ByteArray),
 Look F ⟨x_11.b, x_11.o + x_11.n.toNat * 19 + 18, none⟩ (string s_25) ∧
 FnOk Try.prog 49 sAC ∧
 true = true ∧
 ∃ (x_12 : sAX),
 [agg { toList := [int i64 n_1, string s, string s_1, string s_2, string s_3, string s_4, string s_5, string s_6, int i64 n_2, string s_7, string s_8, string s_9, string s_10, string s_11, slice a l c, slice a_1 l_2 c_1, int i64 n_3, slice a_2 l_3 c_2, string s_12] },
 agg { toList := [int i64 n_4, string s_13, string s_14, string s_15, string s_16, string s_17, string s_18, string s_19, int i64 n_5, string s_20, string s_21, string s_22, string s_23, string s_24, slice a_4 l_5 c_4, slice a_5 l_6 c_5, int i64 n_6, slice a_6 l_7 c_6, string s_25] }] =
 [agg { toList := [int i64 x_12.c.kind, string x_12.c.s1, string x_12.c.s2, string x_12.c.s3, string x_12.c.s4, string x_12.c.s5, string x_12.c.s6, string x_12.c.s7, int i64 x_12.c.delay, string x_12.c.s9, string x_12.c.s10, string x_12.c.s11, string x_12.c.s12, string x_12.c.s13, slice x_12.q1.a x_12.q1.n x_12.q1.cap, slice x_12.b1.a x_12.b1.n x_12.b1.cap, int i64 x_12.c.load.kind, slice x_12.p1.a x_12.p1.n x_12.p1.cap, string x_12.c.load.body] },
 agg { toList := [int i64 x_12.c.kind, string x_12.c.s1, string x_12.c.s2, string x_12.c.s3, string x_12.c.s4, string x_12.c.s5, string x_12.c.s6, string x_12.c.s7, int i64 x_12.c.delay, string x_12.c.s9, string x_12.c.s10, string x_12.c.s11, string x_12.c.s12, string x_12.c.s13, slice x_12.q2.a x_12.q2.n x_12.q2.cap, slice x_12.b2.a x_12.b2.n x_12.b2.cap, int i64 x_12.c.load.kind, slice x_12.p2.a x_12.p2.n x_12.p2.cap, string x_12.c.load.body] }] ∧
 ([] : List Atom) = [] ∧
 True ∧
 (StrsIn
 (Atom.pred
 (rest
 [(0, F), (1, Atom.cells x_6.b1 (chS x.c x.w1) 28),
 (2, Atom.cells x_6.b2 (chS x.c x.w2) 28)]
 []))
 (slice x_12.q1.a x_12.q1.n x_12.q1.cap) x_12.c.conds ∧
 StrsIn
 (Atom.pred
 (rest
 [(0, F), (1, Atom.cells x_6.b1 (chS x.c x.w1) 28),
 (2, Atom.cells x_6.b2 (chS x.c x.w2) 28)]
 []))
 (slice x_12.q2.a x_12.q2.n x_12.q2.cap) x_12.c.conds ∧
 IntsIn
 (Atom.pred
 (rest
 [(0, F), (1, Atom.cells x_6.b1 (chS x.c x.w1) 28),
 (2, Atom.cells x_6.b2 (chS x.c x.w2) 28)]
 []))
 (slice x_12.b1.a x_12.b1.n x_12.b1.cap) x_12.c.blocks ∧
 IntsIn
 (Atom.pred
 (rest
 [(0, F), (1, Atom.cells x_6.b1 (chS x.c x.w1) 28),
 (2, Atom.cells x_6.b2 (chS x.c x.w2) 28)]
 []))
 (slice x_12.b2.a x_12.b2.n x_12.b2.cap) x_12.c.blocks ∧
 ParsIn
 (Atom.pred
 (rest
 [(0, F), (1, Atom.cells x_6.b1 (chS x.c x.w1) 28),
 (2, Atom.cells x_6.b2 (chS x.c x.w2) 28)]
 []))
 (slice x_12.p1.a x_12.p1.n x_12.p1.cap) x_12.c.load.params ∧
 ParsIn
 (Atom.pred
 (rest
 [(0, F), (1, Atom.cells x_6.b1 (chS x.c x.w1) 28),
 (2, Atom.cells x_6.b2 (chS x.c x.w2) 28)]
 []))
 (slice x_12.p2.a x_12.p2.n x_12.p2.cap) x_12.c.load.params) ∧
 ∀ (y : Unit),
 True →
 ((-9223372036854775808 : Int) ≤ (↑x_6.j : Int) + (1 : Int) ∧ (↑x_6.j : Int) + (1 : Int) ≤ (9223372036854775807 : Int)) ∧
 ∃ (y : SmI),
 ((x.c.blks[y.k]? = some y.xs ∧ y.j ≤ y.xs.length) ∧ y.k = n) ∧
 (pointer (some ⟨x_6.b1, 0, none⟩) = pointer (some ⟨y.b1, 0, none⟩) ∧ pointer (some ⟨x_6.b2, 0, none⟩) = pointer (some ⟨y.b2, 0, none⟩) ∧ int i64 (↑x_6.k : Int) = int i64 (↑y.k : Int) ∧ int i64 ((↑x_6.j : Int) + (1 : Int)) = int i64 (↑y.j : Int) ∧ True) ∧
 Ent
 [(0, F), (1, Atom.cells x_6.b1 (chS x.c x.w1) 28),
 (2, Atom.cells x_6.b2 (chS x.c x.w2) 28)]
 [(0, F), (1, Atom.cells y.b1 (chS x.c x.w1) 28),
 (2, Atom.cells y.b2 (chS x.c x.w2) 28)] ∧
 y.xs.length - y.j < x_6.xs.length - x_6.j)
 (((-9223372036854775808 : Int) ≤ (↑x_6.k : Int) + (1 : Int) ∧ (↑x_6.k : Int) + (1 : Int) ≤ (9223372036854775807 : Int)) ∧
 ∃ (y : SmI),
 y.k ≤ x.c.blks.length ∧
 (pointer (some ⟨x_6.b1, 0, none⟩) = pointer (some ⟨y.b1, 0, none⟩) ∧ pointer (some ⟨x_6.b2, 0, none⟩) = pointer (some ⟨y.b2, 0, none⟩) ∧ int i64 ((↑x_6.k : Int) + (1 : Int)) = int i64 (↑y.k : Int) ∧ True) ∧
 Ent [(0, F), (1, Atom.cells x_6.b1 (chS x.c x.w1) 28), (2, Atom.cells x_6.b2 (chS x.c x.w2) 28)]
 [(0, F), (1, Atom.cells y.b1 (chS x.c x.w1) 28), (2, Atom.cells y.b2 (chS x.c x.w2) 28)] ∧
 x.c.blks.length - y.k < x.c.blks.length - x_3.k)))
 ((∃ (x_4 : SmI),
 x_4.k ≤ x.c.data.length ∧
 (pointer (some ⟨x_3.b1, 0, none⟩) = pointer (some ⟨x_4.b1, 0, none⟩) ∧ pointer (some ⟨x_3.b2, 0, none⟩) = pointer (some ⟨x_4.b2, 0, none⟩) ∧ int i64 (0 : Int) = int i64 (↑x_4.k : Int) ∧ True) ∧
 Ent [(0, F), (1, Atom.cells x_3.b1 (chS x.c x.w1) 28), (2, Atom.cells x_3.b2 (chS x.c x.w2) 28)]
 [(0, F), (1, Atom.cells x_4.b1 (chS x.c x.w1) 28), (2, Atom.cells x_4.b2 (chS x.c x.w2) 28)]) ∧
 ∀ (x_4 : SmI) (js : Nat → Value),
 x_4.k ≤ x.c.data.length →
 Same ⟨x_4.b1, 6, none⟩ x_4.b1 ∧
 Br (decide ((↑x_4.k : Int) < (↑x.w1.vd.n : Int)))
 (true = true ∧
 Same ⟨x_4.b1, 6, none⟩ x_4.b1 ∧
 QOpOk Try.prog (opIn Try.f13 26 3) (ixQ 3) ∧
 ∃ (x_5 : IxQX),
 [slice x.w1.vd.a x.w1.vd.n x.w1.vd.cap, int i64 (↑x_4.k : Int)] = [slice (some ⟨x_5.b, x_5.o, none⟩) x_5.len x_5.cap, int i64 x_5.n] ∧
 ((0 : Int) ≤ x_5.n ∧ x_5.n < (↑x_5.len : Int)) ∧
 ∃ (s : ByteArray),
 Look F ⟨x_5.b, x_5.o + x_5.n.toNat * 3, none⟩ (string s) ∧
 ∃ (s_1 : ByteArray),
 Look F ⟨x_5.b, x_5.o + x_5.n.toNat * 3 + 1, none⟩ (string s_1) ∧
 ∃ (s_2 : ByteArray),
 Look F ⟨x_5.b, x_5.o + x_5.n.toNat * 3 + 2, none⟩ (string s_2) ∧
 Same ⟨x_4.b2, 6, none⟩ x_4.b2 ∧
 QOpOk Try.prog (opIn Try.f13 26 8) (ixQ 3) ∧
 ∃ (x_6 : IxQX),
 [slice x.w2.vd.a x.w2.vd.n x.w2.vd.cap, int i64 (↑x_4.k : Int)] = [slice (some ⟨x_6.b, x_6.o, none⟩) x_6.len x_6.cap, int i64 x_6.n] ∧
 ((0 : Int) ≤ x_6.n ∧ x_6.n < (↑x_6.len : Int)) ∧
 ∃ (s_3 : ByteArray),
 Look F ⟨x_6.b, x_6.o + x_6.n.toNat * 3, none⟩ (string s_3) ∧
 ∃ (s_4 : ByteArray),
 Look F ⟨x_6.b, x_6.o + x_6.n.toNat * 3 + 1, none⟩ (string s_4) ∧
 ∃ (s_5 : ByteArray),
 Look F ⟨x_6.b, x_6.o + x_6.n.toNat * 3 + 2, none⟩ (string s_5) ∧
 QOpOk Try.prog (opIn Try.f13 26 10) neqD ∧
 ∃ (x_7 : DatD),
 [agg { toList := [string s, string s_1, string s_2] }, agg { toList := [string s_3, string s_4, string s_5] }] = [agg { toList := [string x_7.id, string x_7.expr, string x_7.text] }, agg { toList := [string x_7.id, string x_7.expr, string x_7.text] }] ∧
 True ∧
 ((-9223372036854775808 : Int) ≤ (↑x_4.k : Int) + (1 : Int) ∧ (↑x_4.k : Int) + (1 : Int) ≤ (9223372036854775807 : Int)) ∧
 ∃ (y : SmI),
 y.k ≤ x.c.data.length ∧
 (pointer (some ⟨x_4.b1, 0, none⟩) = pointer (some ⟨y.b1, 0, none⟩) ∧ pointer (some ⟨x_4.b2, 0, none⟩) = pointer (some ⟨y.b2, 0, none⟩) ∧ int i64 ((↑x_4.k : Int) + (1 : Int)) = int i64 (↑y.k : Int) ∧ True) ∧
 Ent [(0, F), (1, Atom.cells x_4.b1 (chS x.c x.w1) 28), (2, Atom.cells x_4.b2 (chS x.c x.w2) 28)]
 [(0, F), (1, Atom.cells y.b1 (chS x.c x.w1) 28), (2, Atom.cells y.b2 (chS x.c x.w2) 28)] ∧
 x.c.data.length - y.k < x.c.data.length - x_4.k)
 ((∃ (x_5 : SmI),
 x_5.k ≤ x.c.invs.length ∧
 (pointer (some ⟨x_4.b1, 0, none⟩) = pointer (some ⟨x_5.b1, 0, none⟩) ∧ pointer (some ⟨x_4.b2, 0, none⟩) = pointer (some ⟨x_5.b2, 0, none⟩) ∧ int i64 (0 : Int) = int i64 (↑x_5.k : Int) ∧ True) ∧
 Ent [(0, F), (1, Atom.cells x_4.b1 (chS x.c x.w1) 28), (2, Atom.cells x_4.b2 (chS x.c x.w2) 28)]
 [(0, F), (1, Atom.cells x_5.b1 (chS x.c x.w1) 28), (2, Atom.cells x_5.b2 (chS x.c x.w2) 28)]) ∧
 ∀ (x_5 : SmI) (js : Nat → Value),
 x_5.k ≤ x.c.invs.length →
 Same ⟨x_5.b1, 7, none⟩ x_5.b1 ∧
 Br (decide ((↑x_5.k : Int) < (↑x.w1.vi.n : Int)))
 (true = true ∧
 Same ⟨x_5.b1, 7, none⟩ x_5.b1 ∧
 QOpOk Try.prog (opIn Try.f13 31 3) (ixQ 8) ∧
 ∃ (x_6 : IxQX),
 [slice x.w1.vi.a x.w1.vi.n x.w1.vi.cap, int i64 (↑x_5.k : Int)] = [slice (some ⟨x_6.b, x_6.o, none⟩) x_6.len x_6.cap, int i64 x_6.n] ∧
 ((0 : Int) ≤ x_6.n ∧ x_6.n < (↑x_6.len : Int)) ∧
 ∃ (s : ByteArray),
 Look F ⟨x_6.b, x_6.o + x_6.n.toNat * 8, none⟩ (string s) ∧
 ∃ (s_1 : ByteArray),
 Look F ⟨x_6.b, x_6.o + x_6.n.toNat * 8 + 1, none⟩ (string s_1) ∧
 ∃ (n : Int),
 Look F ⟨x_6.b, x_6.o + x_6.n.toNat * 8 + 2, none⟩ (int i64 n) ∧
 ∃ (b : Bool),
 Look F ⟨x_6.b, x_6.o + x_6.n.toNat * 8 + 3, none⟩ (bool b) ∧
 ∃ (n_1 : Int),
 Look F ⟨x_6.b, x_6.o + x_6.n.toNat * 8 + 4, none⟩ (int i64 n_1) ∧
 ∃ (a : Option Addr),
 ∃ (l : Nat),
 ∃ (c : Nat),
 Look F ⟨x_6.b, x_6.o + x_6.n.toNat * 8 + 5, none⟩ (slice a l c) ∧
 ∃ (s_2 : ByteArray),
 Look F ⟨x_6.b, x_6.o + x_6.n.toNat * 8 + 6, none⟩ (string s_2) ∧
 ∃ (n_2 : Int),
 Look F ⟨x_6.b, x_6.o + x_6.n.toNat * 8 + 7, none⟩ (int i64 n_2) ∧
 Same ⟨x_5.b2, 7, none⟩ x_5.b2 ∧
 QOpOk Try.prog (opIn Try.f13 31 8) (ixQ 8) ∧
 ∃ (x_7 : IxQX),
 [slice x.w2.vi.a x.w2.vi.n x.w2.vi.cap, int i64 (↑x_5.k : Int)] = [slice (some ⟨x_7.b, x_7.o, none⟩) x_7.len x_7.cap, int i64 x_7.n] ∧
 ((0 : Int) ≤ x_7.n ∧ x_7.n < (↑x_7.len : Int)) ∧
 ∃ (s_3 : ByteArray),
 Look F ⟨x_7.b, x_7.o + x_7.n.toNat * 8, none⟩ (string s_3) ∧
 ∃ (s_4 : ByteArray),
 Look F ⟨x_7.b, x_7.o + x_7.n.toNat * 8 + 1, none⟩ (string s_4) ∧
 ∃ (n_3 : Int),
 Look F ⟨x_7.b, x_7.o + x_7.n.toNat * 8 + 2, none⟩ (int i64 n_3) ∧
 ∃ (b_2 : Bool),
 Look F ⟨x_7.b, x_7.o + x_7.n.toNat * 8 + 3, none⟩ (bool b_2) ∧
 ∃ (n_4 : Int),
 Look F ⟨x_7.b, x_7.o + x_7.n.toNat * 8 + 4, none⟩ (int i64 n_4) ∧
 ∃ (a_1 : Option Addr),
 ∃ (l_1 : Nat),
 ∃ (c_1 : Nat),
 Look F ⟨x_7.b, x_7.o + x_7.n.toNat * 8 + 5, none⟩ (slice a_1 l_1 c_1) ∧
 ∃ (s_5 : ByteArray),
 Look F ⟨x_7.b, x_7.o + x_7.n.toNat * 8 + 6, none⟩ (string s_5) ∧
 ∃ (n_5 : Int),
 Look F ⟨x_7.b, x_7.o + x_7.n.toNat * 8 + 7, none⟩ (int i64 n_5) ∧
 FnOk Try.prog 50 sVC ∧
 true = true ∧
 ∃ (x_8 : sVX),
 [agg { toList := [string s, string s_1, int i64 n, bool b, int i64 n_1, slice a l c, string s_2, int i64 n_2] }, agg { toList := [string s_3, string s_4, int i64 n_3, bool b_2, int i64 n_4, slice a_1 l_1 c_1, string s_5, int i64 n_5] }] =
 [agg { toList := [string x_8.v.id, string x_8.v.place, int i64 x_8.v.chart, bool x_8.v.auto, int i64 x_8.v.load.kind, slice x_8.p1.a x_8.p1.n x_8.p1.cap, string x_8.v.load.body, int i64 x_8.v.fin] }, agg { toList := [string x_8.v.id, string x_8.v.place, int i64 x_8.v.chart, bool x_8.v.auto, int i64 x_8.v.load.kind, slice x_8.p2.a x_8.p2.n x_8.p2.cap, string x_8.v.load.body, int i64 x_8.v.fin] }] ∧
 ([] : List Atom) = [] ∧
 True ∧
 (ParsIn (Atom.pred (rest [(0, F), (1, Atom.cells x_5.b1 (chS x.c x.w1) 28), (2, Atom.cells x_5.b2 (chS x.c x.w2) 28)] [])) (slice x_8.p1.a x_8.p1.n x_8.p1.cap)
 x_8.v.load.params ∧
 ParsIn (Atom.pred (rest [(0, F), (1, Atom.cells x_5.b1 (chS x.c x.w1) 28), (2, Atom.cells x_5.b2 (chS x.c x.w2) 28)] [])) (slice x_8.p2.a x_8.p2.n x_8.p2.cap)
 x_8.v.load.params) ∧
 ∀ (y : Unit),
 True →
 ((-9223372036854775808 : Int) ≤ (↑x_5.k : Int) + (1 : Int) ∧ (↑x_5.k : Int) + (1 : Int) ≤ (9223372036854775807 : Int)) ∧
 ∃ (y : SmI),
 y.k ≤ x.c.invs.length ∧
 (pointer (some ⟨x_5.b1, 0, none⟩) = pointer (some ⟨y.b1, 0, none⟩) ∧ pointer (some ⟨x_5.b2, 0, none⟩) = pointer (some ⟨y.b2, 0, none⟩) ∧ int i64 ((↑x_5.k : Int) + (1 : Int)) = int i64 (↑y.k : Int) ∧ True) ∧
 Ent [(0, F), (1, Atom.cells x_5.b1 (chS x.c x.w1) 28), (2, Atom.cells x_5.b2 (chS x.c x.w2) 28)]
 [(0, F), (1, Atom.cells y.b1 (chS x.c x.w1) 28), (2, Atom.cells y.b2 (chS x.c x.w2) 28)] ∧
 x.c.invs.length - y.k < x.c.invs.length - x_5.k)
 (Done smC x F (Ending.returned (bool true)) [(0, F), (1, Atom.cells x_5.b1 (chS x.c x.w1) 28), (2, Atom.cells x_5.b2 (chS x.c x.w2) 28)]))))))))))))) := by
  obtain ⟨c, ⟨⟨sa1, sn1, sc1⟩, ⟨ta1, tn1, tc1⟩, ⟨ba1, bn1, bc1⟩, ⟨da1, dn1, dc1⟩, ⟨ia1, in1, ic1⟩⟩, ⟨⟨sa2, sn2, sc2⟩, ⟨ta2, tn2, tc2⟩, ⟨ba2, bn2, bc2⟩, ⟨da2, dn2, dc2⟩, ⟨ia2, in2, ic2⟩⟩⟩ := x
  obtain ⟨hr1, hr2⟩ := hr
  obtain ⟨S1, T1, B1, D1, V1⟩ := hr1
  obtain ⟨S2, T2, B2, D2, V2⟩ := hr2
  dsimp only [ChS.v] at S1 T1 B1 D1 V1 S2 T2 B2 D2 V2
  obtain ⟨es1, -, ls1⟩ := SlIn.num S1
  obtain ⟨es2, -, ls2⟩ := SlIn.num S2
  obtain ⟨et1, -, lt1⟩ := SlIn.num T1
  obtain ⟨et2, -, lt2⟩ := SlIn.num T2
  obtain ⟨eb1, -, lb1⟩ := SlIn.num B1
  obtain ⟨eb2, -, lb2⟩ := SlIn.num B2
  obtain ⟨ed1, -, ld1⟩ := SlIn.num D1
  obtain ⟨ed2, -, ld2⟩ := SlIn.num D2
  obtain ⟨ev1, -, lv1⟩ := SlIn.num V1
  obtain ⟨ev2, -, lv2⟩ := SlIn.num V2
  intro b1 b2
  repeat (first | refine ⟨⟨rfl, rfl⟩, ?_⟩ | refine br_no (by first | (simp; done) | (simp; omega)) ?_)
  refine ⟨⟨⟨0, b1, b2, 0, []⟩, Nat.zero_le _, ⟨rfl, rfl, rfl, trivial⟩, Ent.pick [0, 1000, 1010] rfl rfl⟩, ?_⟩
  clear b1 b2
  rintro ⟨k, b1, b2, j0, xs0⟩ js hk
  dsimp only at hk ⊢
  refine ⟨⟨rfl, rfl⟩, br_decide (fun hlt => ?_) (fun hge => ?_)⟩
  · obtain ⟨s, hs⟩ : ∃ s, c.sts[k]? = some s := ⟨_, List.getElem?_eq_getElem (by omega)⟩
    obtain ⟨p1, o1, r1, rfl, ⟨k1, e1, x1, t1, d1, i1, q1, rfl, g1, g2, g3, g4, g5, g6, g7⟩, L1⟩ := SlIn.at' S1 hs
    obtain ⟨p2, o2, r2, rfl, ⟨k2, e2, x2, t2, d2, i2, q2, rfl, h1, h2, h3, h4, h5, h6, h7⟩, L2⟩ := SlIn.at' S2 hs
    obtain ⟨k1a, k1c, rfl, -⟩ := SlIn.open g1
    obtain ⟨e1a, e1c, rfl, -⟩ := SlIn.open g2
    obtain ⟨x1a, x1c, rfl, -⟩ := SlIn.open g3
    obtain ⟨t1a, t1c, rfl, -⟩ := SlIn.open g4
    obtain ⟨d1a, d1c, rfl, -⟩ := SlIn.open g5
    obtain ⟨i1a, i1c, rfl, -⟩ := SlIn.open g6
    obtain ⟨q1a, q1c, rfl, -⟩ := SlIn.open g7
    obtain ⟨k2a, k2c, rfl, -⟩ := SlIn.open h1
    obtain ⟨e2a, e2c, rfl, -⟩ := SlIn.open h2
    obtain ⟨x2a, x2c, rfl, -⟩ := SlIn.open h3
    obtain ⟨t2a, t2c, rfl, -⟩ := SlIn.open h4
    obtain ⟨d2a, d2c, rfl, -⟩ := SlIn.open h5
    obtain ⟨i2a, i2c, rfl, -⟩ := SlIn.open h6
    obtain ⟨q2a, q2c, rfl, -⟩ := SlIn.open h7
    exact ⟨rfl, ⟨rfl, rfl⟩, ixq_ok 13 rfl rfl rfl rfl, ⟨p1, o1, sn1, sc1, k⟩, rfl, by dsimp only; omega, _, L1 0 _ rfl, _, L1 1 _ rfl, _, L1 2 _ rfl, _, _, _, L1 3 _ rfl, _, L1 4 _ rfl, _, _, _, L1 5 _ rfl, _, _, _, L1 6 _ rfl, _, _, _, L1 7 _ rfl, _, _, _, L1 8 _ rfl, _, _, _, L1 9 _ rfl, _, L1 10 _ rfl, _, _, _, L1 11 _ rfl, _, L1 12 _ rfl, ⟨rfl, rfl⟩, ixq_ok 13 rfl rfl rfl rfl, ⟨p2, o2, sn2, sc2, k⟩, rfl, by dsimp only; omega, _, L2 0 _ rfl, _, L2 1 _ rfl, _, L2 2 _ rfl, _, _, _, L2 3 _ rfl, _, L2 4 _ rfl, _, _, _, L2 5 _ rfl, _, _, _, L2 6 _ rfl, _, _, _, L2 7 _ rfl, _, _, _, L2 8 _ rfl, _, _, _, L2 9 _ rfl, _, L2 10 _ rfl, _, _, _, L2 11 _ rfl, _, L2 12 _ rfl, sS_ok, rfl, ⟨s, ⟨k1a, s.kids.length, k1c⟩, ⟨e1a, s.entry.length, e1c⟩, ⟨x1a, s.exit.length, x1c⟩, ⟨t1a, s.trans.length, t1c⟩, ⟨d1a, s.data.length, d1c⟩, ⟨i1a, s.invs.length, i1c⟩, ⟨q1a, s.done.params.length, q1c⟩, ⟨k2a, s.kids.length, k2c⟩, ⟨e2a, s.entry.length, e2c⟩, ⟨x2a, s.exit.length, x2c⟩, ⟨t2a, s.trans.length, t2c⟩, ⟨d2a, s.data.length, d2c⟩, ⟨i2a, s.invs.length, i2c⟩, ⟨q2a, s.done.params.length, q2c⟩⟩, rfl, rfl, trivial, ⟨g1.sub (sub_rest 0 (by simp) rfl), h1.sub (sub_rest 0 (by simp) rfl), g2.sub (sub_rest 0 (by simp) rfl), h2.sub (sub_rest 0 (by simp) rfl), g3.sub (sub_rest 0 (by simp) rfl), h3.sub (sub_rest 0 (by simp) rfl), g4.sub (sub_rest 0 (by simp) rfl), h4.sub (sub_rest 0 (by simp) rfl), g5.sub (sub_rest 0 (by simp) rfl), h5.sub (sub_rest 0 (by simp) rfl), g6.sub (sub_rest 0 (by simp) rfl), h6.sub (sub_rest 0 (by simp) rfl), g7.sub (sub_rest 0 (by simp) rfl), h7.sub (sub_rest 0 (by simp) rfl)⟩, fun _ _ => ⟨by omega, ⟨k + 1, b1, b2, 0, []⟩, by dsimp only; omega, ⟨rfl, rfl, rfl, trivial⟩, Ent.pick [0, 1, 2] rfl rfl, by dsimp only; omega⟩⟩
  refine ⟨⟨⟨0, b1, b2, 0, []⟩, Nat.zero_le _, ⟨rfl, rfl, rfl, trivial⟩, Ent.pick [0, 1, 2] rfl rfl⟩, ?_⟩
  clear hge hk b1 b2 k j0 xs0
  rintro ⟨k, b1, b2, j0, xs0⟩ js2 hk
  dsimp only at hk ⊢
  refine ⟨⟨rfl, rfl⟩, br_decide (fun hlt => ?_) (fun hge => ?_)⟩
  · obtain ⟨t, ht⟩ : ∃ s, c.trs[k]? = some s := ⟨_, List.getElem?_eq_getElem (by omega)⟩
    obtain ⟨p1, o1, r1, rfl, ⟨e1, x1, rfl, g1, g2⟩, L1⟩ := SlIn.at' T1 ht
    obtain ⟨p2, o2, r2, rfl, ⟨e2, x2, rfl, h1, h2⟩, L2⟩ := SlIn.at' T2 ht
    obtain ⟨e1a, e1c, rfl, -⟩ := SlIn.open g1
    obtain ⟨x1a, x1c, rfl, -⟩ := SlIn.open g2
    obtain ⟨e2a, e2c, rfl, -⟩ := SlIn.open h1
    obtain ⟨x2a, x2c, rfl, -⟩ := SlIn.open h2
    exact ⟨rfl, ⟨rfl, rfl⟩, ixq_ok 6 rfl rfl rfl rfl, ⟨p1, o1, tn1, tc1, k⟩, rfl, by dsimp only; omega, _, L1 0 _ rfl, _, _, _, L1 1 _ rfl, _, L1 2 _ rfl, _, _, _, L1 3 _ rfl, _, L1 4 _ rfl, _, L1 5 _ rfl, ⟨rfl, rfl⟩, ixq_ok 6 rfl rfl rfl rfl, ⟨p2, o2, tn2, tc2, k⟩, rfl, by dsimp only; omega, _, L2 0 _ rfl, _, _, _, L2 1 _ rfl, _, L2 2 _ rfl, _, _, _, L2 3 _ rfl, _, L2 4 _ rfl, _, L2 5 _ rfl, sT_ok, rfl, ⟨t, ⟨e1a, t.events.length, e1c⟩, ⟨x1a, t.targets.length, x1c⟩, ⟨e2a, t.events.length, e2c⟩, ⟨x2a, t.targets.length, x2c⟩⟩, rfl, rfl, trivial, ⟨g1.sub (sub_rest 0 (by simp) rfl), h1.sub (sub_rest 0 (by simp) rfl), g2.sub (sub_rest 0 (by simp) rfl), h2.sub (sub_rest 0 (by simp) rfl)⟩, fun _ _ => ⟨by omega, ⟨k + 1, b1, b2, 0, []⟩, by dsimp only; omega, ⟨rfl, rfl, rfl, trivial⟩, Ent.pick [0, 1, 2] rfl rfl, by dsimp only; omega⟩⟩
  refine ⟨⟨⟨0, b1, b2, 0, []⟩, Nat.zero_le _, ⟨rfl, rfl, rfl, trivial⟩, Ent.pick [0, 1, 2] rfl rfl⟩, ?_⟩
  clear hge hk b1 b2 k j0 xs0
  rintro ⟨k, b1, b2, j0, xs0⟩ js3 hk
  dsimp only at hk ⊢
  refine ⟨⟨rfl, rfl⟩, br_decide (fun hlt => ?_) (fun hge => ?_)⟩
  · obtain ⟨xs, hxs⟩ : ∃ s, c.blks[k]? = some s := ⟨_, List.getElem?_eq_getElem (by omega)⟩
    obtain ⟨p1, o1, r1, rfl, ⟨v1, rfl, g1⟩, L1⟩ := SlIn.at' B1 hxs
    obtain ⟨p2, o2, r2, rfl, ⟨v2, rfl, h1⟩, L2⟩ := SlIn.at' B2 hxs
    obtain ⟨a1a, a1c, rfl, -, -, la1, -⟩ := SlIn.open g1
    obtain ⟨a2a, a2c, rfl, -⟩ := SlIn.open h1
    refine ⟨rfl, ⟨rfl, rfl⟩, ixq_ok 1 rfl rfl rfl rfl, ⟨p1, o1, bn1, bc1, k⟩, rfl, by dsimp only; omega, _, _, _, L1 0 _ rfl, ⟨rfl, rfl⟩, ixq_ok 1 rfl rfl rfl rfl, ⟨p2, o2, bn2, bc2, k⟩, rfl, by dsimp only; omega, _, _, _, L2 0 _ rfl, br_no (by simp) ⟨k, ⟨⟨k, b1, b2, 0, xs⟩, ⟨⟨hxs, Nat.zero_le _⟩, rfl⟩, ⟨rfl, rfl, rfl, rfl, trivial⟩, Ent.pick [0, 1, 2] rfl rfl⟩, ?_⟩⟩
    clear b1 b2
    rintro ⟨k2, b1, b2, j, xs2⟩ js4 ⟨⟨hx2, hj⟩, hkk⟩
    dsimp only at hx2 hj hkk ⊢
    subst hkk
    rw [hxs] at hx2
    cases hx2
    refine ⟨⟨rfl, rfl⟩, ixq_ok 1 rfl rfl rfl rfl, ⟨p1, o1, bn1, bc1, k2⟩, rfl, by dsimp only; omega, _, _, _, L1 0 _ rfl, br_decide (fun hlt2 => ?_) (fun hge2 => ⟨by omega, ⟨k2 + 1, b1, b2, 0, []⟩, by dsimp only; omega, ⟨rfl, rfl, rfl, trivial⟩, Ent.pick [0, 1, 2] rfl rfl, by dsimp only; omega⟩)⟩
    obtain ⟨t, ht⟩ : ∃ s, xs[j]? = some s := ⟨_, List.getElem?_eq_getElem (by omega)⟩
    obtain ⟨u1, w1, r1, rfl, ⟨e1, x1, y1, rfl, f1, f2, f3⟩, M1⟩ := SlIn.at' g1 ht
    obtain ⟨u2, w2, r2, rfl, ⟨e2, x2, y2, rfl, m1, m2, m3⟩, M2⟩ := SlIn.at' h1 ht
    obtain ⟨e1a, e1c, rfl, -⟩ := SlIn.open f1
    obtain ⟨x1a, x1c, rfl, -⟩ := SlIn.open f2
    obtain ⟨y1a, y1c, rfl, -⟩ := SlIn.open f3
    obtain ⟨e2a, e2c, rfl, -⟩ := SlIn.open m1
    obtain ⟨x2a, x2c, rfl, -⟩ := SlIn.open m2
    obtain ⟨y2a, y2c, rfl, -⟩ := SlIn.open m3
    exact ⟨rfl, ⟨rfl, rfl⟩, ixq_ok 1 rfl rfl rfl rfl, ⟨p1, o1, bn1, bc1, k2⟩, rfl, by dsimp only; omega, _, _, _, L1 0 _ rfl, ixq_ok 19 rfl rfl rfl rfl, ⟨u1, w1, _, a1c, j⟩, rfl, by dsimp only; omega, _, M1 0 _ rfl, _, M1 1 _ rfl, _, M1 2 _ rfl, _, M1 3 _ rfl, _, M1 4 _ rfl, _, M1 5 _ rfl, _, M1 6 _ rfl, _, M1 7 _ rfl, _, M1 8 _ rfl, _, M1 9 _ rfl, _, M1 10 _ rfl, _, M1 11 _ rfl, _, M1 12 _ rfl, _, M1 13 _ rfl, _, _, _, M1 14 _ rfl, _, _, _, M1 15 _ rfl, _, M1 16 _ rfl, _, _, _, M1 17 _ rfl, _, M1 18 _ rfl, ⟨rfl, rfl⟩, ixq_ok 1 rfl rfl rfl rfl, ⟨p2, o2, bn2, bc2, k2⟩, rfl, by dsimp only; omega, _, _, _, L2 0 _ rfl, ixq_ok 19 rfl rfl rfl rfl, ⟨u2, w2, _, a2c, j⟩, rfl, by dsimp only; omega, _, M2 0 _ rfl, _, M2 1 _ rfl, _, M2 2 _ rfl, _, M2 3 _ rfl, _, M2 4 _ rfl, _, M2 5 _ rfl, _, M2 6 _ rfl, _, M2 7 _ rfl, _, M2 8 _ rfl, _, M2 9 _ rfl, _, M2 10 _ rfl, _, M2 11 _ rfl, _, M2 12 _ rfl, _, M2 13 _ rfl, _, _, _, M2 14 _ rfl, _, _, _, M2 15 _ rfl, _, M2 16 _ rfl, _, _, _, M2 17 _ rfl, _, M2 18 _ rfl, sA_ok, rfl, ⟨t, ⟨e1a, t.conds.length, e1c⟩, ⟨x1a, t.blocks.length, x1c⟩, ⟨y1a, t.load.params.length, y1c⟩, ⟨e2a, t.conds.length, e2c⟩, ⟨x2a, t.blocks.length, x2c⟩, ⟨y2a, t.load.params.length, y2c⟩⟩, rfl, rfl, trivial, ⟨f1.sub (sub_rest 0 (by simp) rfl), m1.sub (sub_rest 0 (by simp) rfl), f2.sub (sub_rest 0 (by simp) rfl), m2.sub (sub_rest 0 (by simp) rfl), f3.sub (sub_rest 0 (by simp) rfl), m3.sub (sub_rest 0 (by simp) rfl)⟩, fun _ _ => ⟨by omega, ⟨k2, b1, b2, j + 1, xs⟩, ⟨⟨hxs, by dsimp only; omega⟩, rfl⟩, ⟨rfl, rfl, rfl, rfl, trivial⟩, Ent.pick [0, 1, 2] rfl rfl, by dsimp only; omega⟩⟩
  refine ⟨⟨⟨0, b1, b2, 0, []⟩, Nat.zero_le _, ⟨rfl, rfl, rfl, trivial⟩, Ent.pick [0, 1, 2] rfl rfl⟩, ?_⟩
  clear hge hk b1 b2 k j0 xs0
  rintro ⟨k, b1, b2, j0, xs0⟩ js5 hk
  dsimp only at hk ⊢
  refine ⟨⟨rfl, rfl⟩, br_decide (fun hlt => ?_) (fun hge => ?_)⟩
  · obtain ⟨t, ht⟩ : ∃ s, c.data[k]? = some s := ⟨_, List.getElem?_eq_getElem (by omega)⟩
    obtain ⟨p1, o1, r1, rfl, g1, L1⟩ := SlIn.at' D1 ht
    obtain ⟨p2, o2, r2, rfl, h1, L2⟩ := SlIn.at' D2 ht
    cases g1
    cases h1
    exact ⟨rfl, ⟨rfl, rfl⟩, ixq_ok 3 rfl rfl rfl rfl, ⟨p1, o1, dn1, dc1, k⟩, rfl, by dsimp only; omega, _, L1 0 _ rfl, _, L1 1 _ rfl, _, L1 2 _ rfl, ⟨rfl, rfl⟩, ixq_ok 3 rfl rfl rfl rfl, ⟨p2, o2, dn2, dc2, k⟩, rfl, by dsimp only; omega, _, L2 0 _ rfl, _, L2 1 _ rfl, _, L2 2 _ rfl, neqD_ok rfl, t, rfl, trivial, by omega, ⟨k + 1, b1, b2, 0, []⟩, by dsimp only; omega, ⟨rfl, rfl, rfl, trivial⟩, Ent.pick [0, 1, 2] rfl rfl, by dsimp only; omega⟩
  refine ⟨⟨⟨0, b1, b2, 0, []⟩, Nat.zero_le _, ⟨rfl, rfl, rfl, trivial⟩, Ent.pick [0, 1, 2] rfl rfl⟩, ?_⟩
  clear hge hk b1 b2 k j0 xs0
  rintro ⟨k, b1, b2, j0, xs0⟩ js6 hk
  dsimp only at hk ⊢
  refine ⟨⟨rfl, rfl⟩, br_decide (fun hlt => ?_) (fun hge => ⟨(), trivial, rfl, Ent.pick [0] rfl rfl⟩)⟩
  obtain ⟨t, ht⟩ : ∃ s, c.invs[k]? = some s := ⟨_, List.getElem?_eq_getElem (by omega)⟩
  obtain ⟨p1, o1, r1, rfl, ⟨e1, rfl, g1⟩, L1⟩ := SlIn.at' V1 ht
  obtain ⟨p2, o2, r2, rfl, ⟨e2, rfl, h1⟩, L2⟩ := SlIn.at' V2 ht
  obtain ⟨e1a, e1c, rfl, -⟩ := SlIn.open g1
  obtain ⟨e2a, e2c, rfl, -⟩ := SlIn.open h1
  exact ⟨rfl, ⟨rfl, rfl⟩, ixq_ok 8 rfl rfl rfl rfl, ⟨p1, o1, in1, ic1, k⟩, rfl, by dsimp only; omega, _, L1 0 _ rfl, _, L1 1 _ rfl, _, L1 2 _ rfl, _, L1 3 _ rfl, _, L1 4 _ rfl, _, _, _, L1 5 _ rfl, _, L1 6 _ rfl, _, L1 7 _ rfl, ⟨rfl, rfl⟩, ixq_ok 8 rfl rfl rfl rfl, ⟨p2, o2, in2, ic2, k⟩, rfl, by dsimp only; omega, _, L2 0 _ rfl, _, L2 1 _ rfl, _, L2 2 _ rfl, _, L2 3 _ rfl, _, L2 4 _ rfl, _, _, _, L2 5 _ rfl, _, L2 6 _ rfl, _, L2 7 _ rfl, sV_ok, rfl, ⟨t, ⟨e1a, t.load.params.length, e1c⟩, ⟨e2a, t.load.params.length, e2c⟩⟩, rfl, rfl, trivial, ⟨g1.sub (sub_rest 0 (by simp) rfl), h1.sub (sub_rest 0 (by simp) rfl)⟩, fun _ _ => ⟨by omega, ⟨k + 1, b1, b2, 0, []⟩, by dsimp only; omega, ⟨rfl, rfl, rfl, trivial⟩, Ent.pick [0, 1, 2] rfl rfl, by dsimp only; omega⟩⟩
set_option maxRecDepth 100000 in
theorem sm_ok : FnOk Try.prog 13 smC :=
  fnOk (N := 203) (by kernel_rfl) Try.func13 rfl (by kernel_rfl) (fun _ => Nat.le_of_ble_eq_true rfl) sm_H [] fun x F hc hr => Eq.mpr (by kernel_rfl) (sm_vc x F hc hr)
end Go.Proofs.Ytfmadkaiigiaiaa
