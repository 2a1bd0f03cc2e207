/- The document's answers about a chart, part 2: Together, Common. -/
import Derived.Test.YtfmadkaiigiaiaaLatU
import Derived.Test.YtfmadkaiigiaiaaLatV
set_option linter.all false
namespace Go.Proofs.Ytfmadkaiigiaiaa
open Go
set_option maxHeartbeats 1000000
def rTgC : Con where
  X := RfX
  Y := Unit
  args x := [chAgg x.c x.w, .int .i64 x.a, .int .i64 x.d]
  pre _ := []
  cond x := Placed x.c ∧ isS x.c x.a = true ∧ isS x.c x.d = true
  rdc x F := ChIn F x.w.v x.c
  rel _ _ := True
  val x _ := .returned (.bool (refTg x.c x.a x.d))
  post _ _ := []
  rmono _ _ _ h hk := hk.sub h
structure RtI where
  k : Nat
  b : Nat
def rTgInv (x : RfX) (F : Atom) : Nat → Option Inv := fun
  | 0 => some { X := RtI, P := fun i => i.k ≤ nS x.c ∧ refTg x.c x.a x.d = (bif decide (bestT x.c (plB x.c x.a).toNat (plB x.c x.d).toNat (nS x.c) ≥ 0) then kd x.c (bestT x.c (plB x.c x.a).toNat (plB x.c x.d).toNat (nS x.c)).toNat == 2 else false), mu := fun i => nS x.c - i.k, lv := fun i => [(1, .int .i64 (plB x.c x.a)), (2, .int .i64 (plB x.c x.d)), (3, .pointer (some ⟨i.b, 0, none⟩)), (7, .int .i64 (bestT x.c (plB x.c x.a).toNat (plB x.c x.d).toNat i.k)), (8, .int .i64 i.k)], st := fun i => [F, .cells i.b (chS x.c x.w) 28] }
  | _ => none
def rTgCut (x : RfX) (F : Atom) : Nat → Option Inv := fun
  | 3 => some { X := Nat, P := fun _ => True, mu := fun _ => 0, lv := fun b => [(1, .int .i64 (plB x.c x.a)), (2, .int .i64 x.d), (3, .pointer (some ⟨b, 0, none⟩))], st := fun b => [F, .cells b (chS x.c x.w) 28] }
  | 5 => some { X := Nat, P := fun _ => True, mu := fun _ => 0, lv := fun b => [(1, .int .i64 (plB x.c x.a)), (2, .int .i64 (plB x.c x.d)), (3, .pointer (some ⟨b, 0, none⟩))], st := fun b => [F, .cells b (chS x.c x.w) 28] }
  | _ => none
def rTgOv (_x : RfX) (_F : Atom) : List (Nat × Nat × OH) := [(0, 0, .n 1000), (1, 1, .q [.atj 1000]), (1, 3, .qo (ixQ 13)), (1, 5, .q [.ex 0 (.int .i64)]), (2, 1, .q [.atj 1000]), (2, 3, .qo (ixQ 13)), (2, 5, .q [.ex 0 (.int .i64)]), (3, 1, .q [.atj 1]), (3, 3, .qo (ixQ 13)), (3, 5, .q [.ex 0 (.int .i64)]), (4, 1, .q [.atj 1]), (4, 3, .qo (ixQ 13)), (4, 5, .q [.ex 0 (.int .i64)]), (5, 4, .q (at8 1)), (5, 7, .c rInC [] []), (5, 10, .q (at8 1)), (5, 13, .c rInC [] []), (9, 2, .q [.atj 1]), (11, 0, .q (at8 1)), (11, 3, .c rInC [] []), (11, 5, .q (at8 1)), (11, 8, .c rInC [] []), (13, 4, .q [.atj 1]), (13, 6, .qo (ixQ 13)), (13, 8, .q [.ex 0 (.int .i64)])]
theorem bestT_lt (c : ChD) (a b : Nat) : ∀ k, -1 ≤ bestT c a b k ∧ bestT c a b k < k
  | 0 => by rw [bestT]; omega
  | k + 1 => by
    have := bestT_lt c a b k
    rw [bestT]
    cases insB c a k && insB c b k with
    | true => rw [cond_true]; omega
    | false => rw [cond_false]; omega
noncomputable def rtg_H (x : Con.X rTgC) (F : Atom) : Hints where
  op := hk ((rTgOv x F) ++ [])
  inv := rTgInv x F
  cut := rTgCut x F
  ord := (fun _ => [])
open Go.Value (int slice string bool pointer agg tuple func) in
open Go.IntKind (i64) in
set_option maxRecDepth 100000 in
theorem rtg_vc (x : RfX) (F : Atom) (hc : Con.cond rTgC x) (hr : Con.rdc rTgC x F) :
  ∀ (b : Nat),
 (Same ⟨b, 3, none⟩ b ∧
 QOpOk Try.prog (opIn Try.f79 1 3) (ixQ 13) ∧
 ∃ (x_1 : IxQX),
 [slice x.w.vs.a x.w.vs.n x.w.vs.cap, int i64 x.a] = [slice (some ⟨x_1.b, x_1.o, none⟩) x_1.len x_1.cap, int i64 x_1.n] ∧
 ((0 : Int) ≤ x_1.n ∧ x_1.n < (↑x_1.len : Int)) ∧
 ∃ (n : Int),
 Look F ⟨x_1.b, x_1.o + x_1.n.toNat * 13 + 1, none⟩ (int i64 n) ∧
 Br (decide (n ≥ (4 : Int)))
 (Same ⟨b, 3, none⟩ b ∧
 QOpOk Try.prog (opIn Try.f79 2 3) (ixQ 13) ∧
 ∃ (x_2 : IxQX),
 [slice x.w.vs.a x.w.vs.n x.w.vs.cap, int i64 x.a] = [slice (some ⟨x_2.b, x_2.o, none⟩) x_2.len x_2.cap, int i64 x_2.n] ∧
 ((0 : Int) ≤ x_2.n ∧ x_2.n < (↑x_2.len : Int)) ∧
 ∃ (n : Int),
 Look F ⟨x_2.b, x_2.o + x_2.n.toNat * 13 + 2, none⟩ (int i64 n) ∧
 ∃ (x_3 : Nat), True ∧ (int i64 n = int i64 (plB x.c x.a) ∧ int i64 x.d = int i64 x.d ∧ pointer (some ⟨b, 0, none⟩) = pointer (some ⟨x_3, 0, none⟩) ∧ True) ∧ Ent [(0, F), (1000, Atom.cells b (chS x.c x.w) 28)] [(0, F), (1, Atom.cells x_3 (chS x.c x.w) 28)])
 (∃ (x_2 : Nat), True ∧ (int i64 x.a = int i64 (plB x.c x.a) ∧ int i64 x.d = int i64 x.d ∧ pointer (some ⟨b, 0, none⟩) = pointer (some ⟨x_2, 0, none⟩) ∧ True) ∧ Ent [(0, F), (1000, Atom.cells b (chS x.c x.w) 28)] [(0, F), (1, Atom.cells x_2 (chS x.c x.w) 28)])) ∧
 ∀ (x_1 : Nat) (js : Nat → Value),
 True →
 (Same ⟨x_1, 3, none⟩ x_1 ∧
 QOpOk Try.prog (opIn Try.f79 3 3) (ixQ 13) ∧
 ∃ (x_2 : IxQX),
 [slice x.w.vs.a x.w.vs.n x.w.vs.cap, int i64 x.d] = [slice (some ⟨x_2.b, x_2.o, none⟩) x_2.len x_2.cap, int i64 x_2.n] ∧
 ((0 : Int) ≤ x_2.n ∧ x_2.n < (↑x_2.len : Int)) ∧
 ∃ (n : Int),
 Look F ⟨x_2.b, x_2.o + x_2.n.toNat * 13 + 1, none⟩ (int i64 n) ∧
 Br (decide (n ≥ (4 : Int)))
 (Same ⟨x_1, 3, none⟩ x_1 ∧
 QOpOk Try.prog (opIn Try.f79 4 3) (ixQ 13) ∧
 ∃ (x_3 : IxQX),
 [slice x.w.vs.a x.w.vs.n x.w.vs.cap, int i64 x.d] = [slice (some ⟨x_3.b, x_3.o, none⟩) x_3.len x_3.cap, int i64 x_3.n] ∧
 ((0 : Int) ≤ x_3.n ∧ x_3.n < (↑x_3.len : Int)) ∧
 ∃ (n : Int),
 Look F ⟨x_3.b, x_3.o + x_3.n.toNat * 13 + 2, none⟩ (int i64 n) ∧
 ∃ (x_4 : Nat),
 True ∧
 (int i64 (plB x.c x.a) = int i64 (plB x.c x.a) ∧ int i64 n = int i64 (plB x.c x.d) ∧ pointer (some ⟨x_1, 0, none⟩) = pointer (some ⟨x_4, 0, none⟩) ∧ True) ∧
 Ent [(0, F), (1, Atom.cells x_1 (chS x.c x.w) 28)] [(0, F), (1, Atom.cells x_4 (chS x.c x.w) 28)])
 (∃ (x_3 : Nat),
 True ∧
 (int i64 (plB x.c x.a) = int i64 (plB x.c x.a) ∧ int i64 x.d = int i64 (plB x.c x.d) ∧ pointer (some ⟨x_1, 0, none⟩) = pointer (some ⟨x_3, 0, none⟩) ∧ True) ∧ Ent [(0, F), (1, Atom.cells x_1 (chS x.c x.w) 28)] [(0, F), (1, Atom.cells x_3 (chS x.c x.w) 28)])) ∧
 ∀ (x_2 : Nat) (js : Nat → Value),
 True →
 Br (plB x.c x.a == plB x.c x.d) (Done rTgC x F (Ending.returned (bool false)) [(0, F), (1, Atom.cells x_2 (chS x.c x.w) 28)])
 (Same ⟨x_2, 0, none⟩ x_2 ∧
 Same ⟨x_2, 1, none⟩ x_2 ∧
 Same ⟨x_2, 2, none⟩ x_2 ∧
 Same ⟨x_2, 3, none⟩ x_2 ∧
 Same ⟨x_2, 4, none⟩ x_2 ∧
 Same ⟨x_2, 5, none⟩ x_2 ∧
 Same ⟨x_2, 6, none⟩ x_2 ∧
 Same ⟨x_2, 7, none⟩ x_2 ∧
 FnOk Try.prog 16 rInC ∧
 true = true ∧
 ∃ (x_3 : RfX),
 [agg { toList := (chS x.c x.w) }, int i64 (plB x.c x.a), int i64 (plB x.c x.d)] = [agg { toList := (chS x_3.c x_3.w) }, int i64 x_3.a, int i64 x_3.d] ∧
 ([] : List Atom) = [] ∧
 Placed x_3.c ∧
 ChIn (Atom.pred (rest [(0, F), (1, Atom.cells x_2 (chS x.c x.w) 28)] [])) x_3.w.v x_3.c ∧
 ∀ (y : Unit),
 True →
 Br (inB x_3.c x_3.a x_3.d) (Done rTgC x F (Ending.returned (bool false)) [(0, F), (1, Atom.cells x_2 (chS x.c x.w) 28)])
 (Same ⟨x_2, 0, none⟩ x_2 ∧
 Same ⟨x_2, 1, none⟩ x_2 ∧
 Same ⟨x_2, 2, none⟩ x_2 ∧
 Same ⟨x_2, 3, none⟩ x_2 ∧
 Same ⟨x_2, 4, none⟩ x_2 ∧
 Same ⟨x_2, 5, none⟩ x_2 ∧
 Same ⟨x_2, 6, none⟩ x_2 ∧
 Same ⟨x_2, 7, none⟩ x_2 ∧
 FnOk Try.prog 16 rInC ∧
 true = true ∧
 ∃ (x_4 : RfX),
 [agg { toList := (chS x.c x.w) }, int i64 (plB x.c x.d), int i64 (plB x.c x.a)] = [agg { toList := (chS x_4.c x_4.w) }, int i64 x_4.a, int i64 x_4.d] ∧
 ([] : List Atom) = [] ∧
 Placed x_4.c ∧
 ChIn (Atom.pred (rest [(0, F), (1, Atom.cells x_2 (chS x.c x.w) 28)] [])) x_4.w.v x_4.c ∧
 ∀ (y : Unit),
 True →
 Br (inB x_4.c x_4.a x_4.d) (Done rTgC x F (Ending.returned (bool false)) [(0, F), (1, Atom.cells x_2 (chS x.c x.w) 28)])
 ((∃ (x_5 : RtI),
 (x_5.k ≤ nS x.c ∧ refTg x.c x.a x.d = bif decide (bestT x.c (plB x.c x.a).toNat (plB x.c x.d).toNat (nS x.c) ≥ (0 : Int)) then kd x.c (bestT x.c (plB x.c x.a).toNat (plB x.c x.d).toNat (nS x.c)).toNat == (2 : Int) else false) ∧
 (int i64 (plB x.c x.a) = int i64 (plB x.c x.a) ∧ int i64 (plB x.c x.d) = int i64 (plB x.c x.d) ∧ pointer (some ⟨x_2, 0, none⟩) = pointer (some ⟨x_5.b, 0, none⟩) ∧ int i64 (-1 : Int) = int i64 (bestT x.c (plB x.c x.a).toNat (plB x.c x.d).toNat x_5.k) ∧ int i64 (0 : Int) = int i64 (↑x_5.k : Int) ∧ True) ∧
 Ent [(0, F), (1, Atom.cells x_2 (chS x.c x.w) 28)] [(0, F), (1, Atom.cells x_5.b (chS x.c x.w) 28)]) ∧
 ∀ (x_5 : RtI) (js : Nat → Value),
 (x_5.k ≤ nS x.c ∧ refTg x.c x.a x.d = bif decide (bestT x.c (plB x.c x.a).toNat (plB x.c x.d).toNat (nS x.c) ≥ (0 : Int)) then kd x.c (bestT x.c (plB x.c x.a).toNat (plB x.c x.d).toNat (nS x.c)).toNat == (2 : Int) else false) →
 Same ⟨x_5.b, 3, none⟩ x_5.b ∧
 Br (decide ((↑x_5.k : Int) < (↑x.w.vs.n : Int)))
 (Same ⟨x_5.b, 0, none⟩ x_5.b ∧
 Same ⟨x_5.b, 1, none⟩ x_5.b ∧
 Same ⟨x_5.b, 2, none⟩ x_5.b ∧
 Same ⟨x_5.b, 3, none⟩ x_5.b ∧
 Same ⟨x_5.b, 4, none⟩ x_5.b ∧
 Same ⟨x_5.b, 5, none⟩ x_5.b ∧
 Same ⟨x_5.b, 6, none⟩ x_5.b ∧
 Same ⟨x_5.b, 7, none⟩ x_5.b ∧
 FnOk Try.prog 16 rInC ∧
 true = true ∧
 ∃ (x_6 : RfX),
 [agg { toList := (chS x.c x.w) }, int i64 (plB x.c x.a), int i64 (↑x_5.k : Int)] = [agg { toList := (chS x_6.c x_6.w) }, int i64 x_6.a, int i64 x_6.d] ∧
 ([] : List Atom) = [] ∧
 Placed x_6.c ∧
 ChIn (Atom.pred (rest [(0, F), (1, Atom.cells x_5.b (chS x.c x.w) 28)] [])) x_6.w.v x_6.c ∧
 ∀ (y : Unit),
 True →
 Br (inB x_6.c x_6.a x_6.d)
 (Same ⟨x_5.b, 0, none⟩ x_5.b ∧
 Same ⟨x_5.b, 1, none⟩ x_5.b ∧
 Same ⟨x_5.b, 2, none⟩ x_5.b ∧
 Same ⟨x_5.b, 3, none⟩ x_5.b ∧
 Same ⟨x_5.b, 4, none⟩ x_5.b ∧
 Same ⟨x_5.b, 5, none⟩ x_5.b ∧
 Same ⟨x_5.b, 6, none⟩ x_5.b ∧
 Same ⟨x_5.b, 7, none⟩ x_5.b ∧
 FnOk Try.prog 16 rInC ∧
 true = true ∧
 ∃ (x_7 : RfX),
 [agg { toList := (chS x.c x.w) }, int i64 (plB x.c x.d), int i64 (↑x_5.k : Int)] = [agg { toList := (chS x_7.c x_7.w) }, int i64 x_7.a, int i64 x_7.d] ∧
 ([] : List Atom) = [] ∧
 Placed x_7.c ∧
 ChIn (Atom.pred (rest [(0, F), (1, Atom.cells x_5.b (chS x.c x.w) 28)] [])) x_7.w.v x_7.c ∧
 ∀ (y : Unit),
 True →
 Br (inB x_7.c x_7.a x_7.d)
 (((-9223372036854775808 : Int) ≤ (↑x_5.k : Int) + (1 : Int) ∧ (↑x_5.k : Int) + (1 : Int) ≤ (9223372036854775807 : Int)) ∧
 ∃ (y : RtI),
 (y.k ≤ nS x.c ∧ refTg x.c x.a x.d = bif decide (bestT x.c (plB x.c x.a).toNat (plB x.c x.d).toNat (nS x.c) ≥ (0 : Int)) then kd x.c (bestT x.c (plB x.c x.a).toNat (plB x.c x.d).toNat (nS x.c)).toNat == (2 : Int) else false) ∧
 (int i64 (plB x.c x.a) = int i64 (plB x.c x.a) ∧ int i64 (plB x.c x.d) = int i64 (plB x.c x.d) ∧ pointer (some ⟨x_5.b, 0, none⟩) = pointer (some ⟨y.b, 0, none⟩) ∧ int i64 (↑x_5.k : Int) = int i64 (bestT x.c (plB x.c x.a).toNat (plB x.c x.d).toNat y.k) ∧ int i64 ((↑x_5.k : Int) + (1 : Int)) = int i64 (↑y.k : Int) ∧ True) ∧
 Ent [(0, F), (1, Atom.cells x_5.b (chS x.c x.w) 28)] [(0, F), (1, Atom.cells y.b (chS x.c x.w) 28)] ∧ nS x.c - y.k < nS x.c - x_5.k)
 (((-9223372036854775808 : Int) ≤ (↑x_5.k : Int) + (1 : Int) ∧ (↑x_5.k : Int) + (1 : Int) ≤ (9223372036854775807 : Int)) ∧
 ∃ (y : RtI),
 (y.k ≤ nS x.c ∧ refTg x.c x.a x.d = bif decide (bestT x.c (plB x.c x.a).toNat (plB x.c x.d).toNat (nS x.c) ≥ (0 : Int)) then kd x.c (bestT x.c (plB x.c x.a).toNat (plB x.c x.d).toNat (nS x.c)).toNat == (2 : Int) else false) ∧
 (int i64 (plB x.c x.a) = int i64 (plB x.c x.a) ∧ int i64 (plB x.c x.d) = int i64 (plB x.c x.d) ∧ pointer (some ⟨x_5.b, 0, none⟩) = pointer (some ⟨y.b, 0, none⟩) ∧ int i64 (bestT x.c (plB x.c x.a).toNat (plB x.c x.d).toNat x_5.k) = int i64 (bestT x.c (plB x.c x.a).toNat (plB x.c x.d).toNat y.k) ∧ int i64 ((↑x_5.k : Int) + (1 : Int)) = int i64 (↑y.k : Int) ∧ True) ∧
 Ent [(0, F), (1, Atom.cells x_5.b (chS x.c x.w) 28)] [(0, F), (1, Atom.cells y.b (chS x.c x.w) 28)] ∧ nS x.c - y.k < nS x.c - x_5.k))
 (((-9223372036854775808 : Int) ≤ (↑x_5.k : Int) + (1 : Int) ∧ (↑x_5.k : Int) + (1 : Int) ≤ (9223372036854775807 : Int)) ∧
 ∃ (y : RtI),
 (y.k ≤ nS x.c ∧ refTg x.c x.a x.d = bif decide (bestT x.c (plB x.c x.a).toNat (plB x.c x.d).toNat (nS x.c) ≥ (0 : Int)) then kd x.c (bestT x.c (plB x.c x.a).toNat (plB x.c x.d).toNat (nS x.c)).toNat == (2 : Int) else false) ∧
 (int i64 (plB x.c x.a) = int i64 (plB x.c x.a) ∧ int i64 (plB x.c x.d) = int i64 (plB x.c x.d) ∧ pointer (some ⟨x_5.b, 0, none⟩) = pointer (some ⟨y.b, 0, none⟩) ∧ int i64 (bestT x.c (plB x.c x.a).toNat (plB x.c x.d).toNat x_5.k) = int i64 (bestT x.c (plB x.c x.a).toNat (plB x.c x.d).toNat y.k) ∧ int i64 ((↑x_5.k : Int) + (1 : Int)) = int i64 (↑y.k : Int) ∧ True) ∧
 Ent [(0, F), (1, Atom.cells x_5.b (chS x.c x.w) 28)] [(0, F), (1, Atom.cells y.b (chS x.c x.w) 28)] ∧ nS x.c - y.k < nS x.c - x_5.k))
 (Br (decide (bestT x.c (plB x.c x.a).toNat (plB x.c x.d).toNat x_5.k ≥ (0 : Int)))
 (Same ⟨x_5.b, 3, none⟩ x_5.b ∧
 QOpOk Try.prog (opIn Try.f79 13 6) (ixQ 13) ∧ ∃ (x_6 : IxQX), [slice x.w.vs.a x.w.vs.n x.w.vs.cap, int i64 (bestT x.c (plB x.c x.a).toNat (plB x.c x.d).toNat x_5.k)] = [slice (some ⟨x_6.b, x_6.o, none⟩) x_6.len x_6.cap, int i64 x_6.n] ∧ ((0 : Int) ≤ x_6.n ∧ x_6.n < (↑x_6.len : Int)) ∧ ∃ (n : Int), Look F ⟨x_6.b, x_6.o + x_6.n.toNat * 13 + 1, none⟩ (int i64 n) ∧ Done rTgC x F (Ending.returned (bool (n == (2 : Int)))) [(0, F), (1, Atom.cells x_5.b (chS x.c x.w) 28)])
 (Done rTgC x F (Ending.returned (bool false)) [(0, F), (1, Atom.cells x_5.b (chS x.c x.w) 28)]))))) := by
  obtain ⟨c, w, a, d⟩ := x
  obtain ⟨hp, ha, hd⟩ := hc
  dsimp only at hp ha hd
  replace hr : ChIn F w.v c := hr
  have hn2 := hp.n2
  have hn128 := hp.n128
  obtain ⟨b0, o0, ea, hst⟩ := hr.stsAt (by omega)
  have hn := hr.num.1
  obtain ⟨pa, hpa, hpan⟩ := isS_spec (plB_ok hp ha)
  obtain ⟨pd, hpd, hpdn⟩ := isS_spec (plB_ok hp hd)
  have pl : ∀ (i : Nat) (s : StD), c.sts[i]? = some s → plB c (i : Int) = bif decide (s.kind ≥ 4) then s.parent else (i : Int) := fun i s hs => by
    unfold plB
    rw [Int.toNat_natCast, kd_get hs, pr_get hs]
  obtain ⟨i, rfl, hi⟩ := isS_spec ha
  obtain ⟨j, rfl, hj⟩ := isS_spec hd
  obtain ⟨s, hs⟩ := get_st hi
  obtain ⟨r, ⟨vk, ve, vx, vt, vd, vi, vp, rfl, -⟩, hL⟩ := hst i s hs
  obtain ⟨s2, hs2⟩ := get_st hj
  obtain ⟨r2, ⟨vk2, ve2, vx2, vt2, vd2, vi2, vp2, rfl, -⟩, hL2⟩ := hst j s2 hs2
  have p1 := pl i s hs
  have p2 := pl j s2 hs2
  refine fun b1 => ⟨⟨⟨rfl, rfl⟩, ixq_ok 13 rfl rfl rfl rfl, ⟨b0, o0, w.vs.n, w.vs.cap, i⟩, by dsimp only; rw [ea], by dsimp only; omega, s.kind, hL 1 _ rfl, br_decide (fun q => ⟨⟨rfl, rfl⟩, ixq_ok 13 rfl rfl rfl rfl, ⟨b0, o0, w.vs.n, w.vs.cap, i⟩, by dsimp only; rw [ea], by dsimp only; omega, s.parent, hL 2 _ rfl, b1, trivial, ⟨?_, rfl, rfl, trivial⟩, Ent.pick [0, 1000] rfl rfl⟩) (fun q => ⟨b1, trivial, ⟨?_, rfl, rfl, trivial⟩, Ent.pick [0, 1000] rfl rfl⟩)⟩, ?_⟩
  · rw [p1, decide_eq_true q]; rfl
  · rw [p1, decide_eq_false q]; rfl
  clear b1
  refine fun b1 js1 _ => ⟨⟨⟨rfl, rfl⟩, ixq_ok 13 rfl rfl rfl rfl, ⟨b0, o0, w.vs.n, w.vs.cap, j⟩, by dsimp only; rw [ea], by dsimp only; omega, s2.kind, hL2 1 _ rfl, br_decide (fun q => ⟨⟨rfl, rfl⟩, ixq_ok 13 rfl rfl rfl rfl, ⟨b0, o0, w.vs.n, w.vs.cap, j⟩, by dsimp only; rw [ea], by dsimp only; omega, s2.parent, hL2 2 _ rfl, b1, trivial, ⟨rfl, ?_, rfl, trivial⟩, Ent.pick [0, 1] rfl rfl⟩) (fun q => ⟨b1, trivial, ⟨rfl, ?_, rfl, trivial⟩, Ent.pick [0, 1] rfl rfl⟩)⟩, ?_⟩
  · rw [p2, decide_eq_true q]; rfl
  · rw [p2, decide_eq_false q]; rfl
  clear b1 hL hL2 hs hs2 p1 p2 pl
  refine fun b1 js2 _ => br_intro (fun q => ⟨(), trivial, retB ?_, Ent.pick [0] rfl rfl⟩) (fun q1 => ?_)
  · dsimp only
    unfold refTg
    rw [q]; rfl
  iterate 8 refine ⟨⟨rfl, rfl⟩, ?_⟩
  refine ⟨rin_ok, rfl, ⟨c, w, plB c i, plB c j⟩, rfl, rfl, hp, hr.sub (sub_rest 0 (by simp) rfl), fun _ _ => br_intro (fun q => ⟨(), trivial, retB ?_, Ent.pick [0] rfl rfl⟩) (fun q2 => ?_)⟩
  · dsimp only at q ⊢
    unfold refTg
    rw [q1, q]; rfl
  dsimp only at q2
  iterate 8 refine ⟨⟨rfl, rfl⟩, ?_⟩
  refine ⟨rin_ok, rfl, ⟨c, w, plB c j, plB c i⟩, rfl, rfl, hp, hr.sub (sub_rest 0 (by simp) rfl), fun _ _ => br_intro (fun q => ⟨(), trivial, retB ?_, Ent.pick [0] rfl rfl⟩) (fun q3 => ?_)⟩
  · dsimp only at q ⊢
    unfold refTg
    rw [q1, q2, q]; rfl
  dsimp only at q3
  refine ⟨⟨⟨0, b1⟩, ⟨Nat.zero_le _, ?_⟩, ⟨rfl, rfl, rfl, rfl, rfl, trivial⟩, Ent.pick [0, 1] rfl rfl⟩, ?_⟩
  · unfold refTg
    rw [q1, q2, q3]; rfl
  clear b1
  rintro ⟨k, b1⟩ js3 ⟨k1, k2⟩
  dsimp only at k1 k2 ⊢
  have bl := bestT_lt c (plB c (i : Int)).toNat (plB c (j : Int)).toNat k
  have ea' : (plB c (i : Int)).toNat = pa := by omega
  have ed' : (plB c (j : Int)).toNat = pd := by omega
  refine ⟨⟨rfl, rfl⟩, br_decide (fun hlt => ?_) (fun hge => ?_)⟩
  · have hkS : k < nS c := by omega
    have e1 : inB c (plB c (i : Int)) k = insB c pa k := by rw [hpa, inB_nat hpan hkS]
    have e2 : inB c (plB c (j : Int)) k = insB c pd k := by rw [hpd, inB_nat hpdn hkS]
    have step : bestT c (plB c (i : Int)).toNat (plB c (j : Int)).toNat (k + 1) = bif inB c (plB c (i : Int)) k && inB c (plB c (j : Int)) k then (k : Int) else bestT c (plB c (i : Int)).toNat (plB c (j : Int)).toNat k := by
      rw [e1, e2, ea', ed']; rfl
    iterate 8 refine ⟨⟨rfl, rfl⟩, ?_⟩
    refine ⟨rin_ok, rfl, ⟨c, w, plB c i, k⟩, rfl, rfl, hp, hr.sub (sub_rest 0 (by simp) rfl), fun _ _ => br_intro (fun g1 => ?_) (fun g1 => ⟨by omega, ⟨k + 1, b1⟩, ⟨by dsimp only; omega, k2⟩, ⟨rfl, rfl, rfl, ?_, rfl, trivial⟩, Ent.pick [0, 1] rfl rfl, by dsimp only; omega⟩)⟩
    · dsimp only at g1
      iterate 8 refine ⟨⟨rfl, rfl⟩, ?_⟩
      refine ⟨rin_ok, rfl, ⟨c, w, plB c j, k⟩, rfl, rfl, hp, hr.sub (sub_rest 0 (by simp) rfl), fun _ _ => br_intro (fun g2 => ⟨by omega, ⟨k + 1, b1⟩, ⟨by dsimp only; omega, k2⟩, ⟨rfl, rfl, rfl, ?_, rfl, trivial⟩, Ent.pick [0, 1] rfl rfl, by dsimp only; omega⟩) (fun g2 => ⟨by omega, ⟨k + 1, b1⟩, ⟨by dsimp only; omega, k2⟩, ⟨rfl, rfl, rfl, ?_, rfl, trivial⟩, Ent.pick [0, 1] rfl rfl, by dsimp only; omega⟩)⟩
      · dsimp only at g2 ⊢
        rw [step, g1, g2]; rfl
      · dsimp only at g2 ⊢
        rw [step, g1, g2]; rfl
    · dsimp only at g1 ⊢
      rw [step, g1]; rfl
  · have hk : k = nS c := by omega
    subst hk
    refine br_decide (fun h0 => ?_) (fun h0 => ⟨(), trivial, retB ?_, Ent.pick [0] rfl rfl⟩)
    · obtain ⟨m, hm⟩ : ∃ m : Nat, bestT c (plB c (i : Int)).toNat (plB c (j : Int)).toNat (nS c) = m := ⟨(bestT c (plB c (i : Int)).toNat (plB c (j : Int)).toNat (nS c)).toNat, by omega⟩
      rw [hm] at bl k2 ⊢
      obtain ⟨s, hs⟩ := get_st (c := c) (i := m) (by omega)
      obtain ⟨r, ⟨vk, ve, vx, vt, vd, vi, vp, rfl, -⟩, hL⟩ := hst m s hs
      refine ⟨⟨rfl, rfl⟩, ixq_ok 13 rfl rfl rfl rfl, ⟨b0, o0, w.vs.n, w.vs.cap, m⟩, by dsimp only; rw [ea], by dsimp only; omega, s.kind, hL 1 _ rfl, (), trivial, retB ?_, Ent.pick [0] rfl rfl⟩
      dsimp only
      rw [k2, decide_eq_true (by omega), Int.toNat_natCast, kd_get hs]; rfl
    · dsimp only
      rw [k2, decide_eq_false h0]; rfl
set_option maxRecDepth 100000 in
theorem rtg_ok : FnOk Try.prog 79 rTgC :=
  fnOk (N := 79) (by kernel_rfl) Try.func79 rfl (by kernel_rfl) (fun _ => Nat.le_of_ble_eq_true rfl) rtg_H [] fun x F hc hr => Eq.mpr (by kernel_rfl) (rtg_vc x F hc hr)
def rCmC : Con where
  X := LawX
  Y := Unit
  args x := [chAgg x.c x.w, .slice x.a x.n x.cap]
  pre _ := []
  cond x := Placed x.c ∧ IsSrc 1 (ints x.xs) x.a x.n ∧ x.n * 8 ≤ 140737488351232
  rdc x F := ChIn F x.w.v x.c ∧ Srcd F x.a (ints x.xs)
  rel _ _ := True
  val x _ := .returned (.int .i64 (comV x.c x.xs))
  post _ _ := []
  rmono _ _ _ h hk := ⟨hk.1.sub h, hk.2.sub h⟩
structure RcI where
  k : Nat
  b : Nat
  j : Nat
def rcA (x : LawX) (k j : Nat) : Bool := decide (kd x.c k < 2) && (x.xs.take j).all fun a => inB x.c a k
def rCmInv (x : LawX) (F : Atom) : Nat → Option Inv := fun
  | 0 => some { X := RcI, P := fun i => i.k ≤ nS x.c ∧ (x.xs = [] → i.k = 0), mu := fun i => nS x.c - i.k, lv := fun i => [(1, .slice x.a x.n x.cap), (2, .pointer (some ⟨i.b, 0, none⟩)), (5, .int .i64 (bestC x.c x.xs i.k)), (6, .int .i64 i.k)], st := fun i => [F, .cells i.b (chS x.c x.w) 28] }
  | 2 => some { X := RcI, P := fun i => i.k < nS x.c ∧ x.xs ≠ [] ∧ i.j ≤ x.n, gh := some ⟨Nat, fun i => i.k⟩, mu := fun i => x.n - i.j, lv := fun i => [(1, .slice x.a x.n x.cap), (2, .pointer (some ⟨i.b, 0, none⟩)), (5, .int .i64 (bestC x.c x.xs i.k)), (6, .int .i64 i.k), (7, .bool (rcA x i.k i.j)), (8, .int .i64 i.j)], st := fun i => [F, .cells i.b (chS x.c x.w) 28] }
  | _ => none
def rCmOv (_x : LawX) (_F : Atom) : List (Nat × Nat × OH) := [(0, 0, .n 1000), (3, 2, .q [.atj 1]), (5, 1, .q [.atj 1]), (5, 3, .qo (ixQ 13)), (5, 5, .q [.ex 0 (.int .i64)]), (9, 2, .q (at8 1)), (9, 5, .qo (ixQ 1)), (9, 6, .q [.ex 0 (.int .i64)]), (9, 8, .c rInC [] [])]
noncomputable def rcm_H (x : Con.X rCmC) (F : Atom) : Hints where
  op := hk ((rCmOv x F) ++ [])
  inv := rCmInv x F
  cut := (fun _ _ _ => none) x F
  ord := (fun _ => [])
open Go.Value (int slice string bool pointer agg tuple func) in
open Go.IntKind (i64) in
set_option maxRecDepth 100000 in
theorem rcm_vc (x : LawX) (F : Atom) (hc : Con.cond rCmC x) (hr : Con.rdc rCmC x F) :
  ∀ (b : Nat),
 (∃ (x_1 : RcI),
 (x_1.k ≤ nS x.c ∧ (x.xs = [] → x_1.k = 0)) ∧
 (slice x.a x.n x.cap = slice x.a x.n x.cap ∧ pointer (some ⟨b, 0, none⟩) = pointer (some ⟨x_1.b, 0, none⟩) ∧ int i64 (-1 : Int) = int i64 (bestC x.c x.xs x_1.k) ∧ int i64 (0 : Int) = int i64 (↑x_1.k : Int) ∧ True) ∧
 Ent [(0, F), (1000, Atom.cells b (chS x.c x.w) 28)] [(0, F), (1, Atom.cells x_1.b (chS x.c x.w) 28)]) ∧
 ∀ (x_1 : RcI) (js : Nat → Value),
 x_1.k ≤ nS x.c ∧ (x.xs = [] → x_1.k = 0) →
 Same ⟨x_1.b, 3, none⟩ x_1.b ∧
 Br (decide ((↑x_1.k : Int) < (↑x.w.vs.n : Int)))
 (Br (decide ((↑x.n : Int) > (0 : Int)))
 (Same ⟨x_1.b, 3, none⟩ x_1.b ∧
 QOpOk Try.prog (opIn Try.f22 5 3) (ixQ 13) ∧
 ∃ (x_2 : IxQX),
 [slice x.w.vs.a x.w.vs.n x.w.vs.cap, int i64 (↑x_1.k : Int)] = [slice (some ⟨x_2.b, x_2.o, none⟩) x_2.len x_2.cap, int i64 x_2.n] ∧
 ((0 : Int) ≤ x_2.n ∧ x_2.n < (↑x_2.len : Int)) ∧
 ∃ (n : Int),
 Look F ⟨x_2.b, x_2.o + x_2.n.toNat * 13 + 1, none⟩ (int i64 n) ∧
 ∃ (n_1 : Nat),
 (∃ (x_3 : RcI),
 ((x_3.k < nS x.c ∧ x.xs ≠ [] ∧ x_3.j ≤ x.n) ∧ x_3.k = n_1) ∧
 (slice x.a x.n x.cap = slice x.a x.n x.cap ∧ pointer (some ⟨x_1.b, 0, none⟩) = pointer (some ⟨x_3.b, 0, none⟩) ∧ int i64 (bestC x.c x.xs x_1.k) = int i64 (bestC x.c x.xs x_3.k) ∧ int i64 (↑x_1.k : Int) = int i64 (↑x_3.k : Int) ∧ bool (decide (n < (2 : Int))) = bool (rcA x x_3.k x_3.j) ∧ int i64 (0 : Int) = int i64 (↑x_3.j : Int) ∧ True) ∧
 Ent [(0, F), (1, Atom.cells x_1.b (chS x.c x.w) 28)] [(0, F), (1, Atom.cells x_3.b (chS x.c x.w) 28)]) ∧
 ∀ (x_3 : RcI) (js : Nat → Value),
 (x_3.k < nS x.c ∧ x.xs ≠ [] ∧ x_3.j ≤ x.n) ∧ x_3.k = n_1 →
 Br (decide ((↑x_3.j : Int) < (↑x.n : Int)))
 (true = true ∧
 Br (rcA x x_3.k x_3.j)
 (Same ⟨x_3.b, 0, none⟩ x_3.b ∧
 Same ⟨x_3.b, 1, none⟩ x_3.b ∧
 Same ⟨x_3.b, 2, none⟩ x_3.b ∧
 Same ⟨x_3.b, 3, none⟩ x_3.b ∧
 Same ⟨x_3.b, 4, none⟩ x_3.b ∧
 Same ⟨x_3.b, 5, none⟩ x_3.b ∧
 Same ⟨x_3.b, 6, none⟩ x_3.b ∧
 Same ⟨x_3.b, 7, none⟩ x_3.b ∧
 QOpOk Try.prog (opIn Try.f22 9 5) (ixQ 1) ∧
 ∃ (x_4 : IxQX),
 [slice x.a x.n x.cap, int i64 (↑x_3.j : Int)] = [slice (some ⟨x_4.b, x_4.o, none⟩) x_4.len x_4.cap, int i64 x_4.n] ∧
 ((0 : Int) ≤ x_4.n ∧ x_4.n < (↑x_4.len : Int)) ∧
 ∃ (n : Int),
 Look F ⟨x_4.b, x_4.o + x_4.n.toNat * 1, none⟩ (int i64 n) ∧
 FnOk Try.prog 16 rInC ∧
 true = true ∧
 ∃ (x_5 : RfX),
 [agg { toList := (chS x.c x.w) }, int i64 n, int i64 (↑x_3.k : Int)] = [agg { toList := (chS x_5.c x_5.w) }, int i64 x_5.a, int i64 x_5.d] ∧
 ([] : List Atom) = [] ∧
 Placed x_5.c ∧
 ChIn (Atom.pred (rest [(0, F), (1, Atom.cells x_3.b (chS x.c x.w) 28)] [])) x_5.w.v x_5.c ∧
 ∀ (y : Unit),
 True →
 ((-9223372036854775808 : Int) ≤ (↑x_3.j : Int) + (1 : Int) ∧ (↑x_3.j : Int) + (1 : Int) ≤ (9223372036854775807 : Int)) ∧
 ∃ (y : RcI),
 ((y.k < nS x.c ∧ x.xs ≠ [] ∧ y.j ≤ x.n) ∧ y.k = n_1) ∧
 (slice x.a x.n x.cap = slice x.a x.n x.cap ∧ pointer (some ⟨x_3.b, 0, none⟩) = pointer (some ⟨y.b, 0, none⟩) ∧ int i64 (bestC x.c x.xs x_3.k) = int i64 (bestC x.c x.xs y.k) ∧ int i64 (↑x_3.k : Int) = int i64 (↑y.k : Int) ∧ bool (inB x_5.c x_5.a x_5.d) = bool (rcA x y.k y.j) ∧ int i64 ((↑x_3.j : Int) + (1 : Int)) = int i64 (↑y.j : Int) ∧ True) ∧
 Ent [(0, F), (1, Atom.cells x_3.b (chS x.c x.w) 28)] [(0, F), (1, Atom.cells y.b (chS x.c x.w) 28)] ∧ x.n - y.j < x.n - x_3.j)
 (((-9223372036854775808 : Int) ≤ (↑x_3.j : Int) + (1 : Int) ∧ (↑x_3.j : Int) + (1 : Int) ≤ (9223372036854775807 : Int)) ∧
 ∃ (y : RcI),
 ((y.k < nS x.c ∧ x.xs ≠ [] ∧ y.j ≤ x.n) ∧ y.k = n_1) ∧
 (slice x.a x.n x.cap = slice x.a x.n x.cap ∧ pointer (some ⟨x_3.b, 0, none⟩) = pointer (some ⟨y.b, 0, none⟩) ∧ int i64 (bestC x.c x.xs x_3.k) = int i64 (bestC x.c x.xs y.k) ∧ int i64 (↑x_3.k : Int) = int i64 (↑y.k : Int) ∧ bool false = bool (rcA x y.k y.j) ∧ int i64 ((↑x_3.j : Int) + (1 : Int)) = int i64 (↑y.j : Int) ∧ True) ∧
 Ent [(0, F), (1, Atom.cells x_3.b (chS x.c x.w) 28)] [(0, F), (1, Atom.cells y.b (chS x.c x.w) 28)] ∧ x.n - y.j < x.n - x_3.j))
 (Br (rcA x x_3.k x_3.j)
 (((-9223372036854775808 : Int) ≤ (↑x_3.k : Int) + (1 : Int) ∧ (↑x_3.k : Int) + (1 : Int) ≤ (9223372036854775807 : Int)) ∧
 ∃ (y : RcI),
 (y.k ≤ nS x.c ∧ (x.xs = [] → y.k = 0)) ∧
 (slice x.a x.n x.cap = slice x.a x.n x.cap ∧ pointer (some ⟨x_3.b, 0, none⟩) = pointer (some ⟨y.b, 0, none⟩) ∧ int i64 (↑x_3.k : Int) = int i64 (bestC x.c x.xs y.k) ∧ int i64 ((↑x_3.k : Int) + (1 : Int)) = int i64 (↑y.k : Int) ∧ True) ∧
 Ent [(0, F), (1, Atom.cells x_3.b (chS x.c x.w) 28)] [(0, F), (1, Atom.cells y.b (chS x.c x.w) 28)] ∧ nS x.c - y.k < nS x.c - x_1.k)
 (((-9223372036854775808 : Int) ≤ (↑x_3.k : Int) + (1 : Int) ∧ (↑x_3.k : Int) + (1 : Int) ≤ (9223372036854775807 : Int)) ∧
 ∃ (y : RcI),
 (y.k ≤ nS x.c ∧ (x.xs = [] → y.k = 0)) ∧
 (slice x.a x.n x.cap = slice x.a x.n x.cap ∧ pointer (some ⟨x_3.b, 0, none⟩) = pointer (some ⟨y.b, 0, none⟩) ∧ int i64 (bestC x.c x.xs x_3.k) = int i64 (bestC x.c x.xs y.k) ∧ int i64 ((↑x_3.k : Int) + (1 : Int)) = int i64 (↑y.k : Int) ∧ True) ∧
 Ent [(0, F), (1, Atom.cells x_3.b (chS x.c x.w) 28)] [(0, F), (1, Atom.cells y.b (chS x.c x.w) 28)] ∧ nS x.c - y.k < nS x.c - x_1.k)))
 (Done rCmC x F (Ending.returned (int i64 (bestC x.c x.xs x_1.k))) [(0, F), (1, Atom.cells x_1.b (chS x.c x.w) 28)]))
 (Done rCmC x F (Ending.returned (int i64 (bestC x.c x.xs x_1.k))) [(0, F), (1, Atom.cells x_1.b (chS x.c x.w) 28)]) := by
  obtain ⟨c, w, a, n, cap, xs⟩ := x
  obtain ⟨hp, hsrc, hle⟩ := hc
  obtain ⟨hr, hx⟩ := hr
  dsimp only at hp hsrc hle hx
  replace hr : ChIn F w.v c := hr
  have hlen : xs.length = n := by have := hsrc.len; rw [ints_length] at this; omega
  have hn2 := hp.n2
  have hn128 := hp.n128
  obtain ⟨b0, o0, ea, hst⟩ := hr.stsAt (by omega)
  have hn := hr.num.1
  have look : ∀ (b o i : Nat) (u : Int), a = some ⟨b, o, none⟩ → xs[i]? = some u → Look F ⟨b, o + (i : Int).toNat * 1, none⟩ (.int .i64 u) := by
    intro b o i u e hu
    subst e
    have : o + (i : Int).toNat * 1 = o + i := by omega
    rw [this]
    exact hx.look (ints_get hu)
  refine fun b1 => ⟨⟨⟨0, b1, 0⟩, ⟨Nat.zero_le _, fun _ => rfl⟩, ⟨rfl, rfl, rfl, rfl, trivial⟩, Ent.pick [0, 1000] rfl rfl⟩, ?_⟩
  clear b1
  rintro ⟨k, b1, j0⟩ js ⟨hk, hk0⟩
  dsimp only at hk hk0 ⊢
  refine ⟨⟨rfl, rfl⟩, br_decide (fun hlt => br_decide (fun hn0 => ?_) (fun hn0 => ⟨(), trivial, retI ?_, Ent.pick [0] rfl rfl⟩)) (fun hge => ⟨(), trivial, retI ?_, Ent.pick [0] rfl rfl⟩)⟩
  · have hkS : k < nS c := by omega
    have hne : xs ≠ [] := fun e => by rw [e] at hlen; simp at hlen; omega
    obtain ⟨s, hs⟩ := get_st hkS
    obtain ⟨r, ⟨vk, ve, vx, vt, vd, vi, vp, rfl, -⟩, hL⟩ := hst k s hs
    have ek := kd_get hs
    refine ⟨⟨rfl, rfl⟩, ixq_ok 13 rfl rfl rfl rfl, ⟨b0, o0, w.vs.n, w.vs.cap, k⟩, by dsimp only; rw [ea], by dsimp only; omega, s.kind, hL 1 _ rfl, k, ⟨⟨k, b1, 0⟩, ⟨⟨hkS, hne, Nat.zero_le _⟩, rfl⟩, ⟨rfl, rfl, rfl, rfl, ?_, rfl, trivial⟩, Ent.pick [0, 1] rfl rfl⟩, ?_⟩
    · unfold rcA
      dsimp only
      rw [ek, List.take_zero]; simp
    clear b1
    rintro ⟨k2, b1, j⟩ js2 ⟨⟨_, _, hj⟩, hkk⟩
    dsimp only at hj hkk ⊢
    subst hkk
    refine br_decide (fun hlt2 => ?_) (fun hge2 => ?_)
    · obtain ⟨u, hu⟩ : ∃ u, xs[j]? = some u := ⟨_, List.getElem?_eq_getElem (by omega)⟩
      obtain ⟨b2, o2, e2⟩ := hsrc.some (by omega)
      have step : rcA ⟨c, w, a, n, cap, xs⟩ k2 (j + 1) = (rcA ⟨c, w, a, n, cap, xs⟩ k2 j && inB c u k2) := by
        unfold rcA
        dsimp only
        rw [take_g hu, List.all_append]
        simp [Bool.and_assoc]
      refine ⟨rfl, br_intro (fun q => ?_) (fun q => ⟨by omega, ⟨k2, b1, j + 1⟩, ⟨⟨hkS, hne, by dsimp only; omega⟩, rfl⟩, ⟨rfl, rfl, rfl, rfl, ?_, rfl, trivial⟩, Ent.pick [0, 1] rfl rfl, by dsimp only; omega⟩)⟩
      · iterate 8 refine ⟨⟨rfl, rfl⟩, ?_⟩
        refine ⟨ixq_ok 1 rfl rfl rfl rfl, ⟨b2, o2, n, cap, j⟩, by rw [e2], by dsimp only; omega, u, look b2 o2 j u e2 hu, rin_ok, rfl, ⟨c, w, u, k2⟩, rfl, rfl, hp, hr.sub (sub_rest 0 (by simp) rfl), fun _ _ => ⟨by omega, ⟨k2, b1, j + 1⟩, ⟨⟨hkS, hne, by dsimp only; omega⟩, rfl⟩, ⟨rfl, rfl, rfl, rfl, ?_, rfl, trivial⟩, Ent.pick [0, 1] rfl rfl, by dsimp only; omega⟩⟩
        rw [step, q, Bool.true_and]
      · rw [step, q, Bool.false_and]
    · have hjn : j = xs.length := by omega
      have eq : rcA ⟨c, w, a, n, cap, xs⟩ k2 j = cmQ c xs k2 := by
        unfold rcA cmQ
        dsimp only
        rw [hjn, List.take_length]
      refine br_intro (fun q => ⟨by omega, ⟨k2 + 1, b1, 0⟩, ⟨by dsimp only; omega, fun h => absurd h hne⟩, ⟨rfl, rfl, ?_, rfl, trivial⟩, Ent.pick [0, 1] rfl rfl, by dsimp only; omega⟩) (fun q => ⟨by omega, ⟨k2 + 1, b1, 0⟩, ⟨by dsimp only; omega, fun h => absurd h hne⟩, ⟨rfl, rfl, ?_, rfl, trivial⟩, Ent.pick [0, 1] rfl rfl, by dsimp only; omega⟩)
      · dsimp only
        rw [bestC, ← eq, q]; rfl
      · dsimp only
        rw [bestC, ← eq, q]; rfl
  · have hxs : xs = [] := List.eq_nil_of_length_eq_zero (by omega)
    dsimp only
    rw [hk0 hxs, hxs]; rfl
  · dsimp only
    by_cases hxs : xs = []
    · rw [hk0 hxs, hxs]; rfl
    · rw [show k = nS c by omega]
      exact bestC_eq hp hxs
set_option maxRecDepth 100000 in
theorem rcm_ok : FnOk Try.prog 22 rCmC :=
  fnOk (N := 47) (by kernel_rfl) Try.func22 rfl (by kernel_rfl) (fun _ => Nat.le_of_ble_eq_true rfl) rcm_H [] fun x F hc hr => Eq.mpr (by kernel_rfl) (rcm_vc x F hc hr)
structure RfnX where
  c : ChD
  w : ChS
  a : Option Addr
  n : Nat
  cap : Nat
  cf : List Int
  s : Int
def rFnC (d : Nat) : Con where
  X := RfnX
  Y := Unit
  args x := [chAgg x.c x.w, .slice x.a x.n x.cap, .int .i64 x.s]
  pre _ := []
  cond x := (Placed x.c ∧ IsSrc 1 (ints x.cf) x.a x.n ∧ x.n * 8 ≤ 140737488351232) ∧ (nS x.c : Int) - x.s ≤ d
  rdc x F := ChIn F x.w.v x.c ∧ Srcd F x.a (ints x.cf)
  rel _ _ := True
  val x _ := .returned (.bool (finR x.c x.cf d x.s))
  post _ _ := []
  rmono _ _ _ h hk := ⟨hk.1.sub h, hk.2.sub h⟩
structure RfnY extends RfnX where
  d : Nat
def rFnS : Con where
  X := RfnY
  Y := Unit
  args x := [chAgg x.c x.w, .slice x.a x.n x.cap, .int .i64 x.s]
  pre _ := []
  cond x := (Placed x.c ∧ IsSrc 1 (ints x.cf) x.a x.n ∧ x.n * 8 ≤ 140737488351232) ∧ (nS x.c : Int) - x.s ≤ x.d ∧ (0 < x.d → FnOk Try.prog 26 (rFnC (x.d - 1)))
  rdc x F := ChIn F x.w.v x.c ∧ Srcd F x.a (ints x.cf)
  rel _ _ := True
  val x _ := .returned (.bool (finR x.c x.cf x.d x.s))
  post _ _ := []
  rmono _ _ _ h hk := ⟨hk.1.sub h, hk.2.sub h⟩
structure RfnI where
  j : Nat
  b : Nat
  r : Row
def rFnP (x : RfnY) (i : RfnI) : Prop := IsRow 3 1 (ints (kidW x.c x.s)) i.r ∧ i.r.n = (kidW x.c x.s).length ∧ i.j ≤ i.r.n ∧ 0 < x.d
def rFnInv (x : RfnY) (F : Atom) : Nat → Option Inv := fun
  | 0 => some { X := RfnI, P := fun i => rFnP x i ∧ finR x.c x.cf x.d x.s = ((kidW x.c x.s).drop i.j).all (finR x.c x.cf (x.d - 1)), mu := fun i => i.r.n - i.j, lv := fun i => [(1, .slice x.a x.n x.cap), (3, .pointer (some ⟨i.b, 0, none⟩)), (7, .slice i.r.a i.r.n i.r.cap), (8, .int .i64 i.j)], st := fun i => [F, .cells i.b (chS x.c x.w) 28, i.r.A] }
  | 2 => some { X := RfnI, P := fun i => rFnP x i ∧ finR x.c x.cf x.d x.s = ((kidW x.c x.s).drop i.j).any (f1B x.c x.cf), mu := fun i => i.r.n - i.j, lv := fun i => [(1, .slice x.a x.n x.cap), (3, .pointer (some ⟨i.b, 0, none⟩)), (7, .slice i.r.a i.r.n i.r.cap), (9, .int .i64 i.j)], st := fun i => [F, .cells i.b (chS x.c x.w) 28, i.r.A] }
  | _ => none
def rFnOv (x : RfnY) (_F : Atom) : List (Nat × Nat × OH) := [(0, 0, .n 1000), (1, 0, .q (at8 1000)), (1, 2, .c rKidsC [] [2020]), (4, 1, .q [.atj 1000]), (4, 3, .qo (ixQ 13)), (4, 5, .q [.ex 0 (.int .i64)]), (8, 0, .q (at8 1)), (8, 4, .qo (ixQ 1)), (8, 5, .q [.ex 2 (.int .i64)]), (8, 6, .c (rFnC (x.d - 1)) [] []), (14, 1, .q [.atj 1]), (14, 4, .qo (ixQ 1)), (14, 5, .q [.ex 2 (.int .i64)]), (14, 6, .qo (ixQ 13)), (14, 8, .q [.ex 0 (.int .i64)]), (14, 13, .qo (ixQ 1)), (14, 14, .q [.ex 2 (.int .i64)]), (14, 16, .c amC [] [])]
noncomputable def rfn_H (x : Con.X rFnS) (F : Atom) : Hints where
  op := hk ((rFnOv x F) ++ [])
  inv := rFnInv x F
  cut := (fun _ _ _ => none) x F
  ord := (fun _ => [])
open Go.Value (int slice string bool pointer agg tuple func) in
open Go.IntKind (i64) in
set_option maxRecDepth 100000 in
theorem rfn_vc (x : RfnY) (F : Atom) (hc : Con.cond rFnS x) (hr : Con.rdc rFnS x F) :
  ∀ (b : Nat),
 Same ⟨b, 0, none⟩ b ∧
 Same ⟨b, 1, none⟩ b ∧
 Same ⟨b, 2, none⟩ b ∧
 Same ⟨b, 3, none⟩ b ∧
 Same ⟨b, 4, none⟩ b ∧
 Same ⟨b, 5, none⟩ b ∧
 Same ⟨b, 6, none⟩ b ∧
 Same ⟨b, 7, none⟩ b ∧
 FnOk Try.prog 31 rKidsC ∧
 true = true ∧
 ∃ (x_1 : RfX),
 [agg { toList := (chS x.c x.w) }, int i64 x.s] = [agg { toList := (chS x_1.c x_1.w) }, int i64 x_1.a] ∧
 ([] : List Atom) = [] ∧
 nS x_1.c ≤ 1000 ∧
 ChIn (Atom.pred (rest [(0, F), (1000, Atom.cells b (chS x.c x.w) 28)] [])) x_1.w.v x_1.c ∧
 ∀ (y : Row),
 IsRow 3 1 (ints (kidV x_1.c x_1.a)) y ∧ y.n = (kidV x_1.c x_1.a).length →
 Br ((↑y.n : Int) == (0 : Int)) (Done rFnS x F (Ending.returned (bool false)) [(0, F), (1000, Atom.cells b (chS x.c x.w) 28), (2020, y.A)])
 (Same ⟨b, 3, none⟩ b ∧
 QOpOk Try.prog (opIn Try.f26 4 3) (ixQ 13) ∧
 ∃ (x_2 : IxQX),
 [slice x.w.vs.a x.w.vs.n x.w.vs.cap, int i64 x.s] = [slice (some ⟨x_2.b, x_2.o, none⟩) x_2.len x_2.cap, int i64 x_2.n] ∧
 ((0 : Int) ≤ x_2.n ∧ x_2.n < (↑x_2.len : Int)) ∧
 ∃ (n : Int),
 Look F ⟨x_2.b, x_2.o + x_2.n.toNat * 13 + 1, none⟩ (int i64 n) ∧
 Br (n == (2 : Int))
 ((∃ (x_3 : RfnI),
 (rFnP x x_3 ∧ finR x.c x.cf x.d x.s = (List.drop x_3.j (kidW x.c x.s)).all (finR x.c x.cf (x.d - 1))) ∧
 (slice x.a x.n x.cap = slice x.a x.n x.cap ∧ pointer (some ⟨b, 0, none⟩) = pointer (some ⟨x_3.b, 0, none⟩) ∧ slice y.a y.n y.cap = slice x_3.r.a x_3.r.n x_3.r.cap ∧ int i64 (0 : Int) = int i64 (↑x_3.j : Int) ∧ True) ∧
 Ent [(0, F), (1000, Atom.cells b (chS x.c x.w) 28), (2020, y.A)] [(0, F), (1, Atom.cells x_3.b (chS x.c x.w) 28), (2, x_3.r.A)]) ∧
 ∀ (x_3 : RfnI) (js : Nat → Value),
 rFnP x x_3 ∧ finR x.c x.cf x.d x.s = (List.drop x_3.j (kidW x.c x.s)).all (finR x.c x.cf (x.d - 1)) →
 Br (decide ((↑x_3.j : Int) < (↑x_3.r.n : Int)))
 (true = true ∧
 Same ⟨x_3.b, 0, none⟩ x_3.b ∧
 Same ⟨x_3.b, 1, none⟩ x_3.b ∧
 Same ⟨x_3.b, 2, none⟩ x_3.b ∧
 Same ⟨x_3.b, 3, none⟩ x_3.b ∧
 Same ⟨x_3.b, 4, none⟩ x_3.b ∧
 Same ⟨x_3.b, 5, none⟩ x_3.b ∧
 Same ⟨x_3.b, 6, none⟩ x_3.b ∧
 Same ⟨x_3.b, 7, none⟩ x_3.b ∧
 QOpOk Try.prog (opIn Try.f26 8 4) (ixQ 1) ∧
 ∃ (x_4 : IxQX),
 [slice x_3.r.a x_3.r.n x_3.r.cap, int i64 (↑x_3.j : Int)] = [slice (some ⟨x_4.b, x_4.o, none⟩) x_4.len x_4.cap, int i64 x_4.n] ∧
 ((0 : Int) ≤ x_4.n ∧ x_4.n < (↑x_4.len : Int)) ∧
 ∃ (n : Int),
 Look x_3.r.A ⟨x_4.b, x_4.o + x_4.n.toNat * 1, none⟩ (int i64 n) ∧
 FnOk Try.prog 26 (rFnC (x.d - 1)) ∧
 true = true ∧
 ∃ (x_5 : RfnX),
 [agg { toList := (chS x.c x.w) }, slice x.a x.n x.cap, int i64 n] = [agg { toList := (chS x_5.c x_5.w) }, slice x_5.a x_5.n x_5.cap, int i64 x_5.s] ∧
 ([] : List Atom) = [] ∧
 ((Placed x_5.c ∧ IsSrc 1 (ints x_5.cf) x_5.a x_5.n ∧ x_5.n * 8 ≤ 140737488351232) ∧ (↑(nS x_5.c) : Int) - x_5.s ≤ (↑(x.d - 1) : Int)) ∧
 (ChIn (Atom.pred (rest [(0, F), (1, Atom.cells x_3.b (chS x.c x.w) 28), (2, x_3.r.A)] [])) x_5.w.v x_5.c ∧ Srcd (Atom.pred (rest [(0, F), (1, Atom.cells x_3.b (chS x.c x.w) 28), (2, x_3.r.A)] [])) x_5.a (ints x_5.cf)) ∧
 ∀ (y : Unit),
 True →
 Br (!finR x_5.c x_5.cf (x.d - 1) x_5.s) (Done rFnS x F (Ending.returned (bool false)) [(0, F), (1, Atom.cells x_3.b (chS x.c x.w) 28), (2, x_3.r.A)])
 (((-9223372036854775808 : Int) ≤ (↑x_3.j : Int) + (1 : Int) ∧ (↑x_3.j : Int) + (1 : Int) ≤ (9223372036854775807 : Int)) ∧
 ∃ (y : RfnI),
 (rFnP x y ∧ finR x.c x.cf x.d x.s = (List.drop y.j (kidW x.c x.s)).all (finR x.c x.cf (x.d - 1))) ∧
 (slice x.a x.n x.cap = slice x.a x.n x.cap ∧ pointer (some ⟨x_3.b, 0, none⟩) = pointer (some ⟨y.b, 0, none⟩) ∧ slice x_3.r.a x_3.r.n x_3.r.cap = slice y.r.a y.r.n y.r.cap ∧ int i64 ((↑x_3.j : Int) + (1 : Int)) = int i64 (↑y.j : Int) ∧ True) ∧
 Ent [(0, F), (1, Atom.cells x_3.b (chS x.c x.w) 28), (2, x_3.r.A)] [(0, F), (1, Atom.cells y.b (chS x.c x.w) 28), (2, y.r.A)] ∧ y.r.n - y.j < x_3.r.n - x_3.j))
 (Done rFnS x F (Ending.returned (bool true)) [(0, F), (1, Atom.cells x_3.b (chS x.c x.w) 28), (2, x_3.r.A)]))
 ((∃ (x_3 : RfnI),
 (rFnP x x_3 ∧ finR x.c x.cf x.d x.s = (List.drop x_3.j (kidW x.c x.s)).any (f1B x.c x.cf)) ∧
 (slice x.a x.n x.cap = slice x.a x.n x.cap ∧ pointer (some ⟨b, 0, none⟩) = pointer (some ⟨x_3.b, 0, none⟩) ∧ slice y.a y.n y.cap = slice x_3.r.a x_3.r.n x_3.r.cap ∧ int i64 (0 : Int) = int i64 (↑x_3.j : Int) ∧ True) ∧
 Ent [(0, F), (1000, Atom.cells b (chS x.c x.w) 28), (2020, y.A)] [(0, F), (1, Atom.cells x_3.b (chS x.c x.w) 28), (2, x_3.r.A)]) ∧
 ∀ (x_3 : RfnI) (js : Nat → Value),
 rFnP x x_3 ∧ finR x.c x.cf x.d x.s = (List.drop x_3.j (kidW x.c x.s)).any (f1B x.c x.cf) →
 Br (decide ((↑x_3.j : Int) < (↑x_3.r.n : Int)))
 (true = true ∧
 Same ⟨x_3.b, 3, none⟩ x_3.b ∧
 QOpOk Try.prog (opIn Try.f26 14 4) (ixQ 1) ∧
 ∃ (x_4 : IxQX),
 [slice x_3.r.a x_3.r.n x_3.r.cap, int i64 (↑x_3.j : Int)] = [slice (some ⟨x_4.b, x_4.o, none⟩) x_4.len x_4.cap, int i64 x_4.n] ∧
 ((0 : Int) ≤ x_4.n ∧ x_4.n < (↑x_4.len : Int)) ∧
 ∃ (n : Int),
 Look x_3.r.A ⟨x_4.b, x_4.o + x_4.n.toNat * 1, none⟩ (int i64 n) ∧
 QOpOk Try.prog (opIn Try.f26 14 6) (ixQ 13) ∧
 ∃ (x_5 : IxQX),
 [slice x.w.vs.a x.w.vs.n x.w.vs.cap, int i64 n] = [slice (some ⟨x_5.b, x_5.o, none⟩) x_5.len x_5.cap, int i64 x_5.n] ∧
 ((0 : Int) ≤ x_5.n ∧ x_5.n < (↑x_5.len : Int)) ∧
 ∃ (n : Int),
 Look F ⟨x_5.b, x_5.o + x_5.n.toNat * 13 + 1, none⟩ (int i64 n) ∧
 Br (n == (3 : Int))
 (QOpOk Try.prog (opIn Try.f26 14 13) (ixQ 1) ∧
 ∃ (x_6 : IxQX),
 [slice x_3.r.a x_3.r.n x_3.r.cap, int i64 (↑x_3.j : Int)] = [slice (some ⟨x_6.b, x_6.o, none⟩) x_6.len x_6.cap, int i64 x_6.n] ∧
 ((0 : Int) ≤ x_6.n ∧ x_6.n < (↑x_6.len : Int)) ∧
 ∃ (n : Int),
 Look x_3.r.A ⟨x_6.b, x_6.o + x_6.n.toNat * 1, none⟩ (int i64 n) ∧
 FnOk Try.prog 32 amC ∧
 true = true ∧
 ∃ (x_7 : InX),
 [int i64 n, slice x.a x.n x.cap] = [int i64 x_7.v, slice x_7.a x_7.n x_7.cap] ∧
 ([] : List Atom) = [] ∧
 (IsSrc 1 (ints x_7.xs) x_7.a x_7.n ∧ x_7.n * 8 ≤ 140737488351232) ∧
 Srcd (Atom.pred (rest [(0, F), (1, Atom.cells x_3.b (chS x.c x.w) 28), (2, x_3.r.A)] [])) x_7.a (ints x_7.xs) ∧
 ∀ (y : Unit),
 True →
 Br (memB x_7.xs x_7.v) (Done rFnS x F (Ending.returned (bool true)) [(0, F), (1, Atom.cells x_3.b (chS x.c x.w) 28), (2, x_3.r.A)])
 (((-9223372036854775808 : Int) ≤ (↑x_3.j : Int) + (1 : Int) ∧ (↑x_3.j : Int) + (1 : Int) ≤ (9223372036854775807 : Int)) ∧
 ∃ (y : RfnI),
 (rFnP x y ∧ finR x.c x.cf x.d x.s = (List.drop y.j (kidW x.c x.s)).any (f1B x.c x.cf)) ∧
 (slice x.a x.n x.cap = slice x.a x.n x.cap ∧ pointer (some ⟨x_3.b, 0, none⟩) = pointer (some ⟨y.b, 0, none⟩) ∧ slice x_3.r.a x_3.r.n x_3.r.cap = slice y.r.a y.r.n y.r.cap ∧ int i64 ((↑x_3.j : Int) + (1 : Int)) = int i64 (↑y.j : Int) ∧ True) ∧
 Ent [(0, F), (1, Atom.cells x_3.b (chS x.c x.w) 28), (2, x_3.r.A)] [(0, F), (1, Atom.cells y.b (chS x.c x.w) 28), (2, y.r.A)] ∧ y.r.n - y.j < x_3.r.n - x_3.j))
 (((-9223372036854775808 : Int) ≤ (↑x_3.j : Int) + (1 : Int) ∧ (↑x_3.j : Int) + (1 : Int) ≤ (9223372036854775807 : Int)) ∧
 ∃ (y : RfnI),
 (rFnP x y ∧ finR x.c x.cf x.d x.s = (List.drop y.j (kidW x.c x.s)).any (f1B x.c x.cf)) ∧
 (slice x.a x.n x.cap = slice x.a x.n x.cap ∧ pointer (some ⟨x_3.b, 0, none⟩) = pointer (some ⟨y.b, 0, none⟩) ∧ slice x_3.r.a x_3.r.n x_3.r.cap = slice y.r.a y.r.n y.r.cap ∧ int i64 ((↑x_3.j : Int) + (1 : Int)) = int i64 (↑y.j : Int) ∧ True) ∧
 Ent [(0, F), (1, Atom.cells x_3.b (chS x.c x.w) 28), (2, x_3.r.A)] [(0, F), (1, Atom.cells y.b (chS x.c x.w) 28), (2, y.r.A)] ∧ y.r.n - y.j < x_3.r.n - x_3.j))
 (Done rFnS x F (Ending.returned (bool false)) [(0, F), (1, Atom.cells x_3.b (chS x.c x.w) 28), (2, x_3.r.A)]))) := by
  obtain ⟨⟨c, w, a, n, cap, cf, s0⟩, d⟩ := x
  obtain ⟨⟨hp, hsrc, hle⟩, hd, ih⟩ := hc
  obtain ⟨hr, hx⟩ := hr
  dsimp only at hp hsrc hle hd ih hx
  replace hr : ChIn F w.v c := hr
  have hn2 := hp.n2
  have hn128 := hp.n128
  obtain ⟨b0, o0, ea, hst⟩ := hr.stsAt (by omega)
  have hn := hr.num.1
  have ekw : kidV c s0 = kidW c s0 := rfl
  intro b1
  iterate 8 refine ⟨⟨rfl, rfl⟩, ?_⟩
  refine ⟨rkids_ok, rfl, ⟨c, w, s0, 0⟩, rfl, rfl, by dsimp only; omega, hr.sub (sub_rest 0 (by simp) rfl), fun r hr2 => br_intro (fun q => ⟨(), trivial, retB ?_, Ent.pick [0] rfl rfl⟩) (fun q => ?_)⟩
  · dsimp only at hr2 ⊢
    rw [hr2.2, ekw] at q
    cases d with
    | zero => rfl
    | succ d => rw [finR, q]; rfl
  dsimp only at hr2
  rw [ekw] at hr2
  obtain ⟨h1, h2⟩ := hr2
  have hkl : (kidW c s0).length ≠ 0 := fun e => by rw [h2, e] at q; simp at q
  have hs : isS c s0 = true := by
    cases h : isS c s0 with
    | true => rfl
    | false => exfalso; apply hkl; unfold kidW; rw [h]; rfl
  obtain ⟨i, rfl, hi⟩ := isS_spec hs
  obtain ⟨d, rfl⟩ : ∃ e, d = e + 1 := ⟨d - 1, by omega⟩
  replace ih : FnOk Try.prog 26 (rFnC d) := ih (Nat.succ_pos d)
  have hlb : (kidW c (i : Int)).length ≤ 128 := by
    unfold kidW
    rw [hs, cond_true]
    have := kidsOf_len c 4 (nS c) (i : Int).toNat
    exact Nat.le_trans this hn128
  have kid : ∀ u ∈ kidW c (i : Int), ∃ m : Nat, u = m ∧ m < nS c ∧ i < m := fun u hu => by
    unfold kidW at hu
    rw [hs, cond_true] at hu
    obtain ⟨m, rfl, m1, m2, m3, m4⟩ := mem_kidsOf.1 hu
    rw [Int.toNat_natCast] at m3
    have := pr_lt hp m2
    exact ⟨m, rfl, m2, by omega⟩
  obtain ⟨s, hsi⟩ := get_st hi
  obtain ⟨rr, ⟨vk, ve, vx, vt, vd, vi, vp, rfl, -⟩, hL⟩ := hst i s hsi
  have ek := kd_get hsi
  have q' : ((((kidW c (i : Int)).length : Nat) : Int) == 0) = false := by rw [← h2]; exact q
  have unf : finR c cf (d + 1) i = bif kd c i == 2 then (kidW c (i : Int)).all (finR c cf d) else (kidW c (i : Int)).any (f1B c cf) := by
    rw [finR, q', cond_false, Int.toNat_natCast]
  refine ⟨⟨rfl, rfl⟩, ixq_ok 13 rfl rfl rfl rfl, ⟨b0, o0, w.vs.n, w.vs.cap, i⟩, by dsimp only; rw [ea], by dsimp only; omega, s.kind, hL 1 _ rfl, br_intro (fun q2 => ⟨⟨⟨0, b1, r⟩, ⟨⟨h1, h2, Nat.zero_le _, Nat.succ_pos d⟩, ?_⟩, ⟨rfl, rfl, rfl, rfl, trivial⟩, Ent.pick [0, 1000, 2020] rfl rfl⟩, ?_⟩) (fun q2 => ⟨⟨⟨0, b1, r⟩, ⟨⟨h1, h2, Nat.zero_le _, Nat.succ_pos d⟩, ?_⟩, ⟨rfl, rfl, rfl, rfl, trivial⟩, Ent.pick [0, 1000, 2020] rfl rfl⟩, ?_⟩)⟩
  · dsimp only
    rw [unf, ek, q2]; rfl
  · clear h1 h2 q b1 r
    rintro ⟨j, b1, r⟩ js ⟨⟨h1, h2, h3, h4⟩, h5⟩
    dsimp only at h1 h2 h3 h4 h5 ⊢
    refine br_decide (fun hlt => ?_) (fun hge => ⟨(), trivial, retB ?_, Ent.pick [0] rfl rfl⟩)
    · obtain ⟨u, hu⟩ : ∃ u, (kidW c (i : Int))[j]? = some u := ⟨_, List.getElem?_eq_getElem (by omega)⟩
      obtain ⟨m, rfl, hm, him⟩ := kid u (List.mem_of_getElem? hu)
      obtain ⟨b3, hb3⟩ := h1.at0 (by omega)
      have hsd := h1.srcd
      rw [hb3] at hsd
      have ej : 0 + (j : Int).toNat * 1 = 0 + j := by omega
      rw [drop_g hu, List.all_cons] at h5
      refine ⟨rfl, ?_⟩
      iterate 8 refine ⟨⟨rfl, rfl⟩, ?_⟩
      refine ⟨ixq_ok 1 rfl rfl rfl rfl, ⟨b3, 0, r.n, r.cap, j⟩, by rw [hb3], by dsimp only; omega, m, by rw [ej]; exact hsd.look (ints_get hu), ih, rfl, ⟨c, w, a, n, cap, cf, m⟩, rfl, rfl, ⟨⟨hp, hsrc, hle⟩, by dsimp only; omega⟩, ⟨hr.sub (sub_rest 0 (by simp) rfl), hx.sub (sub_rest 0 (by simp) rfl)⟩, fun _ _ => br_intro (fun q => ⟨(), trivial, retB ?_, Ent.pick [0] rfl rfl⟩) (fun q => ⟨by omega, ⟨j + 1, b1, r⟩, ⟨⟨h1, h2, by dsimp only; omega, h4⟩, ?_⟩, ⟨rfl, rfl, rfl, rfl, trivial⟩, Ent.pick [0, 1, 2] rfl rfl, by dsimp only; omega⟩)⟩
      · have q : finR c cf d m = false := by simpa using q
        have h5' : finR c cf (d + 1) i = (finR c cf d m && ((kidW c (i : Int)).drop (j + 1)).all (finR c cf d)) := h5
        dsimp only
        rw [h5', q]; rfl
      · have q : finR c cf d m = true := by simpa using q
        have h5' : finR c cf (d + 1) i = (finR c cf d m && ((kidW c (i : Int)).drop (j + 1)).all (finR c cf d)) := h5
        dsimp only
        rw [h5', q]; rfl
    · rw [List.drop_eq_nil_of_le (by omega)] at h5
      exact h5.symm
  · dsimp only
    rw [unf, ek, q2]; rfl
  · clear h1 h2 q b1 r
    rintro ⟨j, b1, r⟩ js ⟨⟨h1, h2, h3, h4⟩, h5⟩
    dsimp only at h1 h2 h3 h4 h5 ⊢
    refine br_decide (fun hlt => ?_) (fun hge => ⟨(), trivial, retB ?_, Ent.pick [0] rfl rfl⟩)
    · obtain ⟨u, hu⟩ : ∃ u, (kidW c (i : Int))[j]? = some u := ⟨_, List.getElem?_eq_getElem (by omega)⟩
      obtain ⟨m, rfl, hm, him⟩ := kid u (List.mem_of_getElem? hu)
      obtain ⟨b3, hb3⟩ := h1.at0 (by omega)
      have hsd := h1.srcd
      rw [hb3] at hsd
      have ej : 0 + (j : Int).toNat * 1 = 0 + j := by omega
      obtain ⟨s3, hs3⟩ := get_st hm
      obtain ⟨rr3, ⟨vk3, ve3, vx3, vt3, vd3, vi3, vp3, rfl, -⟩, hL3⟩ := hst m s3 hs3
      have ek3 := kd_get hs3
      rw [drop_g hu, List.any_cons] at h5
      have hf1 : f1B c cf m = bif s3.kind == 3 then memB cf m else false := by unfold f1B; rw [Int.toNat_natCast, ek3]
      refine ⟨rfl, ⟨rfl, rfl⟩, ixq_ok 1 rfl rfl rfl rfl, ⟨b3, 0, r.n, r.cap, j⟩, by rw [hb3], by dsimp only; omega, m, by rw [ej]; exact hsd.look (ints_get hu), ixq_ok 13 rfl rfl rfl rfl, ⟨b0, o0, w.vs.n, w.vs.cap, m⟩, by dsimp only; rw [ea], by dsimp only; omega, s3.kind, hL3 1 _ rfl, br_intro (fun q => ⟨ixq_ok 1 rfl rfl rfl rfl, ⟨b3, 0, r.n, r.cap, j⟩, by rw [hb3], by dsimp only; omega, m, by rw [ej]; exact hsd.look (ints_get hu), am_ok, rfl, ⟨a, n, cap, cf, m⟩, rfl, rfl, ⟨hsrc, hle⟩, hx.sub (sub_rest 0 (by simp) rfl), fun _ _ => br_intro (fun q3 => ⟨(), trivial, retB ?_, Ent.pick [0] rfl rfl⟩) (fun q3 => ⟨by omega, ⟨j + 1, b1, r⟩, ⟨⟨h1, h2, by dsimp only; omega, h4⟩, ?_⟩, ⟨rfl, rfl, rfl, rfl, trivial⟩, Ent.pick [0, 1, 2] rfl rfl, by dsimp only; omega⟩)⟩) (fun q => ⟨by omega, ⟨j + 1, b1, r⟩, ⟨⟨h1, h2, by dsimp only; omega, h4⟩, ?_⟩, ⟨rfl, rfl, rfl, rfl, trivial⟩, Ent.pick [0, 1, 2] rfl rfl, by dsimp only; omega⟩)⟩
      · dsimp only at q3 ⊢
        rw [h5, hf1, q, cond_true, q3]; rfl
      · dsimp only at q3 ⊢
        rw [h5, hf1, q, cond_true, q3]; rfl
      · dsimp only
        rw [h5, hf1, q]; rfl
    · rw [List.drop_eq_nil_of_le (by omega)] at h5
      exact h5.symm
set_option maxRecDepth 100000 in
theorem rfn_ok : FnOk Try.prog 26 rFnS :=
  fnOk (N := 61) (by kernel_rfl) Try.func26 rfl (by kernel_rfl) (fun _ => Nat.le_of_ble_eq_true rfl) rfn_H [] fun x F hc hr => Eq.mpr (by kernel_rfl) (rfn_vc x F hc hr)
theorem rfn_all : ∀ d, FnOk Try.prog 26 (rFnC d) := by
  intro d
  induction d with
  | zero => exact rfn_ok.conseq fun x F I w hc hr hs => ⟨⟨x, 0⟩, I, Imm.le_refl I, ⟨hc.1, hc.2, fun h => absurd h (Nat.lt_irrefl 0)⟩, hr, rfl, hs, fun _ _ => ⟨(), trivial, rfl, Ent.refl _⟩⟩
  | succ d ih => exact rfn_ok.conseq fun x F I w hc hr hs => ⟨⟨x, d + 1⟩, I, Imm.le_refl I, ⟨hc.1, hc.2, fun _ => ih⟩, hr, rfl, hs, fun _ _ => ⟨(), trivial, rfl, Ent.refl _⟩⟩
def rFinC : Con where
  X := RfnX
  Y := Unit
  args x := [chAgg x.c x.w, .slice x.a x.n x.cap, .int .i64 x.s]
  pre _ := []
  cond x := Placed x.c ∧ IsSrc 1 (ints x.cf) x.a x.n ∧ x.n * 8 ≤ 140737488351232
  rdc x F := ChIn F x.w.v x.c ∧ Srcd F x.a (ints x.cf)
  rel _ _ := True
  val x _ := .returned (.bool (finB x.c x.cf (nS x.c) x.s))
  post _ _ := []
  rmono _ _ _ h hk := ⟨hk.1.sub h, hk.2.sub h⟩
theorem rfin_ok : FnOk Try.prog 26 rFinC := by
  refine ⟨fun x F I w hc hr hs => ?_⟩
  have h := (rfn_all ((nS x.c : Int) - x.s).toNat).h x F I w ⟨hc, by omega⟩ hr hs
  refine h.mono ?_
  rintro e w' ⟨y, J, h1, rfl, h3⟩
  refine ⟨y, J, h1, ?_, h3⟩
  refine retB ?_
  rw [finR_eq hc.1]
  cases ha : isS x.c x.s with
  | false => rw [finB_no ha, finB_no ha]
  | true =>
    obtain ⟨i, hi, hin⟩ := isS_spec ha
    exact finB_fuel hc.1 _ _ _ _ (by omega) (by omega)
end Go.Proofs.Ytfmadkaiigiaiaa
