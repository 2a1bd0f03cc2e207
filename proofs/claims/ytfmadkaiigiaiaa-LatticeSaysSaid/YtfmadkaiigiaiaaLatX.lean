/- The document's answers about a chart, part 3: Legal. -/
import Derived.Test.YtfmadkaiigiaiaaLatW
set_option linter.all false
namespace Go.Proofs.Ytfmadkaiigiaiaa
open Go
set_option maxHeartbeats 1000000
def rLgC : Con where
  X := LawX
  Y := Unit
  args x := [chAgg x.c x.w, .slice x.a x.n x.cap]
  pre _ := []
  cond x := Placed x.c ∧ IsSrc 1 (ints x.xs) x.a x.n ∧ x.n * 8 ≤ 140737488351232
  rdc x F := ChIn F x.w.v x.c ∧ Srcd F x.a (ints x.xs)
  rel _ _ := True
  val x _ := .returned (.bool (legB x.c x.xs))
  post _ _ := []
  rmono _ _ _ h hk := ⟨hk.1.sub h, hk.2.sub h⟩
structure RlI where
  k : Nat
  b : Nat
  prev : Int
  s : Int
  r : Row
  j : Nat
def rl1 (x : LawX) (k : Nat) (prev : Int) : Prop := (k = 0 → prev = 0) ∧ (∀ u, 0 < k → x.xs[k - 1]? = some u → prev = u) ∧ r1B x.c x.xs 0 x.xs = r1B x.c x.xs prev (x.xs.drop k)
def rLgInv (x : LawX) (F : Atom) : Nat → Option Inv := fun
  | 0 => some { X := RlI, P := fun i => i.k ≤ x.n ∧ rl1 x i.k i.prev, mu := fun i => x.n - i.k, lv := fun i => [(1, .slice x.a x.n x.cap), (2, .pointer (some ⟨i.b, 0, none⟩)), (5, .int .i64 i.k)], st := fun i => [F, .cells i.b (chS x.c x.w) 28] }
  | 2 => some { X := RlI, P := fun i => i.k ≤ nS x.c ∧ legB x.c x.xs = (lgRL x.c x.xs (nS x.c - i.k) i.k && decide ((x.xs.length : Int) > 0)), mu := fun i => nS x.c - i.k, lv := fun i => [(1, .slice x.a x.n x.cap), (2, .pointer (some ⟨i.b, 0, none⟩)), (7, .int .i64 i.k)], st := fun i => [F, .cells i.b (chS x.c x.w) 28] }
  | 4 => some { X := RlI, P := fun i => i.k < nS x.c ∧ (decide ((i.k : Int) > 0) && !memB x.xs i.k) = false ∧ legB x.c x.xs = (lgR x.c x.xs i.k && (lgRL x.c x.xs (nS x.c - (i.k + 1)) (i.k + 1) && decide ((x.xs.length : Int) > 0))) ∧ IsRow 3 1 (ints (kidsP x.c i.k)) i.r ∧ i.r.n = (kidsP x.c i.k).length ∧ i.j ≤ i.r.n, gh := some ⟨Nat, fun i => i.k⟩, mu := fun i => i.r.n - i.j, lv := fun i => [(1, .slice x.a x.n x.cap), (2, .pointer (some ⟨i.b, 0, none⟩)), (7, .int .i64 i.k), (8, .slice i.r.a i.r.n i.r.cap), (9, .int .i64 (cntR x.xs ((kidsP x.c i.k).take i.j))), (10, .int .i64 i.j)], st := fun i => [F, .cells i.b (chS x.c x.w) 28, i.r.A] }
  | _ => none
def rLgCut (x : LawX) (F : Atom) : Nat → Option Inv := fun
  | 7 => some { X := RlI, P := fun i => i.k < x.n ∧ x.xs[i.k]? = some i.s ∧ isS x.c i.s = true ∧ (decide (i.s < 1) || !isS x.c i.s || decide (kd x.c i.s.toNat > 3) || decide (i.prev ≥ i.s)) = false ∧ rl1 x i.k i.prev, gh := some ⟨Nat, fun i => i.k⟩, mu := fun _ => 0, lv := fun i => [(1, .slice x.a x.n x.cap), (2, .pointer (some ⟨i.b, 0, none⟩)), (5, .int .i64 i.k), (6, .int .i64 i.s)], st := fun i => [F, .cells i.b (chS x.c x.w) 28] }
  | 13 => some { X := RlI, P := fun i => i.k < nS x.c ∧ (decide ((i.k : Int) > 0) && !memB x.xs i.k) = false ∧ legB x.c x.xs = (lgR x.c x.xs i.k && (lgRL x.c x.xs (nS x.c - (i.k + 1)) (i.k + 1) && decide ((x.xs.length : Int) > 0))), gh := some ⟨Nat, fun i => i.k⟩, mu := fun _ => 0, lv := fun i => [(1, .slice x.a x.n x.cap), (2, .pointer (some ⟨i.b, 0, none⟩)), (7, .int .i64 i.k)], st := fun i => [F, .cells i.b (chS x.c x.w) 28] }
  | _ => none
def rLgOv (_x : LawX) (_F : Atom) : List (Nat × Nat × OH) := [(0, 0, .n 1000), (4, 2, .qo (ixQ 1)), (4, 3, .q [.ex 0 (.int .i64)]), (5, 3, .q (at8 1)), (5, 5, .c rIsC [] []), (5, 10, .q [.atj 1]), (5, 12, .qo (ixQ 13)), (5, 14, .q [.ex 0 (.int .i64)]), (5, 24, .qo (ixQ 1)), (5, 25, .q [.ex 0 (.int .i64)]), (7, 1, .q [.atj 1]), (7, 3, .qo (ixQ 13)), (7, 5, .q [.ex 0 (.int .i64)]), (7, 9, .q [.atj 1]), (7, 11, .qo (ixQ 13)), (7, 13, .q [.ex 0 (.int .i64)]), (7, 15, .c amC [] []),
  (10, 1, .q [.atj 1]), (12, 5, .c amC [] []), (13, 0, .q (at8 1)), (13, 2, .c rKidsC [] [14020]), (18, 2, .qo (ixQ 1)), (18, 3, .q [.ex 2 (.int .i64)]), (18, 5, .c amC [] []), (20, 0, .q (at8 1)), (20, 2, .c rCoC [] []), (20, 9, .q [.atj 1]), (20, 11, .qo (ixQ 13)), (20, 13, .q [.ex 0 (.int .i64)])]
noncomputable def rlg_H (x : Con.X rLgC) (F : Atom) : Hints where
  op := hk ((rLgOv x F) ++ [(10, 2, OH.q [LH.atj (1 : Nat)])])
  inv := rLgInv x F
  cut := rLgCut x F
  ord := (fun _ => [])
open Go.Value (int slice string bool pointer agg tuple func) in
open Go.IntKind (i64) in
set_option maxRecDepth 100000 in
theorem rlg_vc (x : LawX) (F : Atom) (hc : Con.cond rLgC x) (hr : Con.rdc rLgC x F) :
  ∀ (b : Nat),
 (∃ (x_1 : RlI),
 (x_1.k ≤ x.n ∧ rl1 x x_1.k x_1.prev) ∧ (slice x.a x.n x.cap = slice x.a x.n x.cap ∧ pointer (some ⟨b, 0, none⟩) = pointer (some ⟨x_1.b, 0, none⟩) ∧ int i64 (0 : Int) = int i64 (↑x_1.k : Int) ∧ True) ∧ Ent [(0, F), (1000, Atom.cells b (chS x.c x.w) 28)] [(0, F), (1, Atom.cells x_1.b (chS x.c x.w) 28)]) ∧
 ∀ (x_1 : RlI) (js : Nat → Value),
 x_1.k ≤ x.n ∧ rl1 x x_1.k x_1.prev →
 Br (decide ((↑x_1.k : Int) < (↑x.n : Int)))
 (QOpOk Try.prog (opIn Try.f24 4 2) (ixQ 1) ∧
 ∃ (x_2 : IxQX),
 [slice x.a x.n x.cap, int i64 (↑x_1.k : Int)] = [slice (some ⟨x_2.b, x_2.o, none⟩) x_2.len x_2.cap, int i64 x_2.n] ∧
 ((0 : Int) ≤ x_2.n ∧ x_2.n < (↑x_2.len : Int)) ∧
 ∃ (n : Int),
 Look F ⟨x_2.b, x_2.o + x_2.n.toNat * 1, none⟩ (int i64 n) ∧
 ∃ (n_1 : Nat),
 Br (decide (n < (1 : Int))) (Done rLgC x F (Ending.returned (bool false)) [(0, F), (1, Atom.cells x_1.b (chS x.c x.w) 28)])
 (Same ⟨x_1.b, 0, none⟩ x_1.b ∧
 Same ⟨x_1.b, 1, none⟩ x_1.b ∧
 Same ⟨x_1.b, 2, none⟩ x_1.b ∧
 Same ⟨x_1.b, 3, none⟩ x_1.b ∧
 Same ⟨x_1.b, 4, none⟩ x_1.b ∧
 Same ⟨x_1.b, 5, none⟩ x_1.b ∧
 Same ⟨x_1.b, 6, none⟩ x_1.b ∧
 Same ⟨x_1.b, 7, none⟩ x_1.b ∧
 FnOk Try.prog 52 rIsC ∧
 true = true ∧
 ∃ (x_3 : RfX),
 [agg { toList := (chS x.c x.w) }, int i64 n] = [agg { toList := (chS x_3.c x_3.w) }, int i64 x_3.a] ∧
 ([] : List Atom) = [] ∧
 True ∧
 ChIn (Atom.pred (rest [(0, F), (1, Atom.cells x_1.b (chS x.c x.w) 28)] [])) x_3.w.v x_3.c ∧
 ∀ (y : Unit),
 True →
 Br (!isS x_3.c x_3.a) (Done rLgC x F (Ending.returned (bool false)) [(0, F), (1, Atom.cells x_1.b (chS x.c x.w) 28)])
 (Same ⟨x_1.b, 3, none⟩ x_1.b ∧
 QOpOk Try.prog (opIn Try.f24 5 12) (ixQ 13) ∧
 ∃ (x_4 : IxQX),
 [slice x.w.vs.a x.w.vs.n x.w.vs.cap, int i64 n] = [slice (some ⟨x_4.b, x_4.o, none⟩) x_4.len x_4.cap, int i64 x_4.n] ∧
 ((0 : Int) ≤ x_4.n ∧ x_4.n < (↑x_4.len : Int)) ∧
 ∃ (n_2 : Int),
 Look F ⟨x_4.b, x_4.o + x_4.n.toNat * 13 + 1, none⟩ (int i64 n_2) ∧
 Br (decide (n_2 > (3 : Int))) (Done rLgC x F (Ending.returned (bool false)) [(0, F), (1, Atom.cells x_1.b (chS x.c x.w) 28)])
 (Br (decide ((↑x_1.k : Int) > (0 : Int)))
 (((-9223372036854775808 : Int) ≤ (↑x_1.k : Int) - (1 : Int) ∧ (↑x_1.k : Int) - (1 : Int) ≤ (9223372036854775807 : Int)) ∧
 QOpOk Try.prog (opIn Try.f24 5 24) (ixQ 1) ∧
 ∃ (x_5 : IxQX),
 [slice x.a x.n x.cap, int i64 ((↑x_1.k : Int) - (1 : Int))] = [slice (some ⟨x_5.b, x_5.o, none⟩) x_5.len x_5.cap, int i64 x_5.n] ∧
 ((0 : Int) ≤ x_5.n ∧ x_5.n < (↑x_5.len : Int)) ∧
 ∃ (n_3 : Int),
 Look F ⟨x_5.b, x_5.o + x_5.n.toNat * 1, none⟩ (int i64 n_3) ∧
 Br (decide (n_3 ≥ n)) (Done rLgC x F (Ending.returned (bool false)) [(0, F), (1, Atom.cells x_1.b (chS x.c x.w) 28)])
 (∃ (x_6 : RlI),
 ((x_6.k < x.n ∧ x.xs[x_6.k]? = some x_6.s ∧ isS x.c x_6.s = true ∧ (decide (x_6.s < (1 : Int)) || !isS x.c x_6.s || decide (kd x.c x_6.s.toNat > (3 : Int)) || decide (x_6.prev ≥ x_6.s)) = false ∧ rl1 x x_6.k x_6.prev) ∧ x_6.k = n_1) ∧
 (slice x.a x.n x.cap = slice x.a x.n x.cap ∧ pointer (some ⟨x_1.b, 0, none⟩) = pointer (some ⟨x_6.b, 0, none⟩) ∧ int i64 (↑x_1.k : Int) = int i64 (↑x_6.k : Int) ∧ int i64 n = int i64 x_6.s ∧ True) ∧
 Ent [(0, F), (1, Atom.cells x_1.b (chS x.c x.w) 28)] [(0, F), (1, Atom.cells x_6.b (chS x.c x.w) 28)]))
 (∃ (x_5 : RlI),
 ((x_5.k < x.n ∧ x.xs[x_5.k]? = some x_5.s ∧ isS x.c x_5.s = true ∧ (decide (x_5.s < (1 : Int)) || !isS x.c x_5.s || decide (kd x.c x_5.s.toNat > (3 : Int)) || decide (x_5.prev ≥ x_5.s)) = false ∧ rl1 x x_5.k x_5.prev) ∧ x_5.k = n_1) ∧
 (slice x.a x.n x.cap = slice x.a x.n x.cap ∧ pointer (some ⟨x_1.b, 0, none⟩) = pointer (some ⟨x_5.b, 0, none⟩) ∧ int i64 (↑x_1.k : Int) = int i64 (↑x_5.k : Int) ∧ int i64 n = int i64 x_5.s ∧ True) ∧
 Ent [(0, F), (1, Atom.cells x_1.b (chS x.c x.w) 28)] [(0, F), (1, Atom.cells x_5.b (chS x.c x.w) 28)])))) ∧
 ∀ (x_3 : RlI) (js : Nat → Value),
 (x_3.k < x.n ∧ x.xs[x_3.k]? = some x_3.s ∧ isS x.c x_3.s = true ∧ (decide (x_3.s < (1 : Int)) || !isS x.c x_3.s || decide (kd x.c x_3.s.toNat > (3 : Int)) || decide (x_3.prev ≥ x_3.s)) = false ∧ rl1 x x_3.k x_3.prev) ∧ x_3.k = n_1 →
 Same ⟨x_3.b, 3, none⟩ x_3.b ∧
 QOpOk Try.prog (opIn Try.f24 7 3) (ixQ 13) ∧
 ∃ (x_4 : IxQX),
 [slice x.w.vs.a x.w.vs.n x.w.vs.cap, int i64 x_3.s] = [slice (some ⟨x_4.b, x_4.o, none⟩) x_4.len x_4.cap, int i64 x_4.n] ∧
 ((0 : Int) ≤ x_4.n ∧ x_4.n < (↑x_4.len : Int)) ∧
 ∃ (n : Int),
 Look F ⟨x_4.b, x_4.o + x_4.n.toNat * 13 + 2, none⟩ (int i64 n) ∧
 Br (n != (0 : Int))
 (Same ⟨x_3.b, 3, none⟩ x_3.b ∧
 QOpOk Try.prog (opIn Try.f24 7 11) (ixQ 13) ∧
 ∃ (x_5 : IxQX),
 [slice x.w.vs.a x.w.vs.n x.w.vs.cap, int i64 x_3.s] = [slice (some ⟨x_5.b, x_5.o, none⟩) x_5.len x_5.cap, int i64 x_5.n] ∧
 ((0 : Int) ≤ x_5.n ∧ x_5.n < (↑x_5.len : Int)) ∧
 ∃ (n : Int),
 Look F ⟨x_5.b, x_5.o + x_5.n.toNat * 13 + 2, none⟩ (int i64 n) ∧
 FnOk Try.prog 32 amC ∧
 true = true ∧
 ∃ (x_6 : InX),
 [int i64 n, slice x.a x.n x.cap] = [int i64 x_6.v, slice x_6.a x_6.n x_6.cap] ∧
 ([] : List Atom) = [] ∧
 (IsSrc 1 (ints x_6.xs) x_6.a x_6.n ∧ x_6.n * 8 ≤ 140737488351232) ∧
 Srcd (Atom.pred (rest [(0, F), (1, Atom.cells x_3.b (chS x.c x.w) 28)] [])) x_6.a (ints x_6.xs) ∧
 ∀ (y : Unit),
 True →
 Br (!memB x_6.xs x_6.v) (Done rLgC x F (Ending.returned (bool false)) [(0, F), (1, Atom.cells x_3.b (chS x.c x.w) 28)])
 (((-9223372036854775808 : Int) ≤ (↑x_3.k : Int) + (1 : Int) ∧ (↑x_3.k : Int) + (1 : Int) ≤ (9223372036854775807 : Int)) ∧
 ∃ (y : RlI),
 (y.k ≤ x.n ∧ rl1 x y.k y.prev) ∧
 (slice x.a x.n x.cap = slice x.a x.n x.cap ∧ pointer (some ⟨x_3.b, 0, none⟩) = pointer (some ⟨y.b, 0, none⟩) ∧ int i64 ((↑x_3.k : Int) + (1 : Int)) = int i64 (↑y.k : Int) ∧ True) ∧
 Ent [(0, F), (1, Atom.cells x_3.b (chS x.c x.w) 28)] [(0, F), (1, Atom.cells y.b (chS x.c x.w) 28)] ∧ x.n - y.k < x.n - x_1.k))
 (((-9223372036854775808 : Int) ≤ (↑x_3.k : Int) + (1 : Int) ∧ (↑x_3.k : Int) + (1 : Int) ≤ (9223372036854775807 : Int)) ∧
 ∃ (y : RlI),
 (y.k ≤ x.n ∧ rl1 x y.k y.prev) ∧
 (slice x.a x.n x.cap = slice x.a x.n x.cap ∧ pointer (some ⟨x_3.b, 0, none⟩) = pointer (some ⟨y.b, 0, none⟩) ∧ int i64 ((↑x_3.k : Int) + (1 : Int)) = int i64 (↑y.k : Int) ∧ True) ∧
 Ent [(0, F), (1, Atom.cells x_3.b (chS x.c x.w) 28)] [(0, F), (1, Atom.cells y.b (chS x.c x.w) 28)] ∧ x.n - y.k < x.n - x_1.k))
 ((∃ (x_2 : RlI),
 (x_2.k ≤ nS x.c ∧ legB x.c x.xs = (lgRL x.c x.xs (nS x.c - x_2.k) x_2.k && decide ((↑x.xs.length : Int) > (0 : Int)))) ∧
 (slice x.a x.n x.cap = slice x.a x.n x.cap ∧ pointer (some ⟨x_1.b, 0, none⟩) = pointer (some ⟨x_2.b, 0, none⟩) ∧ int i64 (0 : Int) = int i64 (↑x_2.k : Int) ∧ True) ∧ Ent [(0, F), (1, Atom.cells x_1.b (chS x.c x.w) 28)] [(0, F), (1, Atom.cells x_2.b (chS x.c x.w) 28)]) ∧
 ∀ (x_2 : RlI) (js : Nat → Value),
 x_2.k ≤ nS x.c ∧ legB x.c x.xs = (lgRL x.c x.xs (nS x.c - x_2.k) x_2.k && decide ((↑x.xs.length : Int) > (0 : Int))) →
 Same ⟨x_2.b, 3, none⟩ x_2.b ∧
 Br (decide ((↑x_2.k : Int) < (↑x.w.vs.n : Int)))
 (∃ (n : Nat),
 Br (decide ((↑x_2.k : Int) > (0 : Int)))
 (FnOk Try.prog 32 amC ∧
 true = true ∧
 ∃ (x_3 : InX),
 [int i64 (↑x_2.k : Int), slice x.a x.n x.cap] = [int i64 x_3.v, slice x_3.a x_3.n x_3.cap] ∧
 ([] : List Atom) = [] ∧
 (IsSrc 1 (ints x_3.xs) x_3.a x_3.n ∧ x_3.n * 8 ≤ 140737488351232) ∧
 Srcd (Atom.pred (rest [(0, F), (1, Atom.cells x_2.b (chS x.c x.w) 28)] [])) x_3.a (ints x_3.xs) ∧
 ∀ (y : Unit),
 True →
 Br (!memB x_3.xs x_3.v)
 (((-9223372036854775808 : Int) ≤ (↑x_2.k : Int) + (1 : Int) ∧ (↑x_2.k : Int) + (1 : Int) ≤ (9223372036854775807 : Int)) ∧
 ∃ (y : RlI),
 (y.k ≤ nS x.c ∧ legB x.c x.xs = (lgRL x.c x.xs (nS x.c - y.k) y.k && decide ((↑x.xs.length : Int) > (0 : Int)))) ∧
 (slice x.a x.n x.cap = slice x.a x.n x.cap ∧ pointer (some ⟨x_2.b, 0, none⟩) = pointer (some ⟨y.b, 0, none⟩) ∧ int i64 ((↑x_2.k : Int) + (1 : Int)) = int i64 (↑y.k : Int) ∧ True) ∧
 Ent [(0, F), (1, Atom.cells x_2.b (chS x.c x.w) 28)] [(0, F), (1, Atom.cells y.b (chS x.c x.w) 28)] ∧ nS x.c - y.k < nS x.c - x_2.k)
 (∃ (x_4 : RlI),
 ((x_4.k < nS x.c ∧ (decide ((↑x_4.k : Int) > (0 : Int)) && !memB x.xs (↑x_4.k : Int)) = false ∧ legB x.c x.xs = (lgR x.c x.xs x_4.k && (lgRL x.c x.xs (nS x.c - (x_4.k + 1)) (x_4.k + 1) && decide ((↑x.xs.length : Int) > (0 : Int))))) ∧ x_4.k = n) ∧
 (slice x.a x.n x.cap = slice x.a x.n x.cap ∧ pointer (some ⟨x_2.b, 0, none⟩) = pointer (some ⟨x_4.b, 0, none⟩) ∧ int i64 (↑x_2.k : Int) = int i64 (↑x_4.k : Int) ∧ True) ∧
 Ent [(0, F), (1, Atom.cells x_2.b (chS x.c x.w) 28)] [(0, F), (1, Atom.cells x_4.b (chS x.c x.w) 28)]))
 (∃ (x_3 : RlI),
 ((x_3.k < nS x.c ∧ (decide ((↑x_3.k : Int) > (0 : Int)) && !memB x.xs (↑x_3.k : Int)) = false ∧ legB x.c x.xs = (lgR x.c x.xs x_3.k && (lgRL x.c x.xs (nS x.c - (x_3.k + 1)) (x_3.k + 1) && decide ((↑x.xs.length : Int) > (0 : Int))))) ∧ x_3.k = n) ∧
 (slice x.a x.n x.cap = slice x.a x.n x.cap ∧ pointer (some ⟨x_2.b, 0, none⟩) = pointer (some ⟨x_3.b, 0, none⟩) ∧ int i64 (↑x_2.k : Int) = int i64 (↑x_3.k : Int) ∧ True) ∧ Ent [(0, F), (1, Atom.cells x_2.b (chS x.c x.w) 28)] [(0, F), (1, Atom.cells x_3.b (chS x.c x.w) 28)]) ∧
 ∀ (x_3 : RlI) (js : Nat → Value),
 (x_3.k < nS x.c ∧ (decide ((↑x_3.k : Int) > (0 : Int)) && !memB x.xs (↑x_3.k : Int)) = false ∧ legB x.c x.xs = (lgR x.c x.xs x_3.k && (lgRL x.c x.xs (nS x.c - (x_3.k + 1)) (x_3.k + 1) && decide ((↑x.xs.length : Int) > (0 : Int))))) ∧ x_3.k = n →
 Same ⟨x_3.b, 0, none⟩ x_3.b ∧
 Same ⟨x_3.b, 1, none⟩ x_3.b ∧
 Same ⟨x_3.b, 2, none⟩ x_3.b ∧
 Same ⟨x_3.b, 3, none⟩ x_3.b ∧
 Same ⟨x_3.b, 4, none⟩ x_3.b ∧
 Same ⟨x_3.b, 5, none⟩ x_3.b ∧
 Same ⟨x_3.b, 6, none⟩ x_3.b ∧
 Same ⟨x_3.b, 7, none⟩ x_3.b ∧
 FnOk Try.prog 31 rKidsC ∧
 true = true ∧
 ∃ (x_4 : RfX),
 [agg { toList := (chS x.c x.w) }, int i64 (↑x_3.k : Int)] = [agg { toList := (chS x_4.c x_4.w) }, int i64 x_4.a] ∧
 ([] : List Atom) = [] ∧
 nS x_4.c ≤ 1000 ∧
 ChIn (Atom.pred (rest [(0, F), (1, Atom.cells x_3.b (chS x.c x.w) 28)] [])) x_4.w.v x_4.c ∧
 ∀ (y : Row),
 IsRow 3 1 (ints (kidV x_4.c x_4.a)) y ∧ y.n = (kidV x_4.c x_4.a).length →
 ∃ (n : Nat),
 (∃ (x_5 : RlI),
 ((x_5.k < nS x.c ∧ (decide ((↑x_5.k : Int) > (0 : Int)) && !memB x.xs (↑x_5.k : Int)) = false ∧ legB x.c x.xs = (lgR x.c x.xs x_5.k && (lgRL x.c x.xs (nS x.c - (x_5.k + 1)) (x_5.k + 1) && decide ((↑x.xs.length : Int) > (0 : Int)))) ∧ IsRow 3 1 (ints (kidsP x.c x_5.k)) x_5.r ∧ x_5.r.n = (kidsP x.c x_5.k).length ∧ x_5.j ≤ x_5.r.n) ∧ x_5.k = n) ∧
 (slice x.a x.n x.cap = slice x.a x.n x.cap ∧ pointer (some ⟨x_3.b, 0, none⟩) = pointer (some ⟨x_5.b, 0, none⟩) ∧ int i64 (↑x_3.k : Int) = int i64 (↑x_5.k : Int) ∧ slice y.a y.n y.cap = slice x_5.r.a x_5.r.n x_5.r.cap ∧ int i64 (0 : Int) = int i64 (cntR x.xs (List.take x_5.j (kidsP x.c x_5.k))) ∧ int i64 (0 : Int) = int i64 (↑x_5.j : Int) ∧ True) ∧
 Ent [(0, F), (1, Atom.cells x_3.b (chS x.c x.w) 28), (14020, y.A)] [(0, F), (1, Atom.cells x_5.b (chS x.c x.w) 28), (2, x_5.r.A)]) ∧
 ∀ (x_5 : RlI) (js : Nat → Value),
 (x_5.k < nS x.c ∧ (decide ((↑x_5.k : Int) > (0 : Int)) && !memB x.xs (↑x_5.k : Int)) = false ∧ legB x.c x.xs = (lgR x.c x.xs x_5.k && (lgRL x.c x.xs (nS x.c - (x_5.k + 1)) (x_5.k + 1) && decide ((↑x.xs.length : Int) > (0 : Int)))) ∧ IsRow 3 1 (ints (kidsP x.c x_5.k)) x_5.r ∧ x_5.r.n = (kidsP x.c x_5.k).length ∧ x_5.j ≤ x_5.r.n) ∧ x_5.k = n →
 Br (decide ((↑x_5.j : Int) < (↑x_5.r.n : Int)))
 (QOpOk Try.prog (opIn Try.f24 18 2) (ixQ 1) ∧
 ∃ (x_6 : IxQX),
 [slice x_5.r.a x_5.r.n x_5.r.cap, int i64 (↑x_5.j : Int)] = [slice (some ⟨x_6.b, x_6.o, none⟩) x_6.len x_6.cap, int i64 x_6.n] ∧
 ((0 : Int) ≤ x_6.n ∧ x_6.n < (↑x_6.len : Int)) ∧
 ∃ (n_1 : Int),
 Look x_5.r.A ⟨x_6.b, x_6.o + x_6.n.toNat * 1, none⟩ (int i64 n_1) ∧
 FnOk Try.prog 32 amC ∧
 true = true ∧
 ∃ (x_7 : InX),
 [int i64 n_1, slice x.a x.n x.cap] = [int i64 x_7.v, slice x_7.a x_7.n x_7.cap] ∧
 ([] : List Atom) = [] ∧
 (IsSrc 1 (ints x_7.xs) x_7.a x_7.n ∧ x_7.n * 8 ≤ 140737488351232) ∧
 Srcd (Atom.pred (rest [(0, F), (1, Atom.cells x_5.b (chS x.c x.w) 28), (2, x_5.r.A)] [])) x_7.a (ints x_7.xs) ∧
 ∀ (y : Unit),
 True →
 Br (memB x_7.xs x_7.v)
 (((-9223372036854775808 : Int) ≤ cntR x.xs (List.take x_5.j (kidsP x.c x_5.k)) + (1 : Int) ∧ cntR x.xs (List.take x_5.j (kidsP x.c x_5.k)) + (1 : Int) ≤ (9223372036854775807 : Int)) ∧
 ((-9223372036854775808 : Int) ≤ (↑x_5.j : Int) + (1 : Int) ∧ (↑x_5.j : Int) + (1 : Int) ≤ (9223372036854775807 : Int)) ∧
 ∃ (y : RlI),
 ((y.k < nS x.c ∧ (decide ((↑y.k : Int) > (0 : Int)) && !memB x.xs (↑y.k : Int)) = false ∧ legB x.c x.xs = (lgR x.c x.xs y.k && (lgRL x.c x.xs (nS x.c - (y.k + 1)) (y.k + 1) && decide ((↑x.xs.length : Int) > (0 : Int)))) ∧ IsRow 3 1 (ints (kidsP x.c y.k)) y.r ∧ y.r.n = (kidsP x.c y.k).length ∧ y.j ≤ y.r.n) ∧ y.k = n) ∧
 (slice x.a x.n x.cap = slice x.a x.n x.cap ∧ pointer (some ⟨x_5.b, 0, none⟩) = pointer (some ⟨y.b, 0, none⟩) ∧ int i64 (↑x_5.k : Int) = int i64 (↑y.k : Int) ∧ slice x_5.r.a x_5.r.n x_5.r.cap = slice y.r.a y.r.n y.r.cap ∧ int i64 (cntR x.xs (List.take x_5.j (kidsP x.c x_5.k)) + (1 : Int)) = int i64 (cntR x.xs (List.take y.j (kidsP x.c y.k))) ∧ int i64 ((↑x_5.j : Int) + (1 : Int)) = int i64 (↑y.j : Int) ∧ True) ∧
 Ent [(0, F), (1, Atom.cells x_5.b (chS x.c x.w) 28), (2, x_5.r.A)] [(0, F), (1, Atom.cells y.b (chS x.c x.w) 28), (2, y.r.A)] ∧ y.r.n - y.j < x_5.r.n - x_5.j)
 (((-9223372036854775808 : Int) ≤ (↑x_5.j : Int) + (1 : Int) ∧ (↑x_5.j : Int) + (1 : Int) ≤ (9223372036854775807 : Int)) ∧
 ∃ (y : RlI),
 ((y.k < nS x.c ∧ (decide ((↑y.k : Int) > (0 : Int)) && !memB x.xs (↑y.k : Int)) = false ∧ legB x.c x.xs = (lgR x.c x.xs y.k && (lgRL x.c x.xs (nS x.c - (y.k + 1)) (y.k + 1) && decide ((↑x.xs.length : Int) > (0 : Int)))) ∧ IsRow 3 1 (ints (kidsP x.c y.k)) y.r ∧ y.r.n = (kidsP x.c y.k).length ∧ y.j ≤ y.r.n) ∧ y.k = n) ∧
 (slice x.a x.n x.cap = slice x.a x.n x.cap ∧ pointer (some ⟨x_5.b, 0, none⟩) = pointer (some ⟨y.b, 0, none⟩) ∧ int i64 (↑x_5.k : Int) = int i64 (↑y.k : Int) ∧ slice x_5.r.a x_5.r.n x_5.r.cap = slice y.r.a y.r.n y.r.cap ∧ int i64 (cntR x.xs (List.take x_5.j (kidsP x.c x_5.k))) = int i64 (cntR x.xs (List.take y.j (kidsP x.c y.k))) ∧ int i64 ((↑x_5.j : Int) + (1 : Int)) = int i64 (↑y.j : Int) ∧ True) ∧
 Ent [(0, F), (1, Atom.cells x_5.b (chS x.c x.w) 28), (2, x_5.r.A)] [(0, F), (1, Atom.cells y.b (chS x.c x.w) 28), (2, y.r.A)] ∧ y.r.n - y.j < x_5.r.n - x_5.j))
 (Same ⟨x_5.b, 0, none⟩ x_5.b ∧
 Same ⟨x_5.b, 1, none⟩ x_5.b ∧
 Same ⟨x_5.b, 2, none⟩ x_5.b ∧
 Same ⟨x_5.b, 3, none⟩ x_5.b ∧
 Same ⟨x_5.b, 4, none⟩ x_5.b ∧
 Same ⟨x_5.b, 5, none⟩ x_5.b ∧
 Same ⟨x_5.b, 6, none⟩ x_5.b ∧
 Same ⟨x_5.b, 7, none⟩ x_5.b ∧
 FnOk Try.prog 20 rCoC ∧
 true = true ∧
 ∃ (x_6 : RfX),
 [agg { toList := (chS x.c x.w) }, int i64 (↑x_5.k : Int)] = [agg { toList := (chS x_6.c x_6.w) }, int i64 x_6.a] ∧
 ([] : List Atom) = [] ∧
 nS x_6.c ≤ 1000 ∧
 ChIn (Atom.pred (rest [(0, F), (1, Atom.cells x_5.b (chS x.c x.w) 28), (2, x_5.r.A)] [])) x_6.w.v x_6.c ∧
 ∀ (y : Unit),
 True →
 Br (coB x_6.c x_6.a)
 (Br (cntR x.xs (List.take x_5.j (kidsP x.c x_5.k)) != (1 : Int)) (Done rLgC x F (Ending.returned (bool false)) [(0, F), (1, Atom.cells x_5.b (chS x.c x.w) 28), (2, x_5.r.A)])
 (Same ⟨x_5.b, 3, none⟩ x_5.b ∧
 QOpOk Try.prog (opIn Try.f24 20 11) (ixQ 13) ∧
 ∃ (x_7 : IxQX),
 [slice x.w.vs.a x.w.vs.n x.w.vs.cap, int i64 (↑x_5.k : Int)] = [slice (some ⟨x_7.b, x_7.o, none⟩) x_7.len x_7.cap, int i64 x_7.n] ∧
 ((0 : Int) ≤ x_7.n ∧ x_7.n < (↑x_7.len : Int)) ∧
 ∃ (n : Int),
 Look F ⟨x_7.b, x_7.o + x_7.n.toNat * 13 + 1, none⟩ (int i64 n) ∧
 Br (n == (2 : Int))
 (Br (decide (cntR x.xs (List.take x_5.j (kidsP x.c x_5.k)) < (↑x_5.r.n : Int))) (Done rLgC x F (Ending.returned (bool false)) [(0, F), (1, Atom.cells x_5.b (chS x.c x.w) 28), (2, x_5.r.A)])
 (((-9223372036854775808 : Int) ≤ (↑x_5.k : Int) + (1 : Int) ∧ (↑x_5.k : Int) + (1 : Int) ≤ (9223372036854775807 : Int)) ∧
 ∃ (y : RlI),
 (y.k ≤ nS x.c ∧ legB x.c x.xs = (lgRL x.c x.xs (nS x.c - y.k) y.k && decide ((↑x.xs.length : Int) > (0 : Int)))) ∧
 (slice x.a x.n x.cap = slice x.a x.n x.cap ∧ pointer (some ⟨x_5.b, 0, none⟩) = pointer (some ⟨y.b, 0, none⟩) ∧ int i64 ((↑x_5.k : Int) + (1 : Int)) = int i64 (↑y.k : Int) ∧ True) ∧
 Ent [(0, F), (1, Atom.cells x_5.b (chS x.c x.w) 28), (2, x_5.r.A)] [(0, F), (1, Atom.cells y.b (chS x.c x.w) 28)] ∧ nS x.c - y.k < nS x.c - x_2.k))
 (((-9223372036854775808 : Int) ≤ (↑x_5.k : Int) + (1 : Int) ∧ (↑x_5.k : Int) + (1 : Int) ≤ (9223372036854775807 : Int)) ∧
 ∃ (y : RlI),
 (y.k ≤ nS x.c ∧ legB x.c x.xs = (lgRL x.c x.xs (nS x.c - y.k) y.k && decide ((↑x.xs.length : Int) > (0 : Int)))) ∧
 (slice x.a x.n x.cap = slice x.a x.n x.cap ∧ pointer (some ⟨x_5.b, 0, none⟩) = pointer (some ⟨y.b, 0, none⟩) ∧ int i64 ((↑x_5.k : Int) + (1 : Int)) = int i64 (↑y.k : Int) ∧ True) ∧
 Ent [(0, F), (1, Atom.cells x_5.b (chS x.c x.w) 28), (2, x_5.r.A)] [(0, F), (1, Atom.cells y.b (chS x.c x.w) 28)] ∧ nS x.c - y.k < nS x.c - x_2.k)))
 (Same ⟨x_5.b, 3, none⟩ x_5.b ∧
 QOpOk Try.prog (opIn Try.f24 20 11) (ixQ 13) ∧
 ∃ (x_7 : IxQX),
 [slice x.w.vs.a x.w.vs.n x.w.vs.cap, int i64 (↑x_5.k : Int)] = [slice (some ⟨x_7.b, x_7.o, none⟩) x_7.len x_7.cap, int i64 x_7.n] ∧
 ((0 : Int) ≤ x_7.n ∧ x_7.n < (↑x_7.len : Int)) ∧
 ∃ (n : Int),
 Look F ⟨x_7.b, x_7.o + x_7.n.toNat * 13 + 1, none⟩ (int i64 n) ∧
 Br (n == (2 : Int))
 (Br (decide (cntR x.xs (List.take x_5.j (kidsP x.c x_5.k)) < (↑x_5.r.n : Int))) (Done rLgC x F (Ending.returned (bool false)) [(0, F), (1, Atom.cells x_5.b (chS x.c x.w) 28), (2, x_5.r.A)])
 (((-9223372036854775808 : Int) ≤ (↑x_5.k : Int) + (1 : Int) ∧ (↑x_5.k : Int) + (1 : Int) ≤ (9223372036854775807 : Int)) ∧
 ∃ (y : RlI),
 (y.k ≤ nS x.c ∧ legB x.c x.xs = (lgRL x.c x.xs (nS x.c - y.k) y.k && decide ((↑x.xs.length : Int) > (0 : Int)))) ∧
 (slice x.a x.n x.cap = slice x.a x.n x.cap ∧ pointer (some ⟨x_5.b, 0, none⟩) = pointer (some ⟨y.b, 0, none⟩) ∧ int i64 ((↑x_5.k : Int) + (1 : Int)) = int i64 (↑y.k : Int) ∧ True) ∧
 Ent [(0, F), (1, Atom.cells x_5.b (chS x.c x.w) 28), (2, x_5.r.A)] [(0, F), (1, Atom.cells y.b (chS x.c x.w) 28)] ∧ nS x.c - y.k < nS x.c - x_2.k))
 (((-9223372036854775808 : Int) ≤ (↑x_5.k : Int) + (1 : Int) ∧ (↑x_5.k : Int) + (1 : Int) ≤ (9223372036854775807 : Int)) ∧
 ∃ (y : RlI),
 (y.k ≤ nS x.c ∧ legB x.c x.xs = (lgRL x.c x.xs (nS x.c - y.k) y.k && decide ((↑x.xs.length : Int) > (0 : Int)))) ∧
 (slice x.a x.n x.cap = slice x.a x.n x.cap ∧ pointer (some ⟨x_5.b, 0, none⟩) = pointer (some ⟨y.b, 0, none⟩) ∧ int i64 ((↑x_5.k : Int) + (1 : Int)) = int i64 (↑y.k : Int) ∧ True) ∧
 Ent [(0, F), (1, Atom.cells x_5.b (chS x.c x.w) 28), (2, x_5.r.A)] [(0, F), (1, Atom.cells y.b (chS x.c x.w) 28)] ∧ nS x.c - y.k < nS x.c - x_2.k))))
 (Done rLgC x F (Ending.returned (bool (decide ((↑x.n : Int) > (0 : Int))))) [(0, F), (1, Atom.cells x_2.b (chS x.c x.w) 28)])) := by
  obtain ⟨c, w, a, n, cap, xs⟩ := x
  obtain ⟨hp, hsrc, hle⟩ := hc
  obtain ⟨hr, hx⟩ := hr
  dsimp only at hp hsrc hle hx
  replace hr : ChIn F w.v c := hr
  have hlen : xs.length = n := by have := hsrc.len; rw [ints_length] at this; omega
  have hn2 := hp.n2
  have hn128 := hp.n128
  obtain ⟨b0, o0, ea, hst⟩ := hr.stsAt (by omega)
  have hn := hr.num.1
  have look : ∀ (b o i : Nat) (u : Int), a = some ⟨b, o, none⟩ → xs[i]? = some u → Look F ⟨b, o + (i : Int).toNat * 1, none⟩ (.int .i64 u) := by
    intro b o i u e hu
    subst e
    have : o + (i : Int).toNat * 1 = o + i := by omega
    rw [this]
    exact hx.look (ints_get hu)
  have href := legB_ref hp xs
  have bad : r1B c xs 0 xs = false → legB c xs = false := fun h => by rw [href, h]; rfl
  refine fun b1 => ⟨⟨⟨0, b1, 0, 0, nilRow, 0⟩, ⟨Nat.zero_le _, fun _ => rfl, fun u h => absurd h (Nat.lt_irrefl 0), rfl⟩, ⟨rfl, rfl, rfl, trivial⟩, Ent.pick [0, 1000] rfl rfl⟩, ?_⟩
  clear b1
  rintro ⟨k, b1, prev, s0, r0, j0⟩ js ⟨hk, hl⟩
  obtain ⟨l1, l2, l3⟩ := id hl
  dsimp only at hk l1 l2 l3 hl ⊢
  refine br_decide (fun hlt => ?_) (fun hge => ?_)
  · obtain ⟨s, hs⟩ : ∃ u, xs[k]? = some u := ⟨_, List.getElem?_eq_getElem (by omega)⟩
    obtain ⟨b2, o2, e2⟩ := hsrc.some (by omega)
    have l4 := l3
    rw [drop_g hs, r1B] at l4
    refine ⟨ixq_ok 1 rfl rfl rfl rfl, ⟨b2, o2, n, cap, k⟩, by rw [e2], by dsimp only; omega, s, look b2 o2 k s e2 hs, k, br_decide (fun q1 => ⟨(), trivial, retB ?_, Ent.pick [0] rfl rfl⟩) (fun q1 => ?_), ?_⟩
    · dsimp only
      rw [bad (by rw [l4, decide_eq_true q1]; rfl)]
    · iterate 8 refine ⟨⟨rfl, rfl⟩, ?_⟩
      refine ⟨ris_ok, rfl, ⟨c, w, s, 0⟩, rfl, rfl, trivial, hr.sub (sub_rest 0 (by simp) rfl), fun _ _ => br_intro (fun q2 => ⟨(), trivial, retB ?_, Ent.pick [0] rfl rfl⟩) (fun q2 => ?_)⟩
      · dsimp only at q2 ⊢
        rw [bad (by rw [l4, q2]; simp)]
      dsimp only at q2
      have hS : isS c s = true := by simpa using q2
      obtain ⟨i, rfl, hi⟩ := isS_spec hS
      obtain ⟨st, hsi⟩ := get_st hi
      obtain ⟨r, ⟨vk, ve, vx, vt, vd, vi, vp, rfl, -⟩, hL⟩ := hst i st hsi
      have ek : kd c (i : Int).toNat = st.kind := kd_get hsi
      rw [ek] at l4
      refine ⟨⟨rfl, rfl⟩, ixq_ok 13 rfl rfl rfl rfl, ⟨b0, o0, w.vs.n, w.vs.cap, i⟩, by dsimp only; rw [ea], by dsimp only; omega, st.kind, hL 1 _ rfl, br_decide (fun q3 => ⟨(), trivial, retB ?_, Ent.pick [0] rfl rfl⟩) (fun q3 => br_decide (fun q4 => ?_) (fun q4 => ?_))⟩
      · dsimp only
        rw [bad (by rw [l4, decide_eq_true q3]; simp)]
      · obtain ⟨u, hu⟩ : ∃ u, xs[k - 1]? = some u := ⟨_, List.getElem?_eq_getElem (by omega)⟩
        have hpu := l2 u (by omega) hu
        have ek1 : ((k : Int) - 1) = ((k - 1 : Nat) : Int) := by omega
        rw [ek1]
        refine ⟨by omega, ixq_ok 1 rfl rfl rfl rfl, ⟨b2, o2, n, cap, (k - 1 : Nat)⟩, by rw [e2], by dsimp only; omega, u, look b2 o2 (k - 1) u e2 hu, br_decide (fun q5 => ⟨(), trivial, retB ?_, Ent.pick [0] rfl rfl⟩) (fun q5 => ⟨⟨k, b1, prev, i, nilRow, 0⟩, ⟨⟨by dsimp only; omega, hs, hS, ?_, hl⟩, rfl⟩, ⟨rfl, rfl, rfl, rfl, trivial⟩, Ent.pick [0, 1] rfl rfl⟩)⟩
        · dsimp only
          rw [bad (by rw [l4, hpu, decide_eq_true q5]; simp)]
        · dsimp only
          rw [decide_eq_false q1, hS, ek, decide_eq_false q3, hpu, decide_eq_false q5]; rfl
      · have hk0 : k = 0 := by omega
        refine ⟨⟨k, b1, prev, i, nilRow, 0⟩, ⟨⟨by dsimp only; omega, hs, hS, ?_, hl⟩, rfl⟩, ⟨rfl, rfl, rfl, rfl, trivial⟩, Ent.pick [0, 1] rfl rfl⟩
        dsimp only
        rw [decide_eq_false q1, hS, ek, decide_eq_false q3, l1 hk0, decide_eq_false (by omega)]; rfl
    · clear l1 l2 l3 hl l4
      rintro ⟨k7, b7, prev7, s7, r7, j7⟩ js7 ⟨⟨g1, g2, g3, g4, hl⟩, hkk⟩
      obtain ⟨l1, l2, l3⟩ := hl
      dsimp only at g1 g2 g3 g4 l1 l2 l3 hkk ⊢
      subst hkk
      obtain ⟨i, rfl, hi⟩ := isS_spec g3
      obtain ⟨st, hsi⟩ := get_st hi
      obtain ⟨r, ⟨vk, ve, vx, vt, vd, vi, vp, rfl, -⟩, hL⟩ := hst i st hsi
      have ep : pr c (i : Int).toNat = st.parent := pr_get hsi
      rw [drop_g g2, r1B, g4, cond_false, ep] at l3
      have next : ∀ h : (st.parent != 0 && !memB xs st.parent) = false, rl1 ⟨c, w, a, n, cap, xs⟩ (k7 + 1) i := fun h => by
        rw [h, cond_false] at l3
        refine ⟨fun e => by omega, fun u _ hu => ?_, l3⟩
        rw [Nat.add_sub_cancel, g2] at hu
        cases hu; rfl
      refine ⟨⟨rfl, rfl⟩, ixq_ok 13 rfl rfl rfl rfl, ⟨b0, o0, w.vs.n, w.vs.cap, i⟩, by dsimp only; rw [ea], by dsimp only; omega, st.parent, hL 2 _ rfl, br_intro (fun q1 => ⟨⟨rfl, rfl⟩, ixq_ok 13 rfl rfl rfl rfl, ⟨b0, o0, w.vs.n, w.vs.cap, i⟩, by dsimp only; rw [ea], by dsimp only; omega, st.parent, hL 2 _ rfl, am_ok, rfl, ⟨a, n, cap, xs, st.parent⟩, rfl, rfl, ⟨hsrc, hle⟩, hx.sub (sub_rest 0 (by simp) rfl), fun _ _ => br_intro (fun q2 => ⟨(), trivial, retB ?_, Ent.pick [0] rfl rfl⟩) (fun q2 => ⟨by omega, ⟨k7 + 1, b7, i, 0, nilRow, 0⟩, ⟨by dsimp only; omega, next ?_⟩, ⟨rfl, rfl, rfl, trivial⟩, Ent.pick [0, 1] rfl rfl, by dsimp only; omega⟩)⟩) (fun q1 => ⟨by omega, ⟨k7 + 1, b7, i, 0, nilRow, 0⟩, ⟨by dsimp only; omega, next ?_⟩, ⟨rfl, rfl, rfl, trivial⟩, Ent.pick [0, 1] rfl rfl, by dsimp only; omega⟩)⟩
      · dsimp only at q2 ⊢
        rw [bad (by rw [l3, q1, q2]; rfl)]
      · dsimp only at q2
        rw [q1, q2]; rfl
      · rw [q1]; rfl
  · have hkn : k = n := by omega
    have h1 : r1B c xs 0 xs = true := by rw [l3, List.drop_eq_nil_of_le (by omega)]; rfl
    rw [h1, Bool.true_and] at href
    refine ⟨⟨⟨0, b1, 0, 0, nilRow, 0⟩, ⟨Nat.zero_le _, href⟩, ⟨rfl, rfl, rfl, trivial⟩, Ent.pick [0, 1] rfl rfl⟩, ?_⟩
    clear href h1 bad l1 l2 l3 hl hge hkn hk b1 k prev s0 r0 j0
    rintro ⟨k, b1, prev, s0, r0, j0⟩ js2 ⟨hk, hl⟩
    dsimp only at hk hl ⊢
    refine ⟨⟨rfl, rfl⟩, br_decide (fun hlt => ?_) (fun hge => ⟨(), trivial, retB ?_, Ent.pick [0] rfl rfl⟩)⟩
    · have hkS : k < nS c := by omega
      have step : lgRL c xs (nS c - k) k = (lgR c xs k && lgRL c xs (nS c - (k + 1)) (k + 1)) := by
        rw [show nS c - k = (nS c - (k + 1)) + 1 by omega]; rfl
      rw [step, Bool.and_assoc] at hl
      have next : lgR c xs k = true → legB c xs = (lgRL c xs (nS c - (k + 1)) (k + 1) && decide ((xs.length : Int) > 0)) := fun h => by rw [hl, h, Bool.true_and]
      have fail : lgR c xs k = false → legB c xs = false := fun h => by rw [hl, h]; rfl
      refine ⟨k, br_decide (fun q1 => ⟨am_ok, rfl, ⟨a, n, cap, xs, k⟩, rfl, rfl, ⟨hsrc, hle⟩, hx.sub (sub_rest 0 (by simp) rfl), fun _ _ => br_intro (fun q2 => ⟨by omega, ⟨k + 1, b1, 0, 0, nilRow, 0⟩, ⟨hkS, next ?_⟩, ⟨rfl, rfl, rfl, trivial⟩, Ent.pick [0, 1] rfl rfl, by dsimp only; omega⟩) (fun q2 => ⟨⟨k, b1, 0, 0, nilRow, 0⟩, ⟨⟨hkS, ?_, hl⟩, rfl⟩, ⟨rfl, rfl, rfl, trivial⟩, Ent.pick [0, 1] rfl rfl⟩)⟩) (fun q1 => ⟨⟨k, b1, 0, 0, nilRow, 0⟩, ⟨⟨hkS, ?_, hl⟩, rfl⟩, ⟨rfl, rfl, rfl, trivial⟩, Ent.pick [0, 1] rfl rfl⟩), ?_⟩
      · dsimp only at q2
        unfold lgR
        rw [decide_eq_true q1, q2]; rfl
      · dsimp only at q2 ⊢
        rw [q2, Bool.and_false]
      · dsimp only
        rw [decide_eq_false q1, Bool.false_and]
      clear b1
      rintro ⟨k3, b1, prev3, s3, r3, j3⟩ js3 ⟨⟨-, hact, -⟩, hkk⟩
      dsimp only at hact hkk ⊢
      subst hkk
      iterate 8 refine ⟨⟨rfl, rfl⟩, ?_⟩
      have ekv : kidV c (k3 : Int) = kidsP c k3 := by unfold kidV; rw [isS_nat hkS]; rfl
      refine ⟨rkids_ok, rfl, ⟨c, w, k3, 0⟩, rfl, rfl, by dsimp only; omega, hr.sub (sub_rest 0 (by simp) rfl), fun r hr2 => ⟨k3, ⟨⟨k3, b1, 0, 0, r, 0⟩, ⟨⟨hkS, hact, hl, by dsimp only at hr2 ⊢; rw [← ekv]; exact hr2.1, by dsimp only at hr2 ⊢; rw [← ekv]; exact hr2.2, Nat.zero_le _⟩, rfl⟩, ⟨rfl, rfl, rfl, rfl, rfl, rfl, trivial⟩, Ent.pick [0, 1, 14020] rfl rfl⟩, ?_⟩⟩
      rintro ⟨k4, b1, prev4, s4, r, j⟩ js4 ⟨⟨_, _, _, hrow, hrn, hj⟩, hkk⟩
      dsimp only at hrow hrn hj hkk ⊢
      subst hkk
      have hkl := kidsOf_len c 4 (nS c) k4
      have hkl : (kidsP c k4).length ≤ 128 := Nat.le_trans hkl hn128
      have hcb : 0 ≤ cntR xs ((kidsP c k4).take j) ∧ cntR xs ((kidsP c k4).take j) ≤ 128 := by
        unfold cntR
        have h1 := List.countP_le_length (p := fun k => memB xs k) (l := (kidsP c k4).take j)
        rw [List.length_take] at h1
        omega
      refine br_decide (fun hlt2 => ?_) (fun hge2 => ?_)
      · obtain ⟨u, hu⟩ : ∃ u, (kidsP c k4)[j]? = some u := ⟨_, List.getElem?_eq_getElem (by omega)⟩
        obtain ⟨b3, hb3⟩ := hrow.at0 (by omega)
        have hsd := hrow.srcd
        rw [hb3] at hsd
        have ej : 0 + (j : Int).toNat * 1 = 0 + j := by omega
        have cs : cntR xs ((kidsP c k4).take (j + 1)) = cntR xs ((kidsP c k4).take j) + bif memB xs u then 1 else 0 := by
          unfold cntR
          rw [take_g hu, List.countP_append, List.countP_singleton]
          cases memB xs u <;> simp
        refine ⟨ixq_ok 1 rfl rfl rfl rfl, ⟨b3, 0, r.n, r.cap, j⟩, by rw [hb3], by dsimp only; omega, u, by rw [ej]; exact hsd.look (ints_get hu), am_ok, rfl, ⟨a, n, cap, xs, u⟩, rfl, rfl, ⟨hsrc, hle⟩, hx.sub (sub_rest 0 (by simp) rfl), fun _ _ => br_intro (fun q => ?_) (fun q => ?_)⟩
        · dsimp only at q
          rw [q, cond_true] at cs
          exact ⟨by omega, by omega, ⟨k4, b1, 0, 0, r, j + 1⟩, ⟨⟨hkS, hact, hl, hrow, hrn, by dsimp only; omega⟩, rfl⟩, ⟨rfl, rfl, rfl, rfl, by rw [cs], rfl, trivial⟩, Ent.pick [0, 1, 2] rfl rfl, by dsimp only; omega⟩
        · dsimp only at q
          rw [q, cond_false, Int.add_zero] at cs
          exact ⟨by omega, ⟨k4, b1, 0, 0, r, j + 1⟩, ⟨⟨hkS, hact, hl, hrow, hrn, by dsimp only; omega⟩, rfl⟩, ⟨rfl, rfl, rfl, rfl, by rw [cs], rfl, trivial⟩, Ent.pick [0, 1, 2] rfl rfl, by dsimp only; omega⟩
      · have et : (kidsP c k4).take j = kidsP c k4 := List.take_of_length_le (by omega)
        rw [et]
        obtain ⟨st, hsi⟩ := get_st hkS
        obtain ⟨rr, ⟨vk, ve, vx, vt, vd, vi, vp, rfl, -⟩, hL⟩ := hst k4 st hsi
        have ek := kd_get hsi
        have un : lgR c xs k4 = bif coB c k4 && (cntR xs (kidsP c k4) != 1) then false else bif (st.kind == 2) && decide (cntR xs (kidsP c k4) < (kidsP c k4).length) then false else true := by
          unfold lgR
          rw [hact, ek]; rfl
        iterate 8 refine ⟨⟨rfl, rfl⟩, ?_⟩
        refine ⟨rco_ok, rfl, ⟨c, w, k4, 0⟩, rfl, rfl, by dsimp only; omega, hr.sub (sub_rest 0 (by simp) rfl), fun _ _ => br_intro (fun q1 => br_intro (fun q2 => ⟨(), trivial, retB ?b1, Ent.pick [0] rfl rfl⟩) (fun q2 => ⟨⟨rfl, rfl⟩, ixq_ok 13 rfl rfl rfl rfl, ⟨b0, o0, w.vs.n, w.vs.cap, k4⟩, by dsimp only; rw [ea], by dsimp only; omega, st.kind, hL 1 _ rfl, br_intro (fun q3 => br_decide (fun q4 => ⟨(), trivial, retB ?b2, Ent.pick [0] rfl rfl⟩) (fun q4 => ⟨by omega, ⟨k4 + 1, b1, 0, 0, nilRow, 0⟩, ⟨hkS, next ?n1⟩, ⟨rfl, rfl, rfl, trivial⟩, Ent.pick [0, 1] rfl rfl, by dsimp only; omega⟩)) (fun q3 => ⟨by omega, ⟨k4 + 1, b1, 0, 0, nilRow, 0⟩, ⟨hkS, next ?n2⟩, ⟨rfl, rfl, rfl, trivial⟩, Ent.pick [0, 1] rfl rfl, by dsimp only; omega⟩)⟩)) (fun q1 => ⟨⟨rfl, rfl⟩, ixq_ok 13 rfl rfl rfl rfl, ⟨b0, o0, w.vs.n, w.vs.cap, k4⟩, by dsimp only; rw [ea], by dsimp only; omega, st.kind, hL 1 _ rfl, br_intro (fun q3 => br_decide (fun q4 => ⟨(), trivial, retB ?b3, Ent.pick [0] rfl rfl⟩) (fun q4 => ⟨by omega, ⟨k4 + 1, b1, 0, 0, nilRow, 0⟩, ⟨hkS, next ?n3⟩, ⟨rfl, rfl, rfl, trivial⟩, Ent.pick [0, 1] rfl rfl, by dsimp only; omega⟩)) (fun q3 => ⟨by omega, ⟨k4 + 1, b1, 0, 0, nilRow, 0⟩, ⟨hkS, next ?n4⟩, ⟨rfl, rfl, rfl, trivial⟩, Ent.pick [0, 1] rfl rfl, by dsimp only; omega⟩)⟩)⟩
        case b1 => dsimp only at q1 ⊢; rw [fail (by rw [un, q1, q2]; rfl)]
        case b2 => dsimp only at q1 ⊢; rw [fail (by rw [un, q1, q2, q3, decide_eq_true (by omega)]; rfl)]
        case n1 => dsimp only at q1; rw [un, q1, q2, q3, decide_eq_false (by omega)]; rfl
        case n2 => dsimp only at q1; rw [un, q1, q2, q3]; rfl
        case b3 => dsimp only at q1 ⊢; rw [fail (by rw [un, q1, q3, decide_eq_true (by omega)]; rfl)]
        case n3 => dsimp only at q1; rw [un, q1, q3, decide_eq_false (by omega)]; rfl
        case n4 => dsimp only at q1; rw [un, q1, q3]; rfl
    · have hkn : nS c - k = 0 := by omega
      rw [hkn] at hl
      dsimp only
      rw [hl, hlen]; rfl
set_option maxRecDepth 100000 in
theorem rlg_ok : FnOk Try.prog 24 rLgC :=
  fnOk (N := 126) (by kernel_rfl) Try.func24 rfl (by kernel_rfl) (fun _ => Nat.le_of_ble_eq_true rfl) rlg_H [] fun x F hc hr => Eq.mpr (by kernel_rfl) (rlg_vc x F hc hr)
end Go.Proofs.Ytfmadkaiigiaiaa
