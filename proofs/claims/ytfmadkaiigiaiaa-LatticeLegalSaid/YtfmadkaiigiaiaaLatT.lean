/- The law LatticeLegal. -/
import Derived.Test.YtfmadkaiigiaiaaLatQ
import Derived.Test.YtfmadkaiigiaiaaLatS
set_option linter.all false
namespace Go.Proofs.Ytfmadkaiigiaiaa
open Go
set_option maxHeartbeats 1000000
structure LlI where
  k : Nat
  b : Nat
  G : Atom
  j : Nat
  s : Int
  r : Row
def llN (x : LawX) (s : Int) (j : Nat) : Int := ((x.xs.take j).countP fun k => inB x.c k s : Nat)
def llInv (x : LawX) (F : Atom) : Nat → Option Inv := fun
  | 0 => some { X := LlI, P := fun i => LatIn i.G i.b x.c ∧ LegalP x.c x.xs ∧ i.k ≤ x.n, mu := fun i => x.n - i.k, lv := fun i => [(1, .slice x.a x.n x.cap), (5, .pointer (some ⟨i.b, 0, none⟩)), (36, .slice x.a x.n x.cap), (37, .int .i64 x.n), (38, .int .i64 i.k)], st := fun i => [F, i.G] }
  | 2 => some { X := LlI, P := fun i => LatIn i.G i.b x.c ∧ LegalP x.c x.xs ∧ i.k < x.n ∧ x.xs[i.k]? = some i.s ∧ i.j ≤ x.n, gh := some ⟨Nat, fun i => i.k⟩, mu := fun i => x.n - i.j, lv := fun i => [(1, .slice x.a x.n x.cap), (5, .pointer (some ⟨i.b, 0, none⟩)), (8, .int .i64 i.s), (9, .int .i64 (llN x i.s i.j)), (36, .slice x.a x.n x.cap), (37, .int .i64 x.n), (38, .int .i64 i.k), (42, .slice x.a x.n x.cap), (43, .int .i64 x.n), (44, .int .i64 i.j)], st := fun i => [F, i.G] }
  | 4 => some { X := LlI, P := fun i => LatIn i.G i.b x.c ∧ LegalP x.c x.xs ∧ i.k < x.n ∧ x.xs[i.k]? = some i.s ∧ IsRow 3 1 (ints (abvV x.c i.s 0)) i.r ∧ i.r.n = (abvV x.c i.s 0).length ∧ i.j ≤ i.r.n, gh := some ⟨Nat, fun i => i.k⟩, mu := fun i => i.r.n - i.j, lv := fun i => [(1, .slice x.a x.n x.cap), (5, .pointer (some ⟨i.b, 0, none⟩)), (36, .slice x.a x.n x.cap), (37, .int .i64 x.n), (38, .int .i64 i.k), (63, .slice i.r.a i.r.n i.r.cap), (64, .int .i64 i.r.n), (65, .int .i64 i.j)], st := fun i => [F, i.G, i.r.A] }
  | _ => none
def llOv (_x : LawX) (_F : Atom) : List (Nat × Nat × OH) := [(0, 0, .n 1000), (1, 0, .c awC [] []), (3, 0, .q (at8 1000)), (3, 1, .c largeC [] []), (5, 0, .q (at8 1000)), (5, 1, .c newYC [] [6010]), (6, 5, .c legC [] []), (10, 0, .qo (ixQ 1)), (10, 1, .q [.ex 0 (.int .i64)]), (14, 0, .qo (ixQ 1)), (14, 1, .q [.ex 0 (.int .i64)]), (15, 3, .c insideC [] []), (18, 2, .c atC [] []), (20, 2, .c aboveC [] [77]), (22, 0, .qo (ixQ 1)), (22, 1, .q [.ex 2 (.int .i64)]), (23, 2, .c amC [] [])]
noncomputable def llY_H (x : Con.X (lawC fun c => newB c = true)) (F : Atom) : Hints where
  op := hk ((llOv x F) ++ [])
  inv := llInv x F
  cut := (fun _ _ _ => none) x F
  ord := (fun _ => [])
open Go.Value (int slice string bool pointer agg tuple func) in
open Go.IntKind (i64) in
set_option maxRecDepth 100000 in
theorem llY_vc (x : LawX) (F : Atom) (hc : Con.cond (lawC fun c => newB c = true) x) (hr : Con.rdc (lawC fun c => newB c = true) x F) :
  ∀ (b : Nat),
 FnOk Try.prog 9 awC ∧
 true = true ∧
 ∃ (x_1 : Unit),
 ([] : List Value) = [] ∧
 ([] : List Atom) = [] ∧
 True ∧
 True ∧
 ∀ (y : Unit),
 True →
 Same ⟨b, 0, none⟩ b ∧
 Same ⟨b, 1, none⟩ b ∧
 Same ⟨b, 2, none⟩ b ∧
 Same ⟨b, 3, none⟩ b ∧
 Same ⟨b, 4, none⟩ b ∧
 Same ⟨b, 5, none⟩ b ∧
 Same ⟨b, 6, none⟩ b ∧
 Same ⟨b, 7, none⟩ b ∧
 FnOk Try.prog 10 largeC ∧
 true = true ∧
 ∃ (x_2 : ClnCX),
 [agg { toList := [string x.c.name, bool x.c.late, int i64 x.c.script, slice x.w.vs.a x.w.vs.n x.w.vs.cap, slice x.w.vt.a x.w.vt.n x.w.vt.cap, slice x.w.vb.a x.w.vb.n x.w.vb.cap, slice x.w.vd.a x.w.vd.n x.w.vd.cap, slice x.w.vi.a x.w.vi.n x.w.vi.cap] }] = [agg { toList := [string x_2.c.name, bool x_2.c.late, int i64 x_2.c.script, slice x_2.w.vs.a x_2.w.vs.n x_2.w.vs.cap, slice x_2.w.vt.a x_2.w.vt.n x_2.w.vt.cap, slice x_2.w.vb.a x_2.w.vb.n x_2.w.vb.cap, slice x_2.w.vd.a x_2.w.vd.n x_2.w.vd.cap, slice x_2.w.vi.a x_2.w.vi.n x_2.w.vi.cap] }] ∧
 ([] : List Atom) = [] ∧
 True ∧
 ChIn (Atom.pred (rest [(0, F), (1000, Atom.cells b [string x.c.name, bool x.c.late, int i64 x.c.script, slice x.w.vs.a x.w.vs.n x.w.vs.cap, slice x.w.vt.a x.w.vt.n x.w.vt.cap, slice x.w.vb.a x.w.vb.n x.w.vb.cap, slice x.w.vd.a x.w.vd.n x.w.vd.cap, slice x.w.vi.a x.w.vi.n x.w.vi.cap] 28)] [])) x_2.w.v x_2.c ∧
 ∀ (y : Unit),
 True →
 Br (largeB x_2.c) (Done (lawC fun (c : ChD) => newB c = true) x F (Ending.returned (bool true)) [(0, F), (1000, Atom.cells b [string x.c.name, bool x.c.late, int i64 x.c.script, slice x.w.vs.a x.w.vs.n x.w.vs.cap, slice x.w.vt.a x.w.vt.n x.w.vt.cap, slice x.w.vb.a x.w.vb.n x.w.vb.cap, slice x.w.vd.a x.w.vd.n x.w.vd.cap, slice x.w.vi.a x.w.vi.n x.w.vi.cap] 28)])
 (Br (decide ((↑x.n : Int) > (200 : Int))) (Done (lawC fun (c : ChD) => newB c = true) x F (Ending.returned (bool true)) [(0, F), (1000, Atom.cells b [string x.c.name, bool x.c.late, int i64 x.c.script, slice x.w.vs.a x.w.vs.n x.w.vs.cap, slice x.w.vt.a x.w.vt.n x.w.vt.cap, slice x.w.vb.a x.w.vb.n x.w.vb.cap, slice x.w.vd.a x.w.vd.n x.w.vd.cap, slice x.w.vi.a x.w.vi.n x.w.vi.cap] 28)])
 (Same ⟨b, 0, none⟩ b ∧
 Same ⟨b, 1, none⟩ b ∧
 Same ⟨b, 2, none⟩ b ∧
 Same ⟨b, 3, none⟩ b ∧
 Same ⟨b, 4, none⟩ b ∧
 Same ⟨b, 5, none⟩ b ∧
 Same ⟨b, 6, none⟩ b ∧
 Same ⟨b, 7, none⟩ b ∧
 FnOk Try.prog 11 newYC ∧
 true = true ∧
 ∃ (x_3 : ClnCX),
 [agg { toList := [string x.c.name, bool x.c.late, int i64 x.c.script, slice x.w.vs.a x.w.vs.n x.w.vs.cap, slice x.w.vt.a x.w.vt.n x.w.vt.cap, slice x.w.vb.a x.w.vb.n x.w.vb.cap, slice x.w.vd.a x.w.vd.n x.w.vd.cap, slice x.w.vi.a x.w.vi.n x.w.vi.cap] }] = [agg { toList := [string x_3.c.name, bool x_3.c.late, int i64 x_3.c.script, slice x_3.w.vs.a x_3.w.vs.n x_3.w.vs.cap, slice x_3.w.vt.a x_3.w.vt.n x_3.w.vt.cap, slice x_3.w.vb.a x_3.w.vb.n x_3.w.vb.cap, slice x_3.w.vd.a x_3.w.vd.n x_3.w.vd.cap, slice x_3.w.vi.a x_3.w.vi.n x_3.w.vi.cap] }] ∧
 ([] : List Atom) = [] ∧
 newB x_3.c = true ∧
 ChIn (Atom.pred (rest [(0, F), (1000, Atom.cells b [string x.c.name, bool x.c.late, int i64 x.c.script, slice x.w.vs.a x.w.vs.n x.w.vs.cap, slice x.w.vt.a x.w.vt.n x.w.vt.cap, slice x.w.vb.a x.w.vb.n x.w.vb.cap, slice x.w.vd.a x.w.vd.n x.w.vd.cap, slice x.w.vi.a x.w.vi.n x.w.vi.cap] 28)] [])) x_3.w.v x_3.c ∧
 ∀ (y : NewY),
 LatIn y.G y.b x_3.c →
 FnOk Try.prog 23 legC ∧
 true = true ∧
 ∃ (x_4 : LegX),
 [pointer (some ⟨y.b, 0, none⟩), slice x.a x.n x.cap] = [pointer (some ⟨x_4.b, 0, none⟩), slice x_4.a x_4.n x_4.cap] ∧
 ([] : List Atom) = [] ∧
 (IsSrc 1 (ints x_4.cf) x_4.a x_4.n ∧ x_4.n * 8 ≤ 140737488351232) ∧
 (LatIn (Atom.pred (rest [(0, F), (1000, Atom.cells b [string x.c.name, bool x.c.late, int i64 x.c.script, slice x.w.vs.a x.w.vs.n x.w.vs.cap, slice x.w.vt.a x.w.vt.n x.w.vt.cap, slice x.w.vb.a x.w.vb.n x.w.vb.cap, slice x.w.vd.a x.w.vd.n x.w.vd.cap, slice x.w.vi.a x.w.vi.n x.w.vi.cap] 28), (6010, y.G)] [])) x_4.b x_4.c ∧ Srcd (Atom.pred (rest [(0, F), (1000, Atom.cells b [string x.c.name, bool x.c.late, int i64 x.c.script, slice x.w.vs.a x.w.vs.n x.w.vs.cap, slice x.w.vt.a x.w.vt.n x.w.vt.cap, slice x.w.vb.a x.w.vb.n x.w.vb.cap, slice x.w.vd.a x.w.vd.n x.w.vd.cap, slice x.w.vi.a x.w.vi.n x.w.vi.cap] 28), (6010, y.G)] [])) x_4.a (ints x_4.cf)) ∧
 ∀ (y_1 : Unit),
 True →
 Br (!legB x_4.c x_4.cf) (Done (lawC fun (c : ChD) => newB c = true) x F (Ending.returned (bool true)) [(0, F), (1000, Atom.cells b [string x.c.name, bool x.c.late, int i64 x.c.script, slice x.w.vs.a x.w.vs.n x.w.vs.cap, slice x.w.vt.a x.w.vt.n x.w.vt.cap, slice x.w.vb.a x.w.vb.n x.w.vb.cap, slice x.w.vd.a x.w.vd.n x.w.vd.cap, slice x.w.vi.a x.w.vi.n x.w.vi.cap] 28), (6010, y.G)])
 ((∃ (x_5 : LlI), (LatIn x_5.G x_5.b x.c ∧ LegalP x.c x.xs ∧ x_5.k ≤ x.n) ∧ (slice x.a x.n x.cap = slice x.a x.n x.cap ∧ pointer (some ⟨y.b, 0, none⟩) = pointer (some ⟨x_5.b, 0, none⟩) ∧ slice x.a x.n x.cap = slice x.a x.n x.cap ∧ int i64 (↑x.n : Int) = int i64 (↑x.n : Int) ∧ int i64 (0 : Int) = int i64 (↑x_5.k : Int) ∧ True) ∧ Ent [(0, F), (1000, Atom.cells b [string x.c.name, bool x.c.late, int i64 x.c.script, slice x.w.vs.a x.w.vs.n x.w.vs.cap, slice x.w.vt.a x.w.vt.n x.w.vt.cap, slice x.w.vb.a x.w.vb.n x.w.vb.cap, slice x.w.vd.a x.w.vd.n x.w.vd.cap, slice x.w.vi.a x.w.vi.n x.w.vi.cap] 28), (6010, y.G)] [(0, F), (1, x_5.G)]) ∧
 ∀ (x_5 : LlI) (js : Nat → Value),
 LatIn x_5.G x_5.b x.c ∧ LegalP x.c x.xs ∧ x_5.k ≤ x.n →
 Br (decide ((↑x_5.k : Int) < (↑x.n : Int)))
 (QOpOk Try.prog (opIn Try.f4 10 0) (ixQ 1) ∧
 ∃ (x_6 : IxQX),
 [slice x.a x.n x.cap, int i64 (↑x_5.k : Int)] = [slice (some ⟨x_6.b, x_6.o, none⟩) x_6.len x_6.cap, int i64 x_6.n] ∧
 ((0 : Int) ≤ x_6.n ∧ x_6.n < (↑x_6.len : Int)) ∧
 ∃ (n : Int),
 Look F ⟨x_6.b, x_6.o + x_6.n.toNat * 1, none⟩ (int i64 n) ∧
 ∃ (n_1 : Nat),
 (∃ (x_7 : LlI),
 ((LatIn x_7.G x_7.b x.c ∧ LegalP x.c x.xs ∧ x_7.k < x.n ∧ x.xs[x_7.k]? = some x_7.s ∧ x_7.j ≤ x.n) ∧ x_7.k = n_1) ∧
 (slice x.a x.n x.cap = slice x.a x.n x.cap ∧ pointer (some ⟨x_5.b, 0, none⟩) = pointer (some ⟨x_7.b, 0, none⟩) ∧ int i64 n = int i64 x_7.s ∧ int i64 (0 : Int) = int i64 (llN x x_7.s x_7.j) ∧ slice x.a x.n x.cap = slice x.a x.n x.cap ∧ int i64 (↑x.n : Int) = int i64 (↑x.n : Int) ∧ int i64 (↑x_5.k : Int) = int i64 (↑x_7.k : Int) ∧ slice x.a x.n x.cap = slice x.a x.n x.cap ∧ int i64 (↑x.n : Int) = int i64 (↑x.n : Int) ∧ int i64 (0 : Int) = int i64 (↑x_7.j : Int) ∧ True) ∧ Ent [(0, F), (1, x_5.G)] [(0, F), (1, x_7.G)]) ∧
 ∀ (x_7 : LlI) (js : Nat → Value),
 (LatIn x_7.G x_7.b x.c ∧ LegalP x.c x.xs ∧ x_7.k < x.n ∧ x.xs[x_7.k]? = some x_7.s ∧ x_7.j ≤ x.n) ∧ x_7.k = n_1 →
 Br (decide ((↑x_7.j : Int) < (↑x.n : Int)))
 (QOpOk Try.prog (opIn Try.f4 14 0) (ixQ 1) ∧
 ∃ (x_8 : IxQX),
 [slice x.a x.n x.cap, int i64 (↑x_7.j : Int)] = [slice (some ⟨x_8.b, x_8.o, none⟩) x_8.len x_8.cap, int i64 x_8.n] ∧
 ((0 : Int) ≤ x_8.n ∧ x_8.n < (↑x_8.len : Int)) ∧
 ∃ (n : Int),
 Look F ⟨x_8.b, x_8.o + x_8.n.toNat * 1, none⟩ (int i64 n) ∧
 FnOk Try.prog 15 insideC ∧
 true = true ∧
 ∃ (x_9 : L2X),
 [pointer (some ⟨x_7.b, 0, none⟩), int i64 n, int i64 x_7.s] = [pointer (some ⟨x_9.b, 0, none⟩), int i64 x_9.a, int i64 x_9.d] ∧
 ([] : List Atom) = [] ∧
 True ∧
 LatIn (Atom.pred (rest [(0, F), (1, x_7.G)] [])) x_9.b x_9.c ∧
 ∀ (y : Unit),
 True →
 Br (inB x_9.c x_9.a x_9.d)
 (((-9223372036854775808 : Int) ≤ llN x x_7.s x_7.j + (1 : Int) ∧ llN x x_7.s x_7.j + (1 : Int) ≤ (9223372036854775807 : Int)) ∧
 ((-9223372036854775808 : Int) ≤ (↑x_7.j : Int) + (1 : Int) ∧ (↑x_7.j : Int) + (1 : Int) ≤ (9223372036854775807 : Int)) ∧
 ∃ (y : LlI),
 ((LatIn y.G y.b x.c ∧ LegalP x.c x.xs ∧ y.k < x.n ∧ x.xs[y.k]? = some y.s ∧ y.j ≤ x.n) ∧ y.k = n_1) ∧
 (slice x.a x.n x.cap = slice x.a x.n x.cap ∧ pointer (some ⟨x_7.b, 0, none⟩) = pointer (some ⟨y.b, 0, none⟩) ∧ int i64 x_7.s = int i64 y.s ∧ int i64 (llN x x_7.s x_7.j + (1 : Int)) = int i64 (llN x y.s y.j) ∧ slice x.a x.n x.cap = slice x.a x.n x.cap ∧ int i64 (↑x.n : Int) = int i64 (↑x.n : Int) ∧ int i64 (↑x_7.k : Int) = int i64 (↑y.k : Int) ∧ slice x.a x.n x.cap = slice x.a x.n x.cap ∧ int i64 (↑x.n : Int) = int i64 (↑x.n : Int) ∧ int i64 ((↑x_7.j : Int) + (1 : Int)) = int i64 (↑y.j : Int) ∧ True) ∧
 Ent [(0, F), (1, x_7.G)] [(0, F), (1, y.G)] ∧ x.n - y.j < x.n - x_7.j)
 (((-9223372036854775808 : Int) ≤ (↑x_7.j : Int) + (1 : Int) ∧ (↑x_7.j : Int) + (1 : Int) ≤ (9223372036854775807 : Int)) ∧
 ∃ (y : LlI),
 ((LatIn y.G y.b x.c ∧ LegalP x.c x.xs ∧ y.k < x.n ∧ x.xs[y.k]? = some y.s ∧ y.j ≤ x.n) ∧ y.k = n_1) ∧
 (slice x.a x.n x.cap = slice x.a x.n x.cap ∧ pointer (some ⟨x_7.b, 0, none⟩) = pointer (some ⟨y.b, 0, none⟩) ∧ int i64 x_7.s = int i64 y.s ∧ int i64 (llN x x_7.s x_7.j) = int i64 (llN x y.s y.j) ∧ slice x.a x.n x.cap = slice x.a x.n x.cap ∧ int i64 (↑x.n : Int) = int i64 (↑x.n : Int) ∧ int i64 (↑x_7.k : Int) = int i64 (↑y.k : Int) ∧ slice x.a x.n x.cap = slice x.a x.n x.cap ∧ int i64 (↑x.n : Int) = int i64 (↑x.n : Int) ∧ int i64 ((↑x_7.j : Int) + (1 : Int)) = int i64 (↑y.j : Int) ∧ True) ∧
 Ent [(0, F), (1, x_7.G)] [(0, F), (1, y.G)] ∧ x.n - y.j < x.n - x_7.j))
 (FnOk Try.prog 17 atC ∧
 true = true ∧
 ∃ (x_8 : LqX),
 [pointer (some ⟨x_7.b, 0, none⟩), int i64 x_7.s] = [pointer (some ⟨x_8.b, 0, none⟩), int i64 x_8.a] ∧
 ([] : List Atom) = [] ∧
 True ∧
 LatIn (Atom.pred (rest [(0, F), (1, x_7.G)] [])) x_8.b x_8.c ∧
 ∀ (y : Unit),
 True →
 Br (!atB x_8.c x_8.a == (llN x x_7.s x_7.j == (0 : Int))) (Done (lawC fun (c : ChD) => newB c = true) x F (Ending.returned (bool false)) [(0, F), (1, x_7.G)])
 (FnOk Try.prog 28 aboveC ∧
 true = true ∧
 ∃ (x_9 : AbX),
 [pointer (some ⟨x_7.b, 0, none⟩), int i64 x_7.s, int i64 (0 : Int)] = [pointer (some ⟨x_9.b, 0, none⟩), int i64 x_9.a, int i64 x_9.top] ∧
 ([] : List Atom) = [] ∧
 True ∧
 LatIn (Atom.pred (rest [(0, F), (1, x_7.G)] [])) x_9.b x_9.c ∧
 ∀ (y : Row),
 IsRow 3 1 (ints (abvV x_9.c x_9.a x_9.top)) y ∧ y.n = (abvV x_9.c x_9.a x_9.top).length →
 ∃ (n : Nat),
 (∃ (x_10 : LlI),
 ((LatIn x_10.G x_10.b x.c ∧ LegalP x.c x.xs ∧ x_10.k < x.n ∧ x.xs[x_10.k]? = some x_10.s ∧ IsRow 3 1 (ints (abvV x.c x_10.s (0 : Int))) x_10.r ∧ x_10.r.n = (abvV x.c x_10.s (0 : Int)).length ∧ x_10.j ≤ x_10.r.n) ∧ x_10.k = n) ∧
 (slice x.a x.n x.cap = slice x.a x.n x.cap ∧ pointer (some ⟨x_7.b, 0, none⟩) = pointer (some ⟨x_10.b, 0, none⟩) ∧ slice x.a x.n x.cap = slice x.a x.n x.cap ∧ int i64 (↑x.n : Int) = int i64 (↑x.n : Int) ∧ int i64 (↑x_7.k : Int) = int i64 (↑x_10.k : Int) ∧ slice y.a y.n y.cap = slice x_10.r.a x_10.r.n x_10.r.cap ∧ int i64 (↑y.n : Int) = int i64 (↑x_10.r.n : Int) ∧ int i64 (0 : Int) = int i64 (↑x_10.j : Int) ∧ True) ∧ Ent [(0, F), (1, x_7.G), (77, y.A)] [(0, F), (1, x_10.G), (2, x_10.r.A)]) ∧
 ∀ (x_10 : LlI) (js : Nat → Value),
 (LatIn x_10.G x_10.b x.c ∧ LegalP x.c x.xs ∧ x_10.k < x.n ∧ x.xs[x_10.k]? = some x_10.s ∧ IsRow 3 1 (ints (abvV x.c x_10.s (0 : Int))) x_10.r ∧ x_10.r.n = (abvV x.c x_10.s (0 : Int)).length ∧ x_10.j ≤ x_10.r.n) ∧ x_10.k = n →
 Br (decide ((↑x_10.j : Int) < (↑x_10.r.n : Int)))
 (QOpOk Try.prog (opIn Try.f4 22 0) (ixQ 1) ∧
 ∃ (x_11 : IxQX),
 [slice x_10.r.a x_10.r.n x_10.r.cap, int i64 (↑x_10.j : Int)] = [slice (some ⟨x_11.b, x_11.o, none⟩) x_11.len x_11.cap, int i64 x_11.n] ∧
 ((0 : Int) ≤ x_11.n ∧ x_11.n < (↑x_11.len : Int)) ∧
 ∃ (n_2 : Int),
 Look x_10.r.A ⟨x_11.b, x_11.o + x_11.n.toNat * 1, none⟩ (int i64 n_2) ∧
 FnOk Try.prog 32 amC ∧
 true = true ∧
 ∃ (x_12 : InX),
 [int i64 n_2, slice x.a x.n x.cap] = [int i64 x_12.v, slice x_12.a x_12.n x_12.cap] ∧
 ([] : List Atom) = [] ∧
 (IsSrc 1 (ints x_12.xs) x_12.a x_12.n ∧ x_12.n * 8 ≤ 140737488351232) ∧
 Srcd (Atom.pred (rest [(0, F), (1, x_10.G), (2, x_10.r.A)] [])) x_12.a (ints x_12.xs) ∧
 ∀ (y : Unit),
 True →
 Br (!memB x_12.xs x_12.v) (Done (lawC fun (c : ChD) => newB c = true) x F (Ending.returned (bool false)) [(0, F), (1, x_10.G), (2, x_10.r.A)])
 (((-9223372036854775808 : Int) ≤ (↑x_10.j : Int) + (1 : Int) ∧ (↑x_10.j : Int) + (1 : Int) ≤ (9223372036854775807 : Int)) ∧
 ∃ (y : LlI),
 ((LatIn y.G y.b x.c ∧ LegalP x.c x.xs ∧ y.k < x.n ∧ x.xs[y.k]? = some y.s ∧ IsRow 3 1 (ints (abvV x.c y.s (0 : Int))) y.r ∧ y.r.n = (abvV x.c y.s (0 : Int)).length ∧ y.j ≤ y.r.n) ∧ y.k = n) ∧
 (slice x.a x.n x.cap = slice x.a x.n x.cap ∧ pointer (some ⟨x_10.b, 0, none⟩) = pointer (some ⟨y.b, 0, none⟩) ∧ slice x.a x.n x.cap = slice x.a x.n x.cap ∧ int i64 (↑x.n : Int) = int i64 (↑x.n : Int) ∧ int i64 (↑x_10.k : Int) = int i64 (↑y.k : Int) ∧ slice x_10.r.a x_10.r.n x_10.r.cap = slice y.r.a y.r.n y.r.cap ∧ int i64 (↑x_10.r.n : Int) = int i64 (↑y.r.n : Int) ∧ int i64 ((↑x_10.j : Int) + (1 : Int)) = int i64 (↑y.j : Int) ∧ True) ∧
 Ent [(0, F), (1, x_10.G), (2, x_10.r.A)] [(0, F), (1, y.G), (2, y.r.A)] ∧ y.r.n - y.j < x_10.r.n - x_10.j))
 (((-9223372036854775808 : Int) ≤ (↑x_10.k : Int) + (1 : Int) ∧ (↑x_10.k : Int) + (1 : Int) ≤ (9223372036854775807 : Int)) ∧ ∃ (y : LlI), (LatIn y.G y.b x.c ∧ LegalP x.c x.xs ∧ y.k ≤ x.n) ∧ (slice x.a x.n x.cap = slice x.a x.n x.cap ∧ pointer (some ⟨x_10.b, 0, none⟩) = pointer (some ⟨y.b, 0, none⟩) ∧ slice x.a x.n x.cap = slice x.a x.n x.cap ∧ int i64 (↑x.n : Int) = int i64 (↑x.n : Int) ∧ int i64 ((↑x_10.k : Int) + (1 : Int)) = int i64 (↑y.k : Int) ∧ True) ∧ Ent [(0, F), (1, x_10.G), (2, x_10.r.A)] [(0, F), (1, y.G)] ∧ x.n - y.k < x.n - x_5.k))))
 (Done (lawC fun (c : ChD) => newB c = true) x F (Ending.returned (bool (decide ((↑x.n : Int) > (0 : Int))))) [(0, F), (1, x_5.G)])))) := by
  obtain ⟨c, ⟨⟨va, vn, vcap⟩, wt, wb, wd, wi⟩, a, n, cap, xs⟩ := x
  obtain ⟨hnew, hsrc, hle⟩ := hc
  obtain ⟨hr, hx⟩ := hr
  dsimp only at hnew hsrc hle hx
  replace hr : ChIn F _ c := hr
  have hlen : xs.length = n := by have := hsrc.len; rw [ints_length] at this; omega
  have hp : Placed c := (newB_spec.1 hnew).1
  have look : ∀ (b o i : Nat) (u : Int), a = some ⟨b, o, none⟩ → xs[i]? = some u → Look F ⟨b, o + (i : Int).toNat * 1, none⟩ (.int .i64 u) := by
    intro b o i u e hu
    subst e
    have : o + (i : Int).toNat * 1 = o + i := by omega
    rw [this]
    exact hx.look (ints_get hu)
  intro b1
  refine ⟨aw_ok, rfl, (), rfl, rfl, trivial, trivial, fun _ _ => ?_⟩
  iterate 8 refine ⟨⟨rfl, rfl⟩, ?_⟩
  refine ⟨large_ok, rfl, ⟨c, ⟨⟨va, vn, vcap⟩, wt, wb, wd, wi⟩⟩, rfl, rfl, trivial, hr.sub (sub_rest 0 (by simp) rfl), fun _ _ => br_intro (fun _ => ⟨(), trivial, rfl, Ent.pick [0] rfl rfl⟩) (fun _ => br_decide (fun _ => ⟨(), trivial, rfl, Ent.pick [0] rfl rfl⟩) (fun h50 => ?_))⟩
  dsimp only at h50
  iterate 8 refine ⟨⟨rfl, rfl⟩, ?_⟩
  refine ⟨newY_ok, rfl, ⟨c, ⟨⟨va, vn, vcap⟩, wt, wb, wd, wi⟩⟩, rfl, rfl, hnew, hr.sub (sub_rest 0 (by simp) rfl), fun z hz => ?_⟩
  replace hz : LatIn z.G z.b c := hz
  refine ⟨leg_ok, rfl, ⟨z.b, c, a, n, cap, xs⟩, rfl, rfl, ⟨hsrc, hle⟩, ⟨hz.sub (sub_rest 6010 (by simp) rfl), hx.sub (sub_rest 0 (by simp) rfl)⟩, fun _ _ => br_intro (fun _ => ⟨(), trivial, rfl, Ent.pick [0] rfl rfl⟩) (fun hl => ?_)⟩
  have hL : LegalP c xs := legal_spec hp (by dsimp only at hl; simpa using hl)
  refine ⟨⟨⟨0, z.b, z.G, 0, 0, nilRow⟩, ⟨hz, hL, Nat.zero_le _⟩, ⟨rfl, rfl, rfl, rfl, rfl, trivial⟩, Ent.pick [0, 6010] rfl rfl⟩, ?_⟩
  clear hz z b1 hl
  rintro ⟨k, b, G, j0, s0, r0⟩ js ⟨hG, _, hk⟩
  dsimp only at hG hk ⊢
  have hpos : 0 < xs.length := List.length_pos_iff.2 hL.ne
  refine br_decide (fun hlt => ?_) (fun hge => ⟨(), trivial, retB (decide_eq_true (by omega)), Ent.pick [0] rfl rfl⟩)
  obtain ⟨s, hs⟩ : ∃ u, xs[k]? = some u := ⟨_, List.getElem?_eq_getElem (by omega)⟩
  have hsm := List.mem_of_getElem? hs
  obtain ⟨b2, o2, e2⟩ := hsrc.some (by omega)
  refine ⟨ixq_ok 1 rfl rfl rfl rfl, ⟨b2, o2, n, cap, k⟩, by rw [e2], by dsimp only; omega, s, look b2 o2 k s e2 hs, k, ⟨⟨k, b, G, 0, s, nilRow⟩, ⟨⟨hG, hL, by dsimp only; omega, hs, Nat.zero_le _⟩, rfl⟩, ⟨rfl, rfl, rfl, rfl, rfl, rfl, rfl, rfl, rfl, rfl, trivial⟩, Ent.pick [0, 1] rfl rfl⟩, ?_⟩
  clear hG
  rintro ⟨k2, b, G, j, s2, r0⟩ js2 ⟨⟨hG, _, _, hs2, hj⟩, hkk⟩
  dsimp only at hG hs2 hj hkk ⊢
  subst hkk
  rw [hs] at hs2
  cases hs2
  have hcb : ∀ j, 0 ≤ llN ⟨c, ⟨⟨va, vn, vcap⟩, wt, wb, wd, wi⟩, a, n, cap, xs⟩ s j ∧ llN ⟨c, ⟨⟨va, vn, vcap⟩, wt, wb, wd, wi⟩, a, n, cap, xs⟩ s j * 8 ≤ 140737488351232 := by
    intro j
    unfold llN
    have h1 := List.countP_le_length (p := fun k => inB c k s) (l := xs.take j)
    have h2 := List.length_take_le j xs
    rw [List.length_take] at h1
    dsimp only
    omega
  have hc0 := hcb j
  refine br_decide (fun hlt2 => ?_) (fun hge2 => ?_)
  · obtain ⟨u, hu⟩ : ∃ u, xs[j]? = some u := ⟨_, List.getElem?_eq_getElem (by omega)⟩
    have step : llN ⟨c, ⟨⟨va, vn, vcap⟩, wt, wb, wd, wi⟩, a, n, cap, xs⟩ s (j + 1) = llN ⟨c, ⟨⟨va, vn, vcap⟩, wt, wb, wd, wi⟩, a, n, cap, xs⟩ s j + bif inB c u s then 1 else 0 := by
      unfold llN
      dsimp only
      rw [take_g hu, List.countP_append, List.countP_singleton]
      cases inB c u s <;> simp
    refine ⟨ixq_ok 1 rfl rfl rfl rfl, ⟨b2, o2, n, cap, j⟩, by rw [e2], by dsimp only; omega, u, look b2 o2 j u e2 hu, inside_ok, rfl, ⟨b, c, u, s⟩, rfl, rfl, trivial, hG.sub (sub_rest 1 (by simp) rfl), fun _ _ => br_intro (fun q => ?_) (fun q => ?_)⟩
    · dsimp only at q
      rw [q, cond_true] at step
      exact ⟨by omega, by omega, ⟨k2, b, G, j + 1, s, nilRow⟩, ⟨⟨hG, hL, by dsimp only; omega, hs, by dsimp only; omega⟩, rfl⟩, ⟨rfl, rfl, rfl, by rw [step], rfl, rfl, rfl, rfl, rfl, rfl, trivial⟩, Ent.pick [0, 1] rfl rfl, by dsimp only; omega⟩
    · dsimp only at q
      rw [q, cond_false, Int.add_zero] at step
      exact ⟨by omega, ⟨k2, b, G, j + 1, s, nilRow⟩, ⟨⟨hG, hL, by dsimp only; omega, hs, by dsimp only; omega⟩, rfl⟩, ⟨rfl, rfl, rfl, by rw [step], rfl, rfl, rfl, rfl, rfl, rfl, trivial⟩, Ent.pick [0, 1] rfl rfl, by dsimp only; omega⟩
  · have hjn : j = xs.length := by omega
    refine ⟨at_ok, rfl, ⟨b, c, s⟩, rfl, rfl, trivial, hG.sub (sub_rest 1 (by simp) rfl), fun _ _ => br_intro (fun q => ?_) (fun q => ?_)⟩
    · exfalso
      dsimp only at q
      have hat := hL.atom hp hsm
      have hcnt : (llN ⟨c, ⟨⟨va, vn, vcap⟩, wt, wb, wd, wi⟩, a, n, cap, xs⟩ s j == 0) = !xs.any fun k => inB c k s := by
        unfold llN
        dsimp only
        rw [hjn, List.take_length]
        cases h : xs.any fun k => inB c k s with
        | true =>
          obtain ⟨k, hk1, hk2⟩ := List.any_eq_true.1 h
          have := (List.countP_pos_iff (p := fun k => inB c k s) (l := xs)).2 ⟨k, hk1, hk2⟩
          have h3 : ¬ ((xs.countP fun k => inB c k s : Nat) : Int) = 0 := by omega
          simpa using h3
        | false =>
          have : (xs.countP fun k => inB c k s) = 0 := by
            rw [List.countP_eq_zero]
            intro k hk1 hk2
            have := (List.any_eq_true (p := fun k => inB c k s) (l := xs)).2 ⟨k, hk1, hk2⟩
            rw [h] at this; cases this
          rw [this]; rfl
      rw [hat, hcnt] at q
      simp at q
    · refine ⟨above_ok, rfl, ⟨b, c, s, 0⟩, rfl, rfl, trivial, hG.sub (sub_rest 1 (by simp) rfl), fun r hr2 => ⟨k2, ⟨⟨k2, b, G, 0, s, r⟩, ⟨⟨hG, hL, by dsimp only; omega, hs, hr2.1, hr2.2, Nat.zero_le _⟩, rfl⟩, ⟨rfl, rfl, rfl, rfl, rfl, rfl, rfl, rfl, trivial⟩, Ent.pick [0, 1, 77] rfl rfl⟩, ?_⟩⟩
      clear hG hr2 q
      rintro ⟨k3, b, G, j, s3, r⟩ js3 ⟨⟨hG, _, _, hs3, hrow, hrn, hj⟩, hkk⟩
      dsimp only at hG hs3 hrow hrn hj hkk ⊢
      subst hkk
      rw [hs] at hs3
      cases hs3
      have hal := abvV_len hp s 0
      refine br_decide (fun hlt2 => ?_) (fun hge2 => ⟨by omega, ⟨k3 + 1, b, G, 0, 0, nilRow⟩, ⟨hG, hL, by dsimp only; omega⟩, ⟨rfl, rfl, rfl, rfl, rfl, trivial⟩, Ent.pick [0, 1] rfl rfl, by dsimp only; omega⟩)
      obtain ⟨u, hu⟩ : ∃ u, (abvV c s 0)[j]? = some u := ⟨_, List.getElem?_eq_getElem (by omega)⟩
      obtain ⟨b3, hb3⟩ := hrow.at0 (by omega)
      have hsd := hrow.srcd
      rw [hb3] at hsd
      have ej : 0 + (j : Int).toNat * 1 = 0 + j := by omega
      refine ⟨ixq_ok 1 rfl rfl rfl rfl, ⟨b3, 0, r.n, r.cap, j⟩, by rw [hb3], by dsimp only; omega, u, by rw [ej]; exact hsd.look (ints_get hu), am_ok, rfl, ⟨a, n, cap, xs, u⟩, rfl, rfl, ⟨hsrc, hle⟩, hx.sub (sub_rest 0 (by simp) rfl), fun _ _ => br_intro (fun q => ?_) (fun q => ⟨by omega, ⟨k3, b, G, j + 1, s, r⟩, ⟨⟨hG, hL, by dsimp only; omega, hs, hrow, hrn, by dsimp only; omega⟩, rfl⟩, ⟨rfl, rfl, rfl, rfl, rfl, rfl, rfl, rfl, trivial⟩, Ent.pick [0, 1, 2] rfl rfl, by dsimp only; omega⟩)⟩
      exfalso
      dsimp only at q
      rw [hL.above hp hsm (List.mem_of_getElem? hu)] at q
      cases q
set_option maxRecDepth 100000 in
theorem llY_ok : FnOk Try.prog 4 (lawC fun c => newB c = true) :=
  fnOk (N := 78) (by kernel_rfl) Try.func4 rfl (by kernel_rfl) (fun _ => Nat.le_of_ble_eq_true rfl) llY_H [] fun x F hc hr => Eq.mpr (by kernel_rfl) (llY_vc x F hc hr)
noncomputable def llNo_H (x : Con.X (lawC fun c => newB c = false)) (F : Atom) : Hints where
  op := hk ((lcOvN x F) ++ [])
  inv := (fun _ _ _ => none) x F
  cut := (fun _ _ _ => none) x F
  ord := (fun _ => [])
open Go.Value (int slice string bool pointer agg tuple func) in
open Go.IntKind (i64) in
set_option maxRecDepth 100000 in
theorem llNo_vc (x : LawX) (F : Atom) (hc : Con.cond (lawC fun c => newB c = false) x) (hr : Con.rdc (lawC fun c => newB c = false) x F) :
  ∀ (b : Nat),
 FnOk Try.prog 9 awC ∧
 true = true ∧
 ∃ (x_1 : Unit),
 ([] : List Value) = [] ∧
 ([] : List Atom) = [] ∧
 True ∧
 True ∧
 ∀ (y : Unit),
 True →
 Same ⟨b, 0, none⟩ b ∧
 Same ⟨b, 1, none⟩ b ∧
 Same ⟨b, 2, none⟩ b ∧
 Same ⟨b, 3, none⟩ b ∧
 Same ⟨b, 4, none⟩ b ∧
 Same ⟨b, 5, none⟩ b ∧
 Same ⟨b, 6, none⟩ b ∧
 Same ⟨b, 7, none⟩ b ∧
 FnOk Try.prog 10 largeC ∧
 true = true ∧
 ∃ (x_2 : ClnCX),
 [agg { toList := [string x.c.name, bool x.c.late, int i64 x.c.script, slice x.w.vs.a x.w.vs.n x.w.vs.cap, slice x.w.vt.a x.w.vt.n x.w.vt.cap, slice x.w.vb.a x.w.vb.n x.w.vb.cap, slice x.w.vd.a x.w.vd.n x.w.vd.cap, slice x.w.vi.a x.w.vi.n x.w.vi.cap] }] = [agg { toList := [string x_2.c.name, bool x_2.c.late, int i64 x_2.c.script, slice x_2.w.vs.a x_2.w.vs.n x_2.w.vs.cap, slice x_2.w.vt.a x_2.w.vt.n x_2.w.vt.cap, slice x_2.w.vb.a x_2.w.vb.n x_2.w.vb.cap, slice x_2.w.vd.a x_2.w.vd.n x_2.w.vd.cap, slice x_2.w.vi.a x_2.w.vi.n x_2.w.vi.cap] }] ∧
 ([] : List Atom) = [] ∧
 True ∧
 ChIn (Atom.pred (rest [(0, F), (1000, Atom.cells b [string x.c.name, bool x.c.late, int i64 x.c.script, slice x.w.vs.a x.w.vs.n x.w.vs.cap, slice x.w.vt.a x.w.vt.n x.w.vt.cap, slice x.w.vb.a x.w.vb.n x.w.vb.cap, slice x.w.vd.a x.w.vd.n x.w.vd.cap, slice x.w.vi.a x.w.vi.n x.w.vi.cap] 28)] [])) x_2.w.v x_2.c ∧
 ∀ (y : Unit),
 True →
 Br (largeB x_2.c) (Done (lawC fun (c : ChD) => newB c = false) x F (Ending.returned (bool true)) [(0, F), (1000, Atom.cells b [string x.c.name, bool x.c.late, int i64 x.c.script, slice x.w.vs.a x.w.vs.n x.w.vs.cap, slice x.w.vt.a x.w.vt.n x.w.vt.cap, slice x.w.vb.a x.w.vb.n x.w.vb.cap, slice x.w.vd.a x.w.vd.n x.w.vd.cap, slice x.w.vi.a x.w.vi.n x.w.vi.cap] 28)])
 (Br (decide ((↑x.n : Int) > (200 : Int))) (Done (lawC fun (c : ChD) => newB c = false) x F (Ending.returned (bool true)) [(0, F), (1000, Atom.cells b [string x.c.name, bool x.c.late, int i64 x.c.script, slice x.w.vs.a x.w.vs.n x.w.vs.cap, slice x.w.vt.a x.w.vt.n x.w.vt.cap, slice x.w.vb.a x.w.vb.n x.w.vb.cap, slice x.w.vd.a x.w.vd.n x.w.vd.cap, slice x.w.vi.a x.w.vi.n x.w.vi.cap] 28)])
 (Same ⟨b, 0, none⟩ b ∧
 Same ⟨b, 1, none⟩ b ∧
 Same ⟨b, 2, none⟩ b ∧
 Same ⟨b, 3, none⟩ b ∧
 Same ⟨b, 4, none⟩ b ∧
 Same ⟨b, 5, none⟩ b ∧
 Same ⟨b, 6, none⟩ b ∧
 Same ⟨b, 7, none⟩ b ∧
 FnOk Try.prog 11 newNC ∧
 true = true ∧
 ∃ (x_3 : ClnCX),
 [agg { toList := [string x.c.name, bool x.c.late, int i64 x.c.script, slice x.w.vs.a x.w.vs.n x.w.vs.cap, slice x.w.vt.a x.w.vt.n x.w.vt.cap, slice x.w.vb.a x.w.vb.n x.w.vb.cap, slice x.w.vd.a x.w.vd.n x.w.vd.cap, slice x.w.vi.a x.w.vi.n x.w.vi.cap] }] = [agg { toList := [string x_3.c.name, bool x_3.c.late, int i64 x_3.c.script, slice x_3.w.vs.a x_3.w.vs.n x_3.w.vs.cap, slice x_3.w.vt.a x_3.w.vt.n x_3.w.vt.cap, slice x_3.w.vb.a x_3.w.vb.n x_3.w.vb.cap, slice x_3.w.vd.a x_3.w.vd.n x_3.w.vd.cap, slice x_3.w.vi.a x_3.w.vi.n x_3.w.vi.cap] }] ∧
 ([] : List Atom) = [] ∧ newB x_3.c = false ∧ ChIn (Atom.pred (rest [(0, F), (1000, Atom.cells b [string x.c.name, bool x.c.late, int i64 x.c.script, slice x.w.vs.a x.w.vs.n x.w.vs.cap, slice x.w.vt.a x.w.vt.n x.w.vt.cap, slice x.w.vb.a x.w.vb.n x.w.vb.cap, slice x.w.vd.a x.w.vd.n x.w.vd.cap, slice x.w.vi.a x.w.vi.n x.w.vi.cap] 28)] [])) x_3.w.v x_3.c ∧ ∀ (y : Unit), True → Done (lawC fun (c : ChD) => newB c = false) x F (Ending.returned (bool true)) [(0, F), (1000, Atom.cells b [string x.c.name, bool x.c.late, int i64 x.c.script, slice x.w.vs.a x.w.vs.n x.w.vs.cap, slice x.w.vt.a x.w.vt.n x.w.vt.cap, slice x.w.vb.a x.w.vb.n x.w.vb.cap, slice x.w.vd.a x.w.vd.n x.w.vd.cap, slice x.w.vi.a x.w.vi.n x.w.vi.cap] 28)])) := by
  obtain ⟨c, w, a, n, cap, xs⟩ := x
  obtain ⟨hnew, hsrc, hle⟩ := hc
  obtain ⟨hr, hx⟩ := hr
  intro b1
  refine ⟨aw_ok, rfl, (), rfl, rfl, trivial, trivial, fun _ _ => ?_⟩
  iterate 8 refine ⟨⟨rfl, rfl⟩, ?_⟩
  refine ⟨large_ok, rfl, ⟨c, w⟩, rfl, rfl, trivial, ChIn.sub (sub_rest 0 (by simp) rfl) hr, fun _ _ => br_intro (fun _ => ⟨(), trivial, rfl, Ent.pick [0] rfl rfl⟩) (fun _ => br_decide (fun _ => ⟨(), trivial, rfl, Ent.pick [0] rfl rfl⟩) (fun h50 => ?_))⟩
  iterate 8 refine ⟨⟨rfl, rfl⟩, ?_⟩
  exact ⟨newN_ok, rfl, ⟨c, w⟩, rfl, rfl, hnew, ChIn.sub (sub_rest 0 (by simp) rfl) hr, fun _ _ => ⟨(), trivial, rfl, Ent.pick [0] rfl rfl⟩⟩
set_option maxRecDepth 100000 in
theorem llNo_ok : FnOk Try.prog 4 (lawC fun c => newB c = false) :=
  fnOk (N := 78) (by kernel_rfl) Try.func4 rfl (by kernel_rfl) (fun _ => Nat.le_of_ble_eq_true rfl) llNo_H [] fun x F hc hr => Eq.mpr (by kernel_rfl) (llNo_vc x F hc hr)
theorem llAll_ok : FnOk Try.prog 4 (lawC fun _ => True) := law_split llY_ok llNo_ok
end Go.Proofs.Ytfmadkaiigiaiaa
