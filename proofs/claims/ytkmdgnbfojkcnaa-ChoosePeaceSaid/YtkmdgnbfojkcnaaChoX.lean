/- The law ChoosePeace. -/
import Derived.Test.YtkmdgnbfojkcnaaChoW
import Derived.Test.YtkmdgnbfojkcnaaChoV
import Derived.Test.YtkmdgnbfojkcnaaChoR
set_option linter.all false
namespace Go.Proofs.Ytkmdgnbfojkcnaa
open Go
set_option maxHeartbeats 1000000
def peNOv (_x : MvX) (_F : Atom) : List (Nat × Nat × OH) := [(0, 0, .n 1000), (0, 1, .n 1010), (1, 0, .c awC [] []), (3, 0, .q (at8 1000)), (3, 1, .q (at6 1010)), (3, 2, .c lgeC [] []), (5, 0, .q (at8 1000)), (5, 1, .c newNC [] [])]
noncomputable def peN_H (x : Con.X (mvC fun c => newB c = false)) (F : Atom) : Hints where
  op := hk ((peNOv x F) ++ [])
  inv := noInv x F
  cut := (fun _ _ _ => none) x F
  ord := (fun _ => [])
open Go.Value (int slice string bool pointer agg tuple func) in
open Go.IntKind (i64) in
set_option maxRecDepth 100000 in
theorem peN_vc (x : MvX) (F : Atom) (hc : Con.cond (mvC fun c => newB c = false) x) (hr : Con.rdc (mvC fun c => newB c = false) x F) :
  ∀ (b b_1 : Nat),
 FnOk Try.prog 38 awC ∧
 true = true ∧
 ∃ (x_1 : Unit),
 ([] : List Value) = [] ∧
 ([] : List Atom) = [] ∧
 True ∧
 True ∧
 ∀ (y : Unit),
 True →
 Same ⟨b, 0, none⟩ b ∧
 Same ⟨b, 1, none⟩ b ∧
 Same ⟨b, 2, none⟩ b ∧
 Same ⟨b, 3, none⟩ b ∧
 Same ⟨b, 4, none⟩ b ∧
 Same ⟨b, 5, none⟩ b ∧
 Same ⟨b, 6, none⟩ b ∧
 Same ⟨b, 7, none⟩ b ∧
 Same ⟨b_1, 0, none⟩ b_1 ∧
 Same ⟨b_1, 1, none⟩ b_1 ∧
 Same ⟨b_1, 2, none⟩ b_1 ∧
 Same ⟨b_1, 3, none⟩ b_1 ∧
 Same ⟨b_1, 4, none⟩ b_1 ∧
 Same ⟨b_1, 5, none⟩ b_1 ∧
 FnOk Try.prog 41 lgeC ∧
 true = true ∧
 ∃ (x_2 : MvX),
 [agg { toList := (chS x.c x.w) }, agg { toList := [slice x.g.a x.g.n x.g.cap, slice x.s.a x.s.n x.s.cap, slice x.m.a x.m.n x.m.cap, string x.name, bool x.ev, slice x.hs.a x.hs.n x.hs.cap] }] =
 [agg { toList := (chS x_2.c x_2.w) }, agg { toList := [slice x_2.g.a x_2.g.n x_2.g.cap, slice x_2.s.a x_2.s.n x_2.s.cap, slice x_2.m.a x_2.m.n x_2.m.cap, string x_2.name, bool x_2.ev, slice x_2.hs.a x_2.hs.n x_2.hs.cap] }] ∧
 ([] : List Atom) = [] ∧
 True ∧
 MvIn (Atom.pred (rest [(0, F), (1000, Atom.cells b (chS x.c x.w) 28), (1010, Atom.cells b_1 [slice x.g.a x.g.n x.g.cap, slice x.s.a x.s.n x.s.cap, slice x.m.a x.m.n x.m.cap, string x.name, bool x.ev, slice x.hs.a x.hs.n x.hs.cap] 68)] [])) x_2 ∧
 ∀ (y : Bool),
 True →
 Br y (Done (mvC fun (c : ChD) => newB c = false) x F (Ending.returned (bool true)) [(0, F), (1000, Atom.cells b (chS x.c x.w) 28), (1010, Atom.cells b_1 [slice x.g.a x.g.n x.g.cap, slice x.s.a x.s.n x.s.cap, slice x.m.a x.m.n x.m.cap, string x.name, bool x.ev, slice x.hs.a x.hs.n x.hs.cap] 68)])
 (Same ⟨b, 0, none⟩ b ∧
 Same ⟨b, 1, none⟩ b ∧
 Same ⟨b, 2, none⟩ b ∧
 Same ⟨b, 3, none⟩ b ∧
 Same ⟨b, 4, none⟩ b ∧
 Same ⟨b, 5, none⟩ b ∧
 Same ⟨b, 6, none⟩ b ∧
 Same ⟨b, 7, none⟩ b ∧
 FnOk Try.prog 14 newNC ∧
 true = true ∧
 ∃ (x_3 : ClnCX),
 [agg { toList := (chS x.c x.w) }] = [agg { toList := (chS x_3.c x_3.w) }] ∧
 ([] : List Atom) = [] ∧
 newB x_3.c = false ∧
 ChIn (Atom.pred (rest [(0, F), (1000, Atom.cells b (chS x.c x.w) 28), (1010, Atom.cells b_1 [slice x.g.a x.g.n x.g.cap, slice x.s.a x.s.n x.s.cap, slice x.m.a x.m.n x.m.cap, string x.name, bool x.ev, slice x.hs.a x.hs.n x.hs.cap] 68)] [])) x_3.w.v x_3.c ∧
 ∀ (y : Unit), True → Done (mvC fun (c : ChD) => newB c = false) x F (Ending.returned (bool true)) [(0, F), (1000, Atom.cells b (chS x.c x.w) 28), (1010, Atom.cells b_1 [slice x.g.a x.g.n x.g.cap, slice x.s.a x.s.n x.s.cap, slice x.m.a x.m.n x.m.cap, string x.name, bool x.ev, slice x.hs.a x.hs.n x.hs.cap] 68)]) := by
  obtain ⟨hnew, -⟩ := hc
  replace hr : MvIn F x := hr
  intro b b3
  refine ⟨aw15_ok, rfl, (), rfl, rfl, trivial, trivial, fun _ _ => ?_⟩
  iterate 14 refine ⟨⟨rfl, rfl⟩, ?_⟩
  refine ⟨lge_ok, rfl, x, rfl, rfl, trivial, hr.sub (sub_rest 0 (by simp) rfl), fun y _ => br_intro (fun _ => ⟨(), trivial, rfl, Ent.pick [0] rfl rfl⟩) (fun _ => ?_)⟩
  iterate 8 refine ⟨⟨rfl, rfl⟩, ?_⟩
  exact ⟨newN_ok, rfl, ⟨x.c, x.w⟩, rfl, rfl, hnew, hr.ch.sub (sub_rest 0 (by simp) rfl), fun _ _ => ⟨(), trivial, rfl, Ent.pick [0] rfl rfl⟩⟩
set_option maxRecDepth 100000 in
theorem peN_ok : FnOk Try.prog 8 (mvC fun c => newB c = false) :=
  fnOk (N := 131) (by kernel_rfl) Try.func8 rfl (by kernel_rfl) (fun _ => Nat.le_of_ble_eq_true rfl) peN_H [] fun x F hc hr => Eq.mpr (by kernel_rfl) (peN_vc x F hc hr)
structure PeI where
  b : Nat
  b3 : Nat
  r : Row
  i : Nat
  k : Nat
  u : Int
structure PeP (x : MvX) (i : PeI) : Prop where
  row : IsRow 3 1 (ints (resV x.c x.mem x.cf x.ts)) i.r
  le : i.i ≤ (resV x.c x.mem x.cf x.ts).length
structure PeQ (x : MvX) (i : PeI) : Prop where
  row : IsRow 3 1 (ints (resV x.c x.mem x.cf x.ts)) i.r
  u : (resV x.c x.mem x.cf x.ts)[i.i]? = some i.u
  le : i.k ≤ i.i
structure PeP2 (x : MvX) (i : PeI) : Prop where
  row : IsRow 3 1 (ints (resV x.c x.mem x.cf x.ts)) i.r
  le : i.i ≤ x.ts.length
structure PeQ2 (x : MvX) (i : PeI) : Prop where
  row : IsRow 3 1 (ints (resV x.c x.mem x.cf x.ts)) i.r
  u : x.ts[i.i]? = some i.u
  T : isT x.c i.u = true
  no : i.u ∉ resV x.c x.mem x.cf x.ts
  le : i.k ≤ x.ts.length
def peF (x : MvX) (u : Int) (k : Nat) : Bool := (x.ts.take k).any fun o => (o != u) && (decide (o ≥ 0) && (decide (o < x.c.trs.length) && cfl x.c x.mem x.cf u o))
def peS (x : MvX) (F : Atom) (i : PeI) : List Atom := [.cells i.b (chS x.c x.w) 28, .cells i.b3 (moS x) 68, i.r.A, F]
def peInv (x : MvX) (F : Atom) : Nat → Option Inv := fun
  | 0 => some { X := PeI, P := fun i => PeP x i, mu := fun i => (resV x.c x.mem x.cf x.ts).length - i.i, lv := fun i => [(2, .pointer (some ⟨i.b, 0, none⟩)), (3, .pointer (some ⟨i.b3, 0, none⟩)), (7, .slice i.r.a i.r.n i.r.cap), (37, .slice i.r.a i.r.n i.r.cap), (38, .int .i64 i.r.n), (39, .int .i64 i.i)], st := peS x F }
  | 2 => some { X := PeI, P := fun i => PeQ x i, gh := some ⟨Nat, fun i => i.i⟩, mu := fun i => i.i - i.k, lv := fun i => [(2, .pointer (some ⟨i.b, 0, none⟩)), (3, .pointer (some ⟨i.b3, 0, none⟩)), (7, .slice i.r.a i.r.n i.r.cap), (9, .int .i64 i.u), (37, .slice i.r.a i.r.n i.r.cap), (38, .int .i64 i.r.n), (39, .int .i64 i.i), (51, .slice i.r.a i.i i.r.cap), (52, .int .i64 i.i), (53, .int .i64 i.k)], st := peS x F }
  | 4 => some { X := PeI, P := fun i => PeP2 x i, mu := fun i => x.ts.length - i.i, lv := fun i => [(2, .pointer (some ⟨i.b, 0, none⟩)), (3, .pointer (some ⟨i.b3, 0, none⟩)), (7, .slice i.r.a i.r.n i.r.cap), (73, .slice x.s.a x.s.n x.s.cap), (74, .int .i64 x.s.n), (75, .int .i64 i.i)], st := peS x F }
  | 6 => some { X := PeI, P := fun i => PeQ2 x i, gh := some ⟨Nat × Int, fun i => (i.i, i.u)⟩, mu := fun i => x.ts.length - i.k, lv := fun i => [(2, .pointer (some ⟨i.b, 0, none⟩)), (3, .pointer (some ⟨i.b3, 0, none⟩)), (7, .slice i.r.a i.r.n i.r.cap), (13, .int .i64 i.u), (14, .bool (peF x i.u i.k)), (73, .slice x.s.a x.s.n x.s.cap), (74, .int .i64 x.s.n), (75, .int .i64 i.i), (94, .slice x.s.a x.s.n x.s.cap), (95, .int .i64 x.s.n), (96, .int .i64 i.k)], st := peS x F }
  | _ => none
def peOv (_x : MvX) (_F : Atom) : List (Nat × Nat × OH) := [(0, 0, .n 1000), (0, 1, .n 1010), (1, 0, .c awC [] []), (3, 0, .q (at8 1000)), (3, 1, .q (at6 1010)), (3, 2, .c lgeC [] []), (5, 0, .q (at8 1000)), (5, 1, .c newYC [] [6010]), (8, 2, .q [.atj 1010]), (8, 4, .q [.atj 1010]), (8, 6, .q [.atj 1010]), (8, 7, .c resC [] [9070]),
  (11, 1, .qo (ixQ 1)), (11, 2, .q [.ex 2 (.int .i64)]), (12, 2, .q [.atj 1]), (12, 3, .c amC [] []), (14, 2, .qo slQ), (16, 0, .qo (ixQ 1)), (16, 1, .q [.ex 2 (.int .i64)]), (17, 4, .q (at8 0)), (17, 6, .q [.atj 1]), (17, 8, .q [.atj 1]), (17, 11, .c cnC [] []),
  (21, 1, .q [.atj 1]), (23, 0, .qo (ixQ 1)), (23, 1, .q [.ex 3 (.int .i64)]), (24, 5, .q [.atj 0]), (24, 12, .c amC [] []), (26, 1, .q [.atj 1]), (28, 0, .qo (ixQ 1)), (28, 1, .q [.ex 3 (.int .i64)]), (29, 12, .q [.atj 0]), (29, 17, .q (at8 0)), (29, 19, .q [.atj 1]), (29, 21, .q [.atj 1]), (29, 24, .c cnC [] [])]
noncomputable def peY_H (x : Con.X (mvC fun c => newB c = true)) (F : Atom) : Hints where
  op := hk ((peOv x F) ++ [])
  inv := peInv x F
  cut := (fun _ _ _ => none) x F
  ord := (fun _ => [])
open Go.Value (int slice string bool pointer agg tuple func) in
open Go.IntKind (i64) in
set_option maxRecDepth 100000 in
theorem peY_vc (x : MvX) (F : Atom) (hc : Con.cond (mvC fun c => newB c = true) x) (hr : Con.rdc (mvC fun c => newB c = true) x F) :
  ∀ (b b_1 : Nat),
 FnOk Try.prog 38 awC ∧
 true = true ∧
 ∃ (x_1 : Unit),
 ([] : List Value) = [] ∧
 ([] : List Atom) = [] ∧
 True ∧
 True ∧
 ∀ (y : Unit),
 True →
 Same ⟨b, 0, none⟩ b ∧
 Same ⟨b, 1, none⟩ b ∧
 Same ⟨b, 2, none⟩ b ∧
 Same ⟨b, 3, none⟩ b ∧
 Same ⟨b, 4, none⟩ b ∧
 Same ⟨b, 5, none⟩ b ∧
 Same ⟨b, 6, none⟩ b ∧
 Same ⟨b, 7, none⟩ b ∧
 Same ⟨b_1, 0, none⟩ b_1 ∧
 Same ⟨b_1, 1, none⟩ b_1 ∧
 Same ⟨b_1, 2, none⟩ b_1 ∧
 Same ⟨b_1, 3, none⟩ b_1 ∧
 Same ⟨b_1, 4, none⟩ b_1 ∧
 Same ⟨b_1, 5, none⟩ b_1 ∧
 FnOk Try.prog 41 lgeC ∧
 true = true ∧
 ∃ (x_2 : MvX),
 [agg { toList := (chS x.c x.w) }, agg { toList := [slice x.g.a x.g.n x.g.cap, slice x.s.a x.s.n x.s.cap, slice x.m.a x.m.n x.m.cap, string x.name, bool x.ev, slice x.hs.a x.hs.n x.hs.cap] }] =
 [agg { toList := (chS x_2.c x_2.w) }, agg { toList := [slice x_2.g.a x_2.g.n x_2.g.cap, slice x_2.s.a x_2.s.n x_2.s.cap, slice x_2.m.a x_2.m.n x_2.m.cap, string x_2.name, bool x_2.ev, slice x_2.hs.a x_2.hs.n x_2.hs.cap] }] ∧
 ([] : List Atom) = [] ∧
 True ∧
 MvIn (Atom.pred (rest [(0, F), (1000, Atom.cells b (chS x.c x.w) 28), (1010, Atom.cells b_1 [slice x.g.a x.g.n x.g.cap, slice x.s.a x.s.n x.s.cap, slice x.m.a x.m.n x.m.cap, string x.name, bool x.ev, slice x.hs.a x.hs.n x.hs.cap] 68)] [])) x_2 ∧
 ∀ (y : Bool),
 True →
 Br y (Done (mvC fun (c : ChD) => newB c = true) x F (Ending.returned (bool true)) [(0, F), (1000, Atom.cells b (chS x.c x.w) 28), (1010, Atom.cells b_1 [slice x.g.a x.g.n x.g.cap, slice x.s.a x.s.n x.s.cap, slice x.m.a x.m.n x.m.cap, string x.name, bool x.ev, slice x.hs.a x.hs.n x.hs.cap] 68)])
 (Same ⟨b, 0, none⟩ b ∧
 Same ⟨b, 1, none⟩ b ∧
 Same ⟨b, 2, none⟩ b ∧
 Same ⟨b, 3, none⟩ b ∧
 Same ⟨b, 4, none⟩ b ∧
 Same ⟨b, 5, none⟩ b ∧
 Same ⟨b, 6, none⟩ b ∧
 Same ⟨b, 7, none⟩ b ∧
 FnOk Try.prog 14 newYC ∧
 true = true ∧
 ∃ (x_3 : ClnCX),
 [agg { toList := (chS x.c x.w) }] = [agg { toList := (chS x_3.c x_3.w) }] ∧
 ([] : List Atom) = [] ∧
 newB x_3.c = true ∧
 ChIn (Atom.pred (rest [(0, F), (1000, Atom.cells b (chS x.c x.w) 28), (1010, Atom.cells b_1 [slice x.g.a x.g.n x.g.cap, slice x.s.a x.s.n x.s.cap, slice x.m.a x.m.n x.m.cap, string x.name, bool x.ev, slice x.hs.a x.hs.n x.hs.cap] 68)] [])) x_3.w.v x_3.c ∧
 ∀ (y : NewY),
 LatIn y.G y.b x_3.c →
 Same ⟨b_1, 0, none⟩ b_1 ∧
 Same ⟨b_1, 2, none⟩ b_1 ∧
 Same ⟨b_1, 1, none⟩ b_1 ∧
 FnOk Try.prog 42 resC ∧
 true = true ∧
 ∃ (x_4 : ExX),
 [pointer (some ⟨y.b, 0, none⟩), slice x.g.a x.g.n x.g.cap, slice x.m.a x.m.n x.m.cap, slice x.s.a x.s.n x.s.cap] = [pointer (some ⟨x_4.b, 0, none⟩), slice x_4.g.a x_4.g.n x_4.g.cap, slice x_4.m.a x_4.m.n x_4.m.cap, slice x_4.s.a x_4.s.n x_4.s.cap] ∧
 ([] : List Atom) = [] ∧
 (newB x_4.c = true ∧ (IsSrc 1 (ints x_4.cf) x_4.g.a x_4.g.n ∧ x_4.g.n * 8 ≤ 140737488351232) ∧ IsSrc 1 (ints x_4.ts) x_4.s.a x_4.s.n ∧ x_4.s.n * 8 ≤ 140737488351232) ∧
 (LatIn (Atom.pred (rest [(0, F), (1000, Atom.cells b (chS x.c x.w) 28), (1010, Atom.cells b_1 [slice x.g.a x.g.n x.g.cap, slice x.s.a x.s.n x.s.cap, slice x.m.a x.m.n x.m.cap, string x.name, bool x.ev, slice x.hs.a x.hs.n x.hs.cap] 68), (6010, y.G)] [])) x_4.b x_4.c ∧
 Srcd (Atom.pred (rest [(0, F), (1000, Atom.cells b (chS x.c x.w) 28), (1010, Atom.cells b_1 [slice x.g.a x.g.n x.g.cap, slice x.s.a x.s.n x.s.cap, slice x.m.a x.m.n x.m.cap, string x.name, bool x.ev, slice x.hs.a x.hs.n x.hs.cap] 68), (6010, y.G)] [])) x_4.g.a (ints x_4.cf) ∧
 MemIn (Atom.pred (rest [(0, F), (1000, Atom.cells b (chS x.c x.w) 28), (1010, Atom.cells b_1 [slice x.g.a x.g.n x.g.cap, slice x.s.a x.s.n x.s.cap, slice x.m.a x.m.n x.m.cap, string x.name, bool x.ev, slice x.hs.a x.hs.n x.hs.cap] 68), (6010, y.G)] [])) (slice x_4.m.a x_4.m.n x_4.m.cap) x_4.mem ∧
 Srcd (Atom.pred (rest [(0, F), (1000, Atom.cells b (chS x.c x.w) 28), (1010, Atom.cells b_1 [slice x.g.a x.g.n x.g.cap, slice x.s.a x.s.n x.s.cap, slice x.m.a x.m.n x.m.cap, string x.name, bool x.ev, slice x.hs.a x.hs.n x.hs.cap] 68), (6010, y.G)] [])) x_4.s.a (ints x_4.ts)) ∧
 ∀ (y_1 : Row),
 IsRow 3 1 (ints (resV x_4.c x_4.mem x_4.cf x_4.ts)) y_1 →
 (∃ (x_5 : PeI),
 PeP x x_5 ∧
 (pointer (some ⟨b, 0, none⟩) = pointer (some ⟨x_5.b, 0, none⟩) ∧ pointer (some ⟨b_1, 0, none⟩) = pointer (some ⟨x_5.b3, 0, none⟩) ∧ slice y_1.a y_1.n y_1.cap = slice x_5.r.a x_5.r.n x_5.r.cap ∧ slice y_1.a y_1.n y_1.cap = slice x_5.r.a x_5.r.n x_5.r.cap ∧ int i64 (↑y_1.n : Int) = int i64 (↑x_5.r.n : Int) ∧ int i64 (0 : Int) = int i64 (↑x_5.i : Int) ∧ True) ∧
 Ent [(0, F), (1000, Atom.cells b (chS x.c x.w) 28), (1010, Atom.cells b_1 [slice x.g.a x.g.n x.g.cap, slice x.s.a x.s.n x.s.cap, slice x.m.a x.m.n x.m.cap, string x.name, bool x.ev, slice x.hs.a x.hs.n x.hs.cap] 68), (6010, y.G), (9070, y_1.A)]
 [(0, Atom.cells x_5.b (chS x.c x.w) 28), (1, Atom.cells x_5.b3 [slice x.g.a x.g.n x.g.cap, slice x.s.a x.s.n x.s.cap, slice x.m.a x.m.n x.m.cap, string x.name, bool x.ev, slice x.hs.a x.hs.n x.hs.cap] 68), (2, x_5.r.A), (3, F)]) ∧
 ∀ (x_5 : PeI) (js : Nat → Value),
 PeP x x_5 →
 Br (decide ((↑x_5.i : Int) < (↑x_5.r.n : Int)))
 (QOpOk Try.prog (opIn Try.f8 11 1) (ixQ 1) ∧
 ∃ (x_6 : IxQX),
 [slice x_5.r.a x_5.r.n x_5.r.cap, int i64 (↑x_5.i : Int)] = [slice (some ⟨x_6.b, x_6.o, none⟩) x_6.len x_6.cap, int i64 x_6.n] ∧
 ((0 : Int) ≤ x_6.n ∧ x_6.n < (↑x_6.len : Int)) ∧
 ∃ (n : Int),
 Look x_5.r.A ⟨x_6.b, x_6.o + x_6.n.toNat * 1, none⟩ (int i64 n) ∧
 Same ⟨x_5.b3, 1, none⟩ x_5.b3 ∧
 FnOk Try.prog 35 amC ∧
 true = true ∧
 ∃ (x_7 : InX),
 [int i64 n, slice x.s.a x.s.n x.s.cap] = [int i64 x_7.v, slice x_7.a x_7.n x_7.cap] ∧
 ([] : List Atom) = [] ∧
 (IsSrc 1 (ints x_7.xs) x_7.a x_7.n ∧ x_7.n * 8 ≤ 140737488351232) ∧
 Srcd (Atom.pred (rest [(0, Atom.cells x_5.b (chS x.c x.w) 28), (1, Atom.cells x_5.b3 [slice x.g.a x.g.n x.g.cap, slice x.s.a x.s.n x.s.cap, slice x.m.a x.m.n x.m.cap, string x.name, bool x.ev, slice x.hs.a x.hs.n x.hs.cap] 68), (2, x_5.r.A), (3, F)] [])) x_7.a (ints x_7.xs) ∧
 ∀ (y : Unit),
 True →
 Br (!memB x_7.xs x_7.v) (Done (mvC fun (c : ChD) => newB c = true) x F (Ending.returned (bool false)) [(0, Atom.cells x_5.b (chS x.c x.w) 28), (1, Atom.cells x_5.b3 [slice x.g.a x.g.n x.g.cap, slice x.s.a x.s.n x.s.cap, slice x.m.a x.m.n x.m.cap, string x.name, bool x.ev, slice x.hs.a x.hs.n x.hs.cap] 68), (2, x_5.r.A), (3, F)])
 (QOpOk Try.prog (opIn Try.f8 14 2) slQ ∧
 ∃ (x_8 : SlQX),
 [slice x_5.r.a x_5.r.n x_5.r.cap, int i64 (↑x_5.i : Int)] = [slice x_8.a x_8.n x_8.cap, int i64 x_8.h] ∧
 ((0 : Int) ≤ x_8.h ∧ x_8.h ≤ (↑x_8.cap : Int)) ∧
 ∃ (n_1 : Nat),
 (∃ (x_9 : PeI),
 (PeQ x x_9 ∧ x_9.i = n_1) ∧
 (pointer (some ⟨x_5.b, 0, none⟩) = pointer (some ⟨x_9.b, 0, none⟩) ∧
 pointer (some ⟨x_5.b3, 0, none⟩) = pointer (some ⟨x_9.b3, 0, none⟩) ∧ slice x_5.r.a x_5.r.n x_5.r.cap = slice x_9.r.a x_9.r.n x_9.r.cap ∧ int i64 n = int i64 x_9.u ∧ slice x_5.r.a x_5.r.n x_5.r.cap = slice x_9.r.a x_9.r.n x_9.r.cap ∧ int i64 (↑x_5.r.n : Int) = int i64 (↑x_9.r.n : Int) ∧ int i64 (↑x_5.i : Int) = int i64 (↑x_9.i : Int) ∧ slice x_8.a x_8.h.toNat x_8.cap = slice x_9.r.a x_9.i x_9.r.cap ∧ int i64 (↑x_8.h.toNat : Int) = int i64 (↑x_9.i : Int) ∧ int i64 (0 : Int) = int i64 (↑x_9.k : Int) ∧ True) ∧
 Ent [(0, Atom.cells x_5.b (chS x.c x.w) 28), (1, Atom.cells x_5.b3 [slice x.g.a x.g.n x.g.cap, slice x.s.a x.s.n x.s.cap, slice x.m.a x.m.n x.m.cap, string x.name, bool x.ev, slice x.hs.a x.hs.n x.hs.cap] 68), (2, x_5.r.A), (3, F)]
 [(0, Atom.cells x_9.b (chS x.c x.w) 28), (1, Atom.cells x_9.b3 [slice x.g.a x.g.n x.g.cap, slice x.s.a x.s.n x.s.cap, slice x.m.a x.m.n x.m.cap, string x.name, bool x.ev, slice x.hs.a x.hs.n x.hs.cap] 68), (2, x_9.r.A), (3, F)]) ∧
 ∀ (x_9 : PeI) (js : Nat → Value),
 PeQ x x_9 ∧ x_9.i = n_1 →
 Br (decide ((↑x_9.k : Int) < (↑x_9.i : Int)))
 (QOpOk Try.prog (opIn Try.f8 16 0) (ixQ 1) ∧
 ∃ (x_10 : IxQX),
 [slice x_9.r.a x_9.i x_9.r.cap, int i64 (↑x_9.k : Int)] = [slice (some ⟨x_10.b, x_10.o, none⟩) x_10.len x_10.cap, int i64 x_10.n] ∧
 ((0 : Int) ≤ x_10.n ∧ x_10.n < (↑x_10.len : Int)) ∧
 ∃ (n : Int),
 Look x_9.r.A ⟨x_10.b, x_10.o + x_10.n.toNat * 1, none⟩ (int i64 n) ∧
 Br (x_9.u == n) (Done (mvC fun (c : ChD) => newB c = true) x F (Ending.returned (bool false)) [(0, Atom.cells x_9.b (chS x.c x.w) 28), (1, Atom.cells x_9.b3 [slice x.g.a x.g.n x.g.cap, slice x.s.a x.s.n x.s.cap, slice x.m.a x.m.n x.m.cap, string x.name, bool x.ev, slice x.hs.a x.hs.n x.hs.cap] 68), (2, x_9.r.A), (3, F)])
 (Same ⟨x_9.b, 0, none⟩ x_9.b ∧
 Same ⟨x_9.b, 1, none⟩ x_9.b ∧
 Same ⟨x_9.b, 2, none⟩ x_9.b ∧
 Same ⟨x_9.b, 3, none⟩ x_9.b ∧
 Same ⟨x_9.b, 4, none⟩ x_9.b ∧
 Same ⟨x_9.b, 5, none⟩ x_9.b ∧
 Same ⟨x_9.b, 6, none⟩ x_9.b ∧
 Same ⟨x_9.b, 7, none⟩ x_9.b ∧
 Same ⟨x_9.b3, 0, none⟩ x_9.b3 ∧
 Same ⟨x_9.b3, 2, none⟩ x_9.b3 ∧
 FnOk Try.prog 43 cnC ∧
 true = true ∧
 ∃ (x_11 : CoX),
 [agg { toList := (chS x.c x.w) }, slice x.g.a x.g.n x.g.cap, slice x.m.a x.m.n x.m.cap, int i64 x_9.u, int i64 n] =
 [agg { toList := (chS x_11.c x_11.w) }, slice x_11.g.a x_11.g.n x_11.g.cap, slice x_11.m.a x_11.m.n x_11.m.cap, int i64 x_11.p, int i64 x_11.q] ∧
 ([] : List Atom) = [] ∧
 (newB x_11.c = true ∧ IsSrc 1 (ints x_11.cf) x_11.g.a x_11.g.n ∧ x_11.g.n * 8 ≤ 140737488351232) ∧
 (ChIn (Atom.pred (rest [(0, Atom.cells x_9.b (chS x.c x.w) 28), (1, Atom.cells x_9.b3 [slice x.g.a x.g.n x.g.cap, slice x.s.a x.s.n x.s.cap, slice x.m.a x.m.n x.m.cap, string x.name, bool x.ev, slice x.hs.a x.hs.n x.hs.cap] 68), (2, x_9.r.A), (3, F)] [])) x_11.w.v x_11.c ∧
 Srcd (Atom.pred (rest [(0, Atom.cells x_9.b (chS x.c x.w) 28), (1, Atom.cells x_9.b3 [slice x.g.a x.g.n x.g.cap, slice x.s.a x.s.n x.s.cap, slice x.m.a x.m.n x.m.cap, string x.name, bool x.ev, slice x.hs.a x.hs.n x.hs.cap] 68), (2, x_9.r.A), (3, F)] [])) x_11.g.a (ints x_11.cf) ∧
 MemIn (Atom.pred (rest [(0, Atom.cells x_9.b (chS x.c x.w) 28), (1, Atom.cells x_9.b3 [slice x.g.a x.g.n x.g.cap, slice x.s.a x.s.n x.s.cap, slice x.m.a x.m.n x.m.cap, string x.name, bool x.ev, slice x.hs.a x.hs.n x.hs.cap] 68), (2, x_9.r.A), (3, F)] [])) (slice x_11.m.a x_11.m.n x_11.m.cap) x_11.mem) ∧
 ∀ (y : Unit),
 True →
 Br (cfl x_11.c x_11.mem x_11.cf x_11.p x_11.q) (Done (mvC fun (c : ChD) => newB c = true) x F (Ending.returned (bool false)) [(0, Atom.cells x_9.b (chS x.c x.w) 28), (1, Atom.cells x_9.b3 [slice x.g.a x.g.n x.g.cap, slice x.s.a x.s.n x.s.cap, slice x.m.a x.m.n x.m.cap, string x.name, bool x.ev, slice x.hs.a x.hs.n x.hs.cap] 68), (2, x_9.r.A), (3, F)])
 (((-9223372036854775808 : Int) ≤ (↑x_9.k : Int) + (1 : Int) ∧ (↑x_9.k : Int) + (1 : Int) ≤ (9223372036854775807 : Int)) ∧
 ∃ (y : PeI),
 (PeQ x y ∧ y.i = n_1) ∧
 (pointer (some ⟨x_9.b, 0, none⟩) = pointer (some ⟨y.b, 0, none⟩) ∧
 pointer (some ⟨x_9.b3, 0, none⟩) = pointer (some ⟨y.b3, 0, none⟩) ∧ slice x_9.r.a x_9.r.n x_9.r.cap = slice y.r.a y.r.n y.r.cap ∧ int i64 x_9.u = int i64 y.u ∧ slice x_9.r.a x_9.r.n x_9.r.cap = slice y.r.a y.r.n y.r.cap ∧ int i64 (↑x_9.r.n : Int) = int i64 (↑y.r.n : Int) ∧ int i64 (↑x_9.i : Int) = int i64 (↑y.i : Int) ∧ slice x_9.r.a x_9.i x_9.r.cap = slice y.r.a y.i y.r.cap ∧ int i64 (↑x_9.i : Int) = int i64 (↑y.i : Int) ∧ int i64 ((↑x_9.k : Int) + (1 : Int)) = int i64 (↑y.k : Int) ∧ True) ∧
 Ent [(0, Atom.cells x_9.b (chS x.c x.w) 28), (1, Atom.cells x_9.b3 [slice x.g.a x.g.n x.g.cap, slice x.s.a x.s.n x.s.cap, slice x.m.a x.m.n x.m.cap, string x.name, bool x.ev, slice x.hs.a x.hs.n x.hs.cap] 68), (2, x_9.r.A), (3, F)]
 [(0, Atom.cells y.b (chS x.c x.w) 28), (1, Atom.cells y.b3 [slice x.g.a x.g.n x.g.cap, slice x.s.a x.s.n x.s.cap, slice x.m.a x.m.n x.m.cap, string x.name, bool x.ev, slice x.hs.a x.hs.n x.hs.cap] 68), (2, y.r.A), (3, F)] ∧
 y.i - y.k < x_9.i - x_9.k)))
 (((-9223372036854775808 : Int) ≤ (↑x_9.i : Int) + (1 : Int) ∧ (↑x_9.i : Int) + (1 : Int) ≤ (9223372036854775807 : Int)) ∧
 ∃ (y : PeI),
 PeP x y ∧
 (pointer (some ⟨x_9.b, 0, none⟩) = pointer (some ⟨y.b, 0, none⟩) ∧ pointer (some ⟨x_9.b3, 0, none⟩) = pointer (some ⟨y.b3, 0, none⟩) ∧ slice x_9.r.a x_9.r.n x_9.r.cap = slice y.r.a y.r.n y.r.cap ∧ slice x_9.r.a x_9.r.n x_9.r.cap = slice y.r.a y.r.n y.r.cap ∧ int i64 (↑x_9.r.n : Int) = int i64 (↑y.r.n : Int) ∧ int i64 ((↑x_9.i : Int) + (1 : Int)) = int i64 (↑y.i : Int) ∧ True) ∧
 Ent [(0, Atom.cells x_9.b (chS x.c x.w) 28), (1, Atom.cells x_9.b3 [slice x.g.a x.g.n x.g.cap, slice x.s.a x.s.n x.s.cap, slice x.m.a x.m.n x.m.cap, string x.name, bool x.ev, slice x.hs.a x.hs.n x.hs.cap] 68), (2, x_9.r.A), (3, F)]
 [(0, Atom.cells y.b (chS x.c x.w) 28), (1, Atom.cells y.b3 [slice x.g.a x.g.n x.g.cap, slice x.s.a x.s.n x.s.cap, slice x.m.a x.m.n x.m.cap, string x.name, bool x.ev, slice x.hs.a x.hs.n x.hs.cap] 68), (2, y.r.A), (3, F)] ∧
 (resV x.c x.mem x.cf x.ts).length - y.i < (resV x.c x.mem x.cf x.ts).length - x_5.i)))
 (Same ⟨x_5.b3, 1, none⟩ x_5.b3 ∧
 (∃ (x_6 : PeI),
 PeP2 x x_6 ∧
 (pointer (some ⟨x_5.b, 0, none⟩) = pointer (some ⟨x_6.b, 0, none⟩) ∧ pointer (some ⟨x_5.b3, 0, none⟩) = pointer (some ⟨x_6.b3, 0, none⟩) ∧ slice x_5.r.a x_5.r.n x_5.r.cap = slice x_6.r.a x_6.r.n x_6.r.cap ∧ slice x.s.a x.s.n x.s.cap = slice x.s.a x.s.n x.s.cap ∧ int i64 (↑x.s.n : Int) = int i64 (↑x.s.n : Int) ∧ int i64 (0 : Int) = int i64 (↑x_6.i : Int) ∧ True) ∧
 Ent [(0, Atom.cells x_5.b (chS x.c x.w) 28), (1, Atom.cells x_5.b3 [slice x.g.a x.g.n x.g.cap, slice x.s.a x.s.n x.s.cap, slice x.m.a x.m.n x.m.cap, string x.name, bool x.ev, slice x.hs.a x.hs.n x.hs.cap] 68), (2, x_5.r.A), (3, F)]
 [(0, Atom.cells x_6.b (chS x.c x.w) 28), (1, Atom.cells x_6.b3 [slice x.g.a x.g.n x.g.cap, slice x.s.a x.s.n x.s.cap, slice x.m.a x.m.n x.m.cap, string x.name, bool x.ev, slice x.hs.a x.hs.n x.hs.cap] 68), (2, x_6.r.A), (3, F)]) ∧
 ∀ (x_6 : PeI) (js : Nat → Value),
 PeP2 x x_6 →
 Br (decide ((↑x_6.i : Int) < (↑x.s.n : Int)))
 (QOpOk Try.prog (opIn Try.f8 23 0) (ixQ 1) ∧
 ∃ (x_7 : IxQX),
 [slice x.s.a x.s.n x.s.cap, int i64 (↑x_6.i : Int)] = [slice (some ⟨x_7.b, x_7.o, none⟩) x_7.len x_7.cap, int i64 x_7.n] ∧
 ((0 : Int) ≤ x_7.n ∧ x_7.n < (↑x_7.len : Int)) ∧
 ∃ (n : Int),
 Look F ⟨x_7.b, x_7.o + x_7.n.toNat * 1, none⟩ (int i64 n) ∧
 Br (decide (n < (0 : Int)))
 (((-9223372036854775808 : Int) ≤ (↑x_6.i : Int) + (1 : Int) ∧ (↑x_6.i : Int) + (1 : Int) ≤ (9223372036854775807 : Int)) ∧
 ∃ (y : PeI),
 PeP2 x y ∧
 (pointer (some ⟨x_6.b, 0, none⟩) = pointer (some ⟨y.b, 0, none⟩) ∧ pointer (some ⟨x_6.b3, 0, none⟩) = pointer (some ⟨y.b3, 0, none⟩) ∧ slice x_6.r.a x_6.r.n x_6.r.cap = slice y.r.a y.r.n y.r.cap ∧ slice x.s.a x.s.n x.s.cap = slice x.s.a x.s.n x.s.cap ∧ int i64 (↑x.s.n : Int) = int i64 (↑x.s.n : Int) ∧ int i64 ((↑x_6.i : Int) + (1 : Int)) = int i64 (↑y.i : Int) ∧ True) ∧
 Ent [(0, Atom.cells x_6.b (chS x.c x.w) 28), (1, Atom.cells x_6.b3 [slice x.g.a x.g.n x.g.cap, slice x.s.a x.s.n x.s.cap, slice x.m.a x.m.n x.m.cap, string x.name, bool x.ev, slice x.hs.a x.hs.n x.hs.cap] 68), (2, x_6.r.A), (3, F)]
 [(0, Atom.cells y.b (chS x.c x.w) 28), (1, Atom.cells y.b3 [slice x.g.a x.g.n x.g.cap, slice x.s.a x.s.n x.s.cap, slice x.m.a x.m.n x.m.cap, string x.name, bool x.ev, slice x.hs.a x.hs.n x.hs.cap] 68), (2, y.r.A), (3, F)] ∧
 x.ts.length - y.i < x.ts.length - x_6.i)
 (Same ⟨x_6.b, 4, none⟩ x_6.b ∧
 Br (decide (n ≥ (↑x.w.vt.n : Int)))
 (((-9223372036854775808 : Int) ≤ (↑x_6.i : Int) + (1 : Int) ∧ (↑x_6.i : Int) + (1 : Int) ≤ (9223372036854775807 : Int)) ∧
 ∃ (y : PeI),
 PeP2 x y ∧
 (pointer (some ⟨x_6.b, 0, none⟩) = pointer (some ⟨y.b, 0, none⟩) ∧ pointer (some ⟨x_6.b3, 0, none⟩) = pointer (some ⟨y.b3, 0, none⟩) ∧ slice x_6.r.a x_6.r.n x_6.r.cap = slice y.r.a y.r.n y.r.cap ∧ slice x.s.a x.s.n x.s.cap = slice x.s.a x.s.n x.s.cap ∧ int i64 (↑x.s.n : Int) = int i64 (↑x.s.n : Int) ∧ int i64 ((↑x_6.i : Int) + (1 : Int)) = int i64 (↑y.i : Int) ∧ True) ∧
 Ent [(0, Atom.cells x_6.b (chS x.c x.w) 28), (1, Atom.cells x_6.b3 [slice x.g.a x.g.n x.g.cap, slice x.s.a x.s.n x.s.cap, slice x.m.a x.m.n x.m.cap, string x.name, bool x.ev, slice x.hs.a x.hs.n x.hs.cap] 68), (2, x_6.r.A), (3, F)]
 [(0, Atom.cells y.b (chS x.c x.w) 28), (1, Atom.cells y.b3 [slice x.g.a x.g.n x.g.cap, slice x.s.a x.s.n x.s.cap, slice x.m.a x.m.n x.m.cap, string x.name, bool x.ev, slice x.hs.a x.hs.n x.hs.cap] 68), (2, y.r.A), (3, F)] ∧
 x.ts.length - y.i < x.ts.length - x_6.i)
 (FnOk Try.prog 35 amC ∧
 true = true ∧
 ∃ (x_8 : InX),
 [int i64 n, slice x_6.r.a x_6.r.n x_6.r.cap] = [int i64 x_8.v, slice x_8.a x_8.n x_8.cap] ∧
 ([] : List Atom) = [] ∧
 (IsSrc 1 (ints x_8.xs) x_8.a x_8.n ∧ x_8.n * 8 ≤ 140737488351232) ∧
 Srcd (Atom.pred (rest [(0, Atom.cells x_6.b (chS x.c x.w) 28), (1, Atom.cells x_6.b3 [slice x.g.a x.g.n x.g.cap, slice x.s.a x.s.n x.s.cap, slice x.m.a x.m.n x.m.cap, string x.name, bool x.ev, slice x.hs.a x.hs.n x.hs.cap] 68), (2, x_6.r.A), (3, F)] [])) x_8.a (ints x_8.xs) ∧
 ∀ (y : Unit),
 True →
 Br (memB x_8.xs x_8.v)
 (((-9223372036854775808 : Int) ≤ (↑x_6.i : Int) + (1 : Int) ∧ (↑x_6.i : Int) + (1 : Int) ≤ (9223372036854775807 : Int)) ∧
 ∃ (y : PeI),
 PeP2 x y ∧
 (pointer (some ⟨x_6.b, 0, none⟩) = pointer (some ⟨y.b, 0, none⟩) ∧ pointer (some ⟨x_6.b3, 0, none⟩) = pointer (some ⟨y.b3, 0, none⟩) ∧ slice x_6.r.a x_6.r.n x_6.r.cap = slice y.r.a y.r.n y.r.cap ∧ slice x.s.a x.s.n x.s.cap = slice x.s.a x.s.n x.s.cap ∧ int i64 (↑x.s.n : Int) = int i64 (↑x.s.n : Int) ∧ int i64 ((↑x_6.i : Int) + (1 : Int)) = int i64 (↑y.i : Int) ∧ True) ∧
 Ent [(0, Atom.cells x_6.b (chS x.c x.w) 28), (1, Atom.cells x_6.b3 [slice x.g.a x.g.n x.g.cap, slice x.s.a x.s.n x.s.cap, slice x.m.a x.m.n x.m.cap, string x.name, bool x.ev, slice x.hs.a x.hs.n x.hs.cap] 68), (2, x_6.r.A), (3, F)]
 [(0, Atom.cells y.b (chS x.c x.w) 28), (1, Atom.cells y.b3 [slice x.g.a x.g.n x.g.cap, slice x.s.a x.s.n x.s.cap, slice x.m.a x.m.n x.m.cap, string x.name, bool x.ev, slice x.hs.a x.hs.n x.hs.cap] 68), (2, y.r.A), (3, F)] ∧
 x.ts.length - y.i < x.ts.length - x_6.i)
 (Same ⟨x_6.b3, 1, none⟩ x_6.b3 ∧
 ∃ (n_1 : Nat × Int),
 (∃ (x_9 : PeI),
 (PeQ2 x x_9 ∧ (x_9.i, x_9.u) = n_1) ∧
 (pointer (some ⟨x_6.b, 0, none⟩) = pointer (some ⟨x_9.b, 0, none⟩) ∧
 pointer (some ⟨x_6.b3, 0, none⟩) = pointer (some ⟨x_9.b3, 0, none⟩) ∧ slice x_6.r.a x_6.r.n x_6.r.cap = slice x_9.r.a x_9.r.n x_9.r.cap ∧ int i64 n = int i64 x_9.u ∧ bool false = bool (peF x x_9.u x_9.k) ∧ slice x.s.a x.s.n x.s.cap = slice x.s.a x.s.n x.s.cap ∧ int i64 (↑x.s.n : Int) = int i64 (↑x.s.n : Int) ∧ int i64 (↑x_6.i : Int) = int i64 (↑x_9.i : Int) ∧ slice x.s.a x.s.n x.s.cap = slice x.s.a x.s.n x.s.cap ∧ int i64 (↑x.s.n : Int) = int i64 (↑x.s.n : Int) ∧ int i64 (0 : Int) = int i64 (↑x_9.k : Int) ∧ True) ∧
 Ent [(0, Atom.cells x_6.b (chS x.c x.w) 28), (1, Atom.cells x_6.b3 [slice x.g.a x.g.n x.g.cap, slice x.s.a x.s.n x.s.cap, slice x.m.a x.m.n x.m.cap, string x.name, bool x.ev, slice x.hs.a x.hs.n x.hs.cap] 68), (2, x_6.r.A), (3, F)]
 [(0, Atom.cells x_9.b (chS x.c x.w) 28), (1, Atom.cells x_9.b3 [slice x.g.a x.g.n x.g.cap, slice x.s.a x.s.n x.s.cap, slice x.m.a x.m.n x.m.cap, string x.name, bool x.ev, slice x.hs.a x.hs.n x.hs.cap] 68), (2, x_9.r.A), (3, F)]) ∧
 ∀ (x_9 : PeI) (js : Nat → Value),
 PeQ2 x x_9 ∧ (x_9.i, x_9.u) = n_1 →
 Br (decide ((↑x_9.k : Int) < (↑x.s.n : Int)))
 (QOpOk Try.prog (opIn Try.f8 28 0) (ixQ 1) ∧
 ∃ (x_10 : IxQX),
 [slice x.s.a x.s.n x.s.cap, int i64 (↑x_9.k : Int)] = [slice (some ⟨x_10.b, x_10.o, none⟩) x_10.len x_10.cap, int i64 x_10.n] ∧
 ((0 : Int) ≤ x_10.n ∧ x_10.n < (↑x_10.len : Int)) ∧
 ∃ (n : Int),
 Look F ⟨x_10.b, x_10.o + x_10.n.toNat * 1, none⟩ (int i64 n) ∧
 Br (peF x x_9.u x_9.k)
 (((-9223372036854775808 : Int) ≤ (↑x_9.k : Int) + (1 : Int) ∧ (↑x_9.k : Int) + (1 : Int) ≤ (9223372036854775807 : Int)) ∧
 ∃ (y : PeI),
 (PeQ2 x y ∧ (y.i, y.u) = n_1) ∧
 (pointer (some ⟨x_9.b, 0, none⟩) = pointer (some ⟨y.b, 0, none⟩) ∧
 pointer (some ⟨x_9.b3, 0, none⟩) = pointer (some ⟨y.b3, 0, none⟩) ∧ slice x_9.r.a x_9.r.n x_9.r.cap = slice y.r.a y.r.n y.r.cap ∧ int i64 x_9.u = int i64 y.u ∧ bool true = bool (peF x y.u y.k) ∧ slice x.s.a x.s.n x.s.cap = slice x.s.a x.s.n x.s.cap ∧ int i64 (↑x.s.n : Int) = int i64 (↑x.s.n : Int) ∧ int i64 (↑x_9.i : Int) = int i64 (↑y.i : Int) ∧ slice x.s.a x.s.n x.s.cap = slice x.s.a x.s.n x.s.cap ∧ int i64 (↑x.s.n : Int) = int i64 (↑x.s.n : Int) ∧ int i64 ((↑x_9.k : Int) + (1 : Int)) = int i64 (↑y.k : Int) ∧ True) ∧
 Ent [(0, Atom.cells x_9.b (chS x.c x.w) 28), (1, Atom.cells x_9.b3 [slice x.g.a x.g.n x.g.cap, slice x.s.a x.s.n x.s.cap, slice x.m.a x.m.n x.m.cap, string x.name, bool x.ev, slice x.hs.a x.hs.n x.hs.cap] 68), (2, x_9.r.A), (3, F)]
 [(0, Atom.cells y.b (chS x.c x.w) 28), (1, Atom.cells y.b3 [slice x.g.a x.g.n x.g.cap, slice x.s.a x.s.n x.s.cap, slice x.m.a x.m.n x.m.cap, string x.name, bool x.ev, slice x.hs.a x.hs.n x.hs.cap] 68), (2, y.r.A), (3, F)] ∧
 x.ts.length - y.k < x.ts.length - x_9.k)
 (Br (n != x_9.u)
 (Br (decide (n ≥ (0 : Int)))
 (Same ⟨x_9.b, 4, none⟩ x_9.b ∧
 Br (decide (n < (↑x.w.vt.n : Int)))
 (Same ⟨x_9.b, 0, none⟩ x_9.b ∧
 Same ⟨x_9.b, 1, none⟩ x_9.b ∧
 Same ⟨x_9.b, 2, none⟩ x_9.b ∧
 Same ⟨x_9.b, 3, none⟩ x_9.b ∧
 Same ⟨x_9.b, 4, none⟩ x_9.b ∧
 Same ⟨x_9.b, 5, none⟩ x_9.b ∧
 Same ⟨x_9.b, 6, none⟩ x_9.b ∧
 Same ⟨x_9.b, 7, none⟩ x_9.b ∧
 Same ⟨x_9.b3, 0, none⟩ x_9.b3 ∧
 Same ⟨x_9.b3, 2, none⟩ x_9.b3 ∧
 FnOk Try.prog 43 cnC ∧
 true = true ∧
 ∃ (x_11 : CoX),
 [agg { toList := (chS x.c x.w) }, slice x.g.a x.g.n x.g.cap, slice x.m.a x.m.n x.m.cap, int i64 x_9.u, int i64 n] =
 [agg { toList := (chS x_11.c x_11.w) }, slice x_11.g.a x_11.g.n x_11.g.cap, slice x_11.m.a x_11.m.n x_11.m.cap, int i64 x_11.p, int i64 x_11.q] ∧
 ([] : List Atom) = [] ∧
 (newB x_11.c = true ∧ IsSrc 1 (ints x_11.cf) x_11.g.a x_11.g.n ∧ x_11.g.n * 8 ≤ 140737488351232) ∧
 (ChIn (Atom.pred (rest [(0, Atom.cells x_9.b (chS x.c x.w) 28), (1, Atom.cells x_9.b3 [slice x.g.a x.g.n x.g.cap, slice x.s.a x.s.n x.s.cap, slice x.m.a x.m.n x.m.cap, string x.name, bool x.ev, slice x.hs.a x.hs.n x.hs.cap] 68), (2, x_9.r.A), (3, F)] [])) x_11.w.v x_11.c ∧
 Srcd (Atom.pred (rest [(0, Atom.cells x_9.b (chS x.c x.w) 28), (1, Atom.cells x_9.b3 [slice x.g.a x.g.n x.g.cap, slice x.s.a x.s.n x.s.cap, slice x.m.a x.m.n x.m.cap, string x.name, bool x.ev, slice x.hs.a x.hs.n x.hs.cap] 68), (2, x_9.r.A), (3, F)] [])) x_11.g.a (ints x_11.cf) ∧
 MemIn (Atom.pred (rest [(0, Atom.cells x_9.b (chS x.c x.w) 28), (1, Atom.cells x_9.b3 [slice x.g.a x.g.n x.g.cap, slice x.s.a x.s.n x.s.cap, slice x.m.a x.m.n x.m.cap, string x.name, bool x.ev, slice x.hs.a x.hs.n x.hs.cap] 68), (2, x_9.r.A), (3, F)] [])) (slice x_11.m.a x_11.m.n x_11.m.cap) x_11.mem) ∧
 ∀ (y : Unit),
 True →
 ((-9223372036854775808 : Int) ≤ (↑x_9.k : Int) + (1 : Int) ∧ (↑x_9.k : Int) + (1 : Int) ≤ (9223372036854775807 : Int)) ∧
 ∃ (y : PeI),
 (PeQ2 x y ∧ (y.i, y.u) = n_1) ∧
 (pointer (some ⟨x_9.b, 0, none⟩) = pointer (some ⟨y.b, 0, none⟩) ∧
 pointer (some ⟨x_9.b3, 0, none⟩) = pointer (some ⟨y.b3, 0, none⟩) ∧
 slice x_9.r.a x_9.r.n x_9.r.cap = slice y.r.a y.r.n y.r.cap ∧ int i64 x_9.u = int i64 y.u ∧ bool (cfl x_11.c x_11.mem x_11.cf x_11.p x_11.q) = bool (peF x y.u y.k) ∧ slice x.s.a x.s.n x.s.cap = slice x.s.a x.s.n x.s.cap ∧ int i64 (↑x.s.n : Int) = int i64 (↑x.s.n : Int) ∧ int i64 (↑x_9.i : Int) = int i64 (↑y.i : Int) ∧ slice x.s.a x.s.n x.s.cap = slice x.s.a x.s.n x.s.cap ∧ int i64 (↑x.s.n : Int) = int i64 (↑x.s.n : Int) ∧ int i64 ((↑x_9.k : Int) + (1 : Int)) = int i64 (↑y.k : Int) ∧ True) ∧
 Ent [(0, Atom.cells x_9.b (chS x.c x.w) 28), (1, Atom.cells x_9.b3 [slice x.g.a x.g.n x.g.cap, slice x.s.a x.s.n x.s.cap, slice x.m.a x.m.n x.m.cap, string x.name, bool x.ev, slice x.hs.a x.hs.n x.hs.cap] 68), (2, x_9.r.A), (3, F)]
 [(0, Atom.cells y.b (chS x.c x.w) 28), (1, Atom.cells y.b3 [slice x.g.a x.g.n x.g.cap, slice x.s.a x.s.n x.s.cap, slice x.m.a x.m.n x.m.cap, string x.name, bool x.ev, slice x.hs.a x.hs.n x.hs.cap] 68), (2, y.r.A), (3, F)] ∧
 x.ts.length - y.k < x.ts.length - x_9.k)
 (((-9223372036854775808 : Int) ≤ (↑x_9.k : Int) + (1 : Int) ∧ (↑x_9.k : Int) + (1 : Int) ≤ (9223372036854775807 : Int)) ∧
 ∃ (y : PeI),
 (PeQ2 x y ∧ (y.i, y.u) = n_1) ∧
 (pointer (some ⟨x_9.b, 0, none⟩) = pointer (some ⟨y.b, 0, none⟩) ∧
 pointer (some ⟨x_9.b3, 0, none⟩) = pointer (some ⟨y.b3, 0, none⟩) ∧ slice x_9.r.a x_9.r.n x_9.r.cap = slice y.r.a y.r.n y.r.cap ∧ int i64 x_9.u = int i64 y.u ∧ bool false = bool (peF x y.u y.k) ∧ slice x.s.a x.s.n x.s.cap = slice x.s.a x.s.n x.s.cap ∧ int i64 (↑x.s.n : Int) = int i64 (↑x.s.n : Int) ∧ int i64 (↑x_9.i : Int) = int i64 (↑y.i : Int) ∧ slice x.s.a x.s.n x.s.cap = slice x.s.a x.s.n x.s.cap ∧ int i64 (↑x.s.n : Int) = int i64 (↑x.s.n : Int) ∧ int i64 ((↑x_9.k : Int) + (1 : Int)) = int i64 (↑y.k : Int) ∧ True) ∧
 Ent [(0, Atom.cells x_9.b (chS x.c x.w) 28), (1, Atom.cells x_9.b3 [slice x.g.a x.g.n x.g.cap, slice x.s.a x.s.n x.s.cap, slice x.m.a x.m.n x.m.cap, string x.name, bool x.ev, slice x.hs.a x.hs.n x.hs.cap] 68), (2, x_9.r.A), (3, F)]
 [(0, Atom.cells y.b (chS x.c x.w) 28), (1, Atom.cells y.b3 [slice x.g.a x.g.n x.g.cap, slice x.s.a x.s.n x.s.cap, slice x.m.a x.m.n x.m.cap, string x.name, bool x.ev, slice x.hs.a x.hs.n x.hs.cap] 68), (2, y.r.A), (3, F)] ∧
 x.ts.length - y.k < x.ts.length - x_9.k))
 (((-9223372036854775808 : Int) ≤ (↑x_9.k : Int) + (1 : Int) ∧ (↑x_9.k : Int) + (1 : Int) ≤ (9223372036854775807 : Int)) ∧
 ∃ (y : PeI),
 (PeQ2 x y ∧ (y.i, y.u) = n_1) ∧
 (pointer (some ⟨x_9.b, 0, none⟩) = pointer (some ⟨y.b, 0, none⟩) ∧
 pointer (some ⟨x_9.b3, 0, none⟩) = pointer (some ⟨y.b3, 0, none⟩) ∧ slice x_9.r.a x_9.r.n x_9.r.cap = slice y.r.a y.r.n y.r.cap ∧ int i64 x_9.u = int i64 y.u ∧ bool false = bool (peF x y.u y.k) ∧ slice x.s.a x.s.n x.s.cap = slice x.s.a x.s.n x.s.cap ∧ int i64 (↑x.s.n : Int) = int i64 (↑x.s.n : Int) ∧ int i64 (↑x_9.i : Int) = int i64 (↑y.i : Int) ∧ slice x.s.a x.s.n x.s.cap = slice x.s.a x.s.n x.s.cap ∧ int i64 (↑x.s.n : Int) = int i64 (↑x.s.n : Int) ∧ int i64 ((↑x_9.k : Int) + (1 : Int)) = int i64 (↑y.k : Int) ∧ True) ∧
 Ent [(0, Atom.cells x_9.b (chS x.c x.w) 28), (1, Atom.cells x_9.b3 [slice x.g.a x.g.n x.g.cap, slice x.s.a x.s.n x.s.cap, slice x.m.a x.m.n x.m.cap, string x.name, bool x.ev, slice x.hs.a x.hs.n x.hs.cap] 68), (2, x_9.r.A), (3, F)]
 [(0, Atom.cells y.b (chS x.c x.w) 28), (1, Atom.cells y.b3 [slice x.g.a x.g.n x.g.cap, slice x.s.a x.s.n x.s.cap, slice x.m.a x.m.n x.m.cap, string x.name, bool x.ev, slice x.hs.a x.hs.n x.hs.cap] 68), (2, y.r.A), (3, F)] ∧
 x.ts.length - y.k < x.ts.length - x_9.k))
 (((-9223372036854775808 : Int) ≤ (↑x_9.k : Int) + (1 : Int) ∧ (↑x_9.k : Int) + (1 : Int) ≤ (9223372036854775807 : Int)) ∧
 ∃ (y : PeI),
 (PeQ2 x y ∧ (y.i, y.u) = n_1) ∧
 (pointer (some ⟨x_9.b, 0, none⟩) = pointer (some ⟨y.b, 0, none⟩) ∧
 pointer (some ⟨x_9.b3, 0, none⟩) = pointer (some ⟨y.b3, 0, none⟩) ∧ slice x_9.r.a x_9.r.n x_9.r.cap = slice y.r.a y.r.n y.r.cap ∧ int i64 x_9.u = int i64 y.u ∧ bool false = bool (peF x y.u y.k) ∧ slice x.s.a x.s.n x.s.cap = slice x.s.a x.s.n x.s.cap ∧ int i64 (↑x.s.n : Int) = int i64 (↑x.s.n : Int) ∧ int i64 (↑x_9.i : Int) = int i64 (↑y.i : Int) ∧ slice x.s.a x.s.n x.s.cap = slice x.s.a x.s.n x.s.cap ∧ int i64 (↑x.s.n : Int) = int i64 (↑x.s.n : Int) ∧ int i64 ((↑x_9.k : Int) + (1 : Int)) = int i64 (↑y.k : Int) ∧ True) ∧
 Ent [(0, Atom.cells x_9.b (chS x.c x.w) 28), (1, Atom.cells x_9.b3 [slice x.g.a x.g.n x.g.cap, slice x.s.a x.s.n x.s.cap, slice x.m.a x.m.n x.m.cap, string x.name, bool x.ev, slice x.hs.a x.hs.n x.hs.cap] 68), (2, x_9.r.A), (3, F)]
 [(0, Atom.cells y.b (chS x.c x.w) 28), (1, Atom.cells y.b3 [slice x.g.a x.g.n x.g.cap, slice x.s.a x.s.n x.s.cap, slice x.m.a x.m.n x.m.cap, string x.name, bool x.ev, slice x.hs.a x.hs.n x.hs.cap] 68), (2, y.r.A), (3, F)] ∧
 x.ts.length - y.k < x.ts.length - x_9.k)))
 (Br (!peF x x_9.u x_9.k) (Done (mvC fun (c : ChD) => newB c = true) x F (Ending.returned (bool false)) [(0, Atom.cells x_9.b (chS x.c x.w) 28), (1, Atom.cells x_9.b3 [slice x.g.a x.g.n x.g.cap, slice x.s.a x.s.n x.s.cap, slice x.m.a x.m.n x.m.cap, string x.name, bool x.ev, slice x.hs.a x.hs.n x.hs.cap] 68), (2, x_9.r.A), (3, F)])
 (((-9223372036854775808 : Int) ≤ (↑x_9.i : Int) + (1 : Int) ∧ (↑x_9.i : Int) + (1 : Int) ≤ (9223372036854775807 : Int)) ∧
 ∃ (y : PeI),
 PeP2 x y ∧
 (pointer (some ⟨x_9.b, 0, none⟩) = pointer (some ⟨y.b, 0, none⟩) ∧ pointer (some ⟨x_9.b3, 0, none⟩) = pointer (some ⟨y.b3, 0, none⟩) ∧ slice x_9.r.a x_9.r.n x_9.r.cap = slice y.r.a y.r.n y.r.cap ∧ slice x.s.a x.s.n x.s.cap = slice x.s.a x.s.n x.s.cap ∧ int i64 (↑x.s.n : Int) = int i64 (↑x.s.n : Int) ∧ int i64 ((↑x_9.i : Int) + (1 : Int)) = int i64 (↑y.i : Int) ∧ True) ∧
 Ent [(0, Atom.cells x_9.b (chS x.c x.w) 28), (1, Atom.cells x_9.b3 [slice x.g.a x.g.n x.g.cap, slice x.s.a x.s.n x.s.cap, slice x.m.a x.m.n x.m.cap, string x.name, bool x.ev, slice x.hs.a x.hs.n x.hs.cap] 68), (2, x_9.r.A), (3, F)]
 [(0, Atom.cells y.b (chS x.c x.w) 28), (1, Atom.cells y.b3 [slice x.g.a x.g.n x.g.cap, slice x.s.a x.s.n x.s.cap, slice x.m.a x.m.n x.m.cap, string x.name, bool x.ev, slice x.hs.a x.hs.n x.hs.cap] 68), (2, y.r.A), (3, F)] ∧
 x.ts.length - y.i < x.ts.length - x_6.i))))))
 (Done (mvC fun (c : ChD) => newB c = true) x F (Ending.returned (bool true)) [(0, Atom.cells x_6.b (chS x.c x.w) 28), (1, Atom.cells x_6.b3 [slice x.g.a x.g.n x.g.cap, slice x.s.a x.s.n x.s.cap, slice x.m.a x.m.n x.m.cap, string x.name, bool x.ev, slice x.hs.a x.hs.n x.hs.cap] 68), (2, x_6.r.A), (3, F)]))) := by
  obtain ⟨c, w, ⟨ga, gn, gc⟩, cf, ⟨sa, sn, sc⟩, ts, ⟨ma, mn, mc⟩, mem, name, ev, hs⟩ := x
  obtain ⟨hnew, hok⟩ := hc
  replace hr : MvIn F _ := hr
  obtain ⟨g1, g2, s1, s2⟩ := hok
  dsimp only at hnew g1 g2 s1 s2 ⊢
  have hpl := (newB_spec.1 hnew).1
  have htl := (newB_spec.1 hnew).2.1
  obtain ⟨hch, hcf, hts, hm⟩ := id hr
  dsimp only at hch hcf hts hm
  have htn : w.vt.n = c.trs.length := by
    have h2 : SlIn F (TrIn F) 6 88 (.slice w.vt.a w.vt.n w.vt.cap) c.trs := hch.trs
    exact h2.num.1
  have hsl : ts.length = sn := by have := s1.len; rw [ints_length] at this; omega
  have hpe := peace c mem cf ts
  have hkl : (resV c mem cf ts).length * 8 ≤ 140737488351232 := by
    have := resS_len c mem cf ts ([], [])
    simp only [List.length_nil] at this
    unfold resV
    unfold resS
    omega
  intro b b3
  refine ⟨aw15_ok, rfl, (), rfl, rfl, trivial, trivial, fun _ _ => ?_⟩
  iterate 14 refine ⟨⟨rfl, rfl⟩, ?_⟩
  refine ⟨lge_ok, rfl, ⟨c, w, ⟨ga, gn, gc⟩, cf, ⟨sa, sn, sc⟩, ts, ⟨ma, mn, mc⟩, mem, name, ev, hs⟩, rfl, rfl, trivial, hr.sub (sub_rest 0 (by simp) rfl), fun y _ => br_intro (fun _ => ⟨(), trivial, rfl, Ent.pick [0] rfl rfl⟩) (fun _ => ?_)⟩
  iterate 8 refine ⟨⟨rfl, rfl⟩, ?_⟩
  refine ⟨newY_ok, rfl, ⟨c, w⟩, rfl, rfl, hnew, hch.sub (sub_rest 0 (by simp) rfl), fun z hz => ?_⟩
  replace hz : LatIn z.G z.b c := hz
  iterate 3 refine ⟨⟨rfl, rfl⟩, ?_⟩
  refine ⟨rs_ok, rfl, ⟨z.b, c, ⟨ga, gn, gc⟩, cf, ⟨ma, mn, mc⟩, mem, ⟨sa, sn, sc⟩, ts⟩, rfl, rfl, ⟨hnew, ⟨g1, g2⟩, s1, s2⟩, ⟨hz.sub (sub_rest 6010 (by simp) rfl), Srcd.sub (A := F) (sub_rest 0 (by simp) rfl) hcf, hm.sub (sub_rest 0 (by simp) rfl), Srcd.sub (A := F) (sub_rest 0 (by simp) rfl) hts⟩, fun r hr0 => ?_⟩
  replace hr0 : IsRow 3 1 (ints (resV c mem cf ts)) r := hr0
  refine ⟨⟨⟨b, b3, r, 0, 0, 0⟩, ⟨hr0, Nat.zero_le _⟩, ⟨rfl, rfl, rfl, rfl, rfl, rfl, trivial⟩, Ent.pick [1000, 1010, 9070, 0] rfl rfl⟩, ?_⟩
  clear hr0 hz r z b b3
  rintro ⟨b, b3, r, i, k0, u0⟩ js ⟨hrow, hi⟩
  dsimp only at hrow hi ⊢
  have hrl : r.n = (resV c mem cf ts).length := by have := hrow.len; rw [ints_length] at this; omega
  have hrle := hrow.le
  refine br_decide (fun hlt => ?_) (fun hge => ⟨⟨rfl, rfl⟩, ⟨⟨b, b3, r, 0, 0, 0⟩, ⟨hrow, Nat.zero_le _⟩, ⟨rfl, rfl, rfl, rfl, rfl, rfl, trivial⟩, Ent.pick [0, 1, 2, 3] rfl rfl⟩, ?_⟩)
  · obtain ⟨u, hu⟩ : ∃ u, (resV c mem cf ts)[i]? = some u := ⟨_, List.getElem?_eq_getElem (by omega)⟩
    have hin : u ∈ ts := hpe.from_ u (hpe.kept u (List.mem_of_getElem? hu))
    obtain ⟨b5, hb5⟩ := hrow.at0 (by omega)
    have elook : ∀ (k : Nat) (v : Int), (resV c mem cf ts)[k]? = some v → Look r.A ⟨b5, 0 + (k : Int).toNat * 1, none⟩ (.int .i64 v) := fun k v hv => by
      have hsr := hrow.srcd
      rw [hb5] at hsr
      rw [show 0 + (k : Int).toNat * 1 = 0 + k by omega]
      exact hsr.look (ints_get hv)
    refine ⟨ixq_ok 1 rfl rfl rfl rfl, ⟨b5, 0, r.n, r.cap, i⟩, by rw [hb5], by dsimp only; omega, u, elook i u hu, ⟨rfl, rfl⟩, am_ok, rfl, ⟨sa, sn, sc, ts, u⟩, rfl, rfl, ⟨s1, s2⟩, Srcd.sub (A := F) (sub_rest 3 (by simp) rfl) hts, fun _ _ => br_intro (fun h1 => ?_) (fun _ => ?_)⟩
    · dsimp only at h1
      rw [memB_iff.2 hin] at h1; cases h1
    · refine ⟨slq_ok rfl rfl rfl, ⟨r.a, r.n, r.cap, i⟩, rfl, by dsimp only; omega, i, ⟨⟨b, b3, r, i, 0, u⟩, ⟨⟨hrow, hu, Nat.zero_le _⟩, rfl⟩, ⟨rfl, rfl, rfl, rfl, rfl, rfl, rfl, by dsimp only; rw [Int.toNat_natCast], by dsimp only; rw [Int.toNat_natCast], rfl, trivial⟩, Ent.pick [0, 1, 2, 3] rfl rfl⟩, ?_⟩
      have hil : i < (resV c mem cf ts).length := by omega
      clear elook hb5 b5 hrle
      rintro ⟨b, b3, r, i', k, u'⟩ js ⟨⟨hrow, q2, hk⟩, ej⟩
      dsimp only at hrow q2 hk ej ⊢
      subst ej
      obtain rfl : u = u' := by rw [hu] at q2; exact Option.some.inj q2
      have hrl : r.n = (resV c mem cf ts).length := by have := hrow.len; rw [ints_length] at this; omega
      refine br_decide (fun hlt2 => ?_) (fun hge2 => ⟨⟨by omega, by omega⟩, ⟨b, b3, r, i' + 1, 0, 0⟩, ⟨hrow, by dsimp only; omega⟩, ⟨rfl, rfl, rfl, rfl, rfl, rfl, trivial⟩, Ent.pick [0, 1, 2, 3] rfl rfl, by dsimp only; omega⟩)
      obtain ⟨v, hv⟩ : ∃ v, (resV c mem cf ts)[k]? = some v := ⟨_, List.getElem?_eq_getElem (by omega)⟩
      obtain ⟨b5, hb5⟩ := hrow.at0 (by omega)
      have elook : Look r.A ⟨b5, 0 + (k : Int).toNat * 1, none⟩ (.int .i64 v) := by
        have hsr := hrow.srcd
        rw [hb5] at hsr
        rw [show 0 + (k : Int).toNat * 1 = 0 + k by omega]
        exact hsr.look (ints_get hv)
      have hpw : u ≠ v ∧ cfl c mem cf u v = false := by
        obtain ⟨hk1, hk2⟩ := List.getElem?_eq_some_iff.1 hv
        obtain ⟨hi1, hi2⟩ := List.getElem?_eq_some_iff.1 hu
        have := List.pairwise_iff_getElem.1 hpe.pw k i' hk1 hi1 (by omega)
        change (resV c mem cf ts)[i'] ≠ (resV c mem cf ts)[k] ∧ cfl c mem cf (resV c mem cf ts)[i'] (resV c mem cf ts)[k] = false at this
        rw [hk2, hi2] at this
        exact this
      refine ⟨ixq_ok 1 rfl rfl rfl rfl, ⟨b5, 0, i', r.cap, k⟩, by rw [hb5], by dsimp only; omega, v, elook, br_intro (fun h1 => ?_) (fun _ => ?_)⟩
      · exact absurd (by simpa using h1) hpw.1
      · iterate 10 refine ⟨⟨rfl, rfl⟩, ?_⟩
        refine ⟨cn_ok, rfl, ⟨c, w, ⟨ga, gn, gc⟩, cf, ⟨ma, mn, mc⟩, mem, u, v⟩, rfl, rfl, ⟨hnew, g1, g2⟩, ⟨hch.sub (sub_rest 3 (by simp) rfl), Srcd.sub (A := F) (sub_rest 3 (by simp) rfl) hcf, hm.sub (sub_rest 3 (by simp) rfl)⟩, fun _ _ => br_intro (fun h1 => ?_) (fun _ => ⟨⟨by omega, by omega⟩, ⟨b, b3, r, i', k + 1, u⟩, ⟨⟨hrow, hu, by dsimp only; omega⟩, rfl⟩, ⟨rfl, rfl, rfl, rfl, rfl, rfl, rfl, rfl, rfl, rfl, trivial⟩, Ent.pick [0, 1, 2, 3] rfl rfl, by dsimp only; omega⟩)⟩
        dsimp only at h1
        rw [hpw.2] at h1; cases h1
  · clear hge hrle hrl hi hrow r k0 u0 i b b3
    rintro ⟨b, b3, r, i, k0, u0⟩ js ⟨hrow, hi⟩
    dsimp only at hrow hi ⊢
    have hrl : r.n = (resV c mem cf ts).length := by have := hrow.len; rw [ints_length] at this; omega
    refine br_decide (fun hlt => ?_) (fun hge => ⟨(), trivial, rfl, Ent.pick [3] rfl rfl⟩)
    obtain ⟨b1, o1, rfl⟩ := s1.some (by omega)
    obtain ⟨u, hu⟩ : ∃ u, ts[i]? = some u := ⟨_, List.getElem?_eq_getElem (by omega)⟩
    have e1 : ∀ k : Nat, o1 + (k : Int).toNat * 1 = o1 + k := fun k => by omega
    have go : ∃ y : PeI, PeP2 ⟨c, w, ⟨ga, gn, gc⟩, cf, ⟨some ⟨b1, o1, none⟩, sn, sc⟩, ts, ⟨ma, mn, mc⟩, mem, name, ev, hs⟩ y ∧ y.i = i + 1 ∧ y.b = b ∧ y.b3 = b3 ∧ y.r = r := ⟨⟨b, b3, r, i + 1, 0, 0⟩, ⟨hrow, by dsimp only; omega⟩, rfl, rfl, rfl, rfl⟩
    refine ⟨ixq_ok 1 rfl rfl rfl rfl, ⟨b1, o1, sn, sc, i⟩, rfl, by dsimp only; omega, u, by dsimp only; rw [e1]; exact hts.look (ints_get hu), br_decide (fun h1 => ⟨⟨by omega, by omega⟩, ⟨b, b3, r, i + 1, 0, 0⟩, ⟨hrow, by dsimp only; omega⟩, ⟨rfl, rfl, rfl, rfl, rfl, rfl, trivial⟩, Ent.pick [0, 1, 2, 3] rfl rfl, by dsimp only; omega⟩) (fun h1 => ⟨⟨rfl, rfl⟩, br_decide (fun h2 => ⟨⟨by omega, by omega⟩, ⟨b, b3, r, i + 1, 0, 0⟩, ⟨hrow, by dsimp only; omega⟩, ⟨rfl, rfl, rfl, rfl, rfl, rfl, trivial⟩, Ent.pick [0, 1, 2, 3] rfl rfl, by dsimp only; omega⟩) (fun h2 => ⟨am_ok, rfl, ⟨r.a, r.n, r.cap, _, u⟩, rfl, rfl, ⟨hrow.src, by dsimp only; omega⟩, Srcd.sub (A := r.A) (sub_rest 2 (by simp) rfl) hrow.srcd, fun _ _ => br_intro (fun h3 => ⟨⟨by omega, by omega⟩, ⟨b, b3, r, i + 1, 0, 0⟩, ⟨hrow, by dsimp only; omega⟩, ⟨rfl, rfl, rfl, rfl, rfl, rfl, trivial⟩, Ent.pick [0, 1, 2, 3] rfl rfl, by dsimp only; omega⟩) (fun h3 => ?_)⟩)⟩)⟩
    clear go
    dsimp only at h3
    have hT : isT c u = true := by unfold isT; rw [decide_eq_true (show u ≥ 0 by omega), decide_eq_true (show u < (c.trs.length : Int) by omega)]; rfl
    have hno : u ∉ resV c mem cf ts := fun hm => by
      have h3' : memB (resV c mem cf ts) u = false := h3
      rw [memB_iff.2 hm] at h3'; cases h3'
    refine ⟨⟨rfl, rfl⟩, (i, u), ⟨⟨b, b3, r, i, 0, u⟩, ⟨⟨hrow, hu, hT, hno, Nat.zero_le _⟩, rfl⟩, ⟨rfl, rfl, rfl, rfl, rfl, rfl, rfl, rfl, rfl, rfl, rfl, trivial⟩, Ent.pick [0, 1, 2, 3] rfl rfl⟩, ?_⟩
    clear hrl hrow r b b3 h1 h2 h3
    rintro ⟨b, b3, r, i', k, u'⟩ js ⟨⟨hrow, -, -, -, hk⟩, ej⟩
    dsimp only at hrow hk ej ⊢
    obtain ⟨rfl, rfl⟩ : i' = i ∧ u' = u := by simpa using ej
    refine br_decide (fun hlt2 => ?_) (fun hge2 => ?_)
    · obtain ⟨o, ho⟩ : ∃ o, ts[k]? = some o := ⟨_, List.getElem?_eq_getElem (by omega)⟩
      have hst : ∀ B : Bool, ((o != u') && (decide (o ≥ 0) && (decide (o < c.trs.length) && cfl c mem cf u' o))) = B → peF ⟨c, w, ⟨ga, gn, gc⟩, cf, ⟨some ⟨b1, o1, none⟩, sn, sc⟩, ts, ⟨ma, mn, mc⟩, mem, name, ev, hs⟩ u' (k + 1) = (peF ⟨c, w, ⟨ga, gn, gc⟩, cf, ⟨some ⟨b1, o1, none⟩, sn, sc⟩, ts, ⟨ma, mn, mc⟩, mem, name, ev, hs⟩ u' k || B) := fun B hB => by
        unfold peF
        dsimp only
        rw [List.take_add_one, ho, List.any_append]
        show (_ || ((((o != u') && (decide (o ≥ 0) && (decide (o < c.trs.length) && cfl c mem cf u' o)))) || false)) = _
        rw [Bool.or_false, hB]
      refine ⟨ixq_ok 1 rfl rfl rfl rfl, ⟨b1, o1, sn, sc, k⟩, rfl, by dsimp only; omega, o, by dsimp only; rw [e1]; exact hts.look (ints_get ho), br_intro (fun h1 => ⟨⟨by omega, by omega⟩, ⟨b, b3, r, i', k + 1, u'⟩, ⟨⟨hrow, hu, hT, hno, by dsimp only; omega⟩, rfl⟩, ⟨rfl, rfl, rfl, rfl, ?_, rfl, rfl, rfl, rfl, rfl, rfl, trivial⟩, Ent.pick [0, 1, 2, 3] rfl rfl, by dsimp only; omega⟩) (fun h1 => br_intro (fun h2 => br_decide (fun h3 => ⟨⟨rfl, rfl⟩, br_decide (fun h4 => ?_) (fun h4 => ⟨⟨by omega, by omega⟩, ⟨b, b3, r, i', k + 1, u'⟩, ⟨⟨hrow, hu, hT, hno, by dsimp only; omega⟩, rfl⟩, ⟨rfl, rfl, rfl, rfl, ?_, rfl, rfl, rfl, rfl, rfl, rfl, trivial⟩, Ent.pick [0, 1, 2, 3] rfl rfl, by dsimp only; omega⟩)⟩) (fun h3 => ⟨⟨by omega, by omega⟩, ⟨b, b3, r, i', k + 1, u'⟩, ⟨⟨hrow, hu, hT, hno, by dsimp only; omega⟩, rfl⟩, ⟨rfl, rfl, rfl, rfl, ?_, rfl, rfl, rfl, rfl, rfl, rfl, trivial⟩, Ent.pick [0, 1, 2, 3] rfl rfl, by dsimp only; omega⟩)) (fun h2 => ⟨⟨by omega, by omega⟩, ⟨b, b3, r, i', k + 1, u'⟩, ⟨⟨hrow, hu, hT, hno, by dsimp only; omega⟩, rfl⟩, ⟨rfl, rfl, rfl, rfl, ?_, rfl, rfl, rfl, rfl, rfl, rfl, trivial⟩, Ent.pick [0, 1, 2, 3] rfl rfl, by dsimp only; omega⟩))⟩
      · dsimp only
        rw [hst _ rfl, h1]; rfl
      · iterate 10 refine ⟨⟨rfl, rfl⟩, ?_⟩
        refine ⟨cn_ok, rfl, ⟨c, w, ⟨ga, gn, gc⟩, cf, ⟨ma, mn, mc⟩, mem, u', o⟩, rfl, rfl, ⟨hnew, g1, g2⟩, ⟨hch.sub (sub_rest 3 (by simp) rfl), Srcd.sub (A := F) (sub_rest 3 (by simp) rfl) hcf, hm.sub (sub_rest 3 (by simp) rfl)⟩, fun _ _ => ⟨⟨by omega, by omega⟩, ⟨b, b3, r, i', k + 1, u'⟩, ⟨⟨hrow, hu, hT, hno, by dsimp only; omega⟩, rfl⟩, ⟨rfl, rfl, rfl, rfl, ?_, rfl, rfl, rfl, rfl, rfl, rfl, trivial⟩, Ent.pick [0, 1, 2, 3] rfl rfl, by dsimp only; omega⟩⟩
        dsimp only
        rw [hst (cfl c mem cf u' o) (by rw [h2, decide_eq_true h3, decide_eq_true (show o < (c.trs.length : Int) by omega)]; rfl), h1]; rfl
      · dsimp only
        rw [hst false (by rw [decide_eq_false (show ¬ o < (c.trs.length : Int) by omega)]; simp), h1]; rfl
      · dsimp only
        rw [hst false (by rw [decide_eq_false h3]; simp), h1]; rfl
      · dsimp only
        rw [hst false (by rw [h2]; rfl), h1]; rfl
    · have hF : peF ⟨c, w, ⟨ga, gn, gc⟩, cf, ⟨some ⟨b1, o1, none⟩, sn, sc⟩, ts, ⟨ma, mn, mc⟩, mem, name, ev, hs⟩ u' k = true := by
        unfold peF
        dsimp only
        rw [List.take_of_length_le (by omega)]
        obtain ⟨o, h1, h2, h3⟩ := hpe.rej u' (hpe.all u' (List.mem_of_getElem? hu) hT) hno
        have h4 := isT_rng (hpe.val o h1)
        exact List.any_eq_true.2 ⟨o, hpe.from_ o h1, by rw [h3, decide_eq_true (show o ≥ 0 by omega), decide_eq_true (show o < (c.trs.length : Int) by omega)]; simpa using h2⟩
      rw [hF]
      refine br_intro (fun h1 => by cases h1) (fun _ => ⟨⟨by omega, by omega⟩, ⟨b, b3, r, i' + 1, 0, 0⟩, ⟨hrow, by dsimp only; omega⟩, ⟨rfl, rfl, rfl, rfl, rfl, rfl, trivial⟩, Ent.pick [0, 1, 2, 3] rfl rfl, by dsimp only; omega⟩)
set_option maxRecDepth 100000 in
theorem peY_ok : FnOk Try.prog 8 (mvC fun c => newB c = true) :=
  fnOk (N := 131) (by kernel_rfl) Try.func8 rfl (by kernel_rfl) (fun _ => Nat.le_of_ble_eq_true rfl) peY_H [] fun x F hc hr => Eq.mpr (by kernel_rfl) (peY_vc x F hc hr)
end Go.Proofs.Ytkmdgnbfojkcnaa
