/- The law LatticeCommon. -/
import Derived.Test.YtfmadkaiigiaiaaLatP
import Derived.Test.YtfmadkaiigiaiaaLatO
set_option linter.all false
namespace Go.Proofs.Ytfmadkaiigiaiaa
open Go
set_option maxHeartbeats 1000000
structure LawX where
  c : ChD
  w : ChS
  a : Option Addr
  n : Nat
  cap : Nat
  xs : List Int
def lawC (Q : ChD → Prop) : Con where
  X := LawX
  Y := Unit
  args x := [.agg #[.string x.c.name, .bool x.c.late, .int .i64 x.c.script, .slice x.w.vs.a x.w.vs.n x.w.vs.cap, .slice x.w.vt.a x.w.vt.n x.w.vt.cap, .slice x.w.vb.a x.w.vb.n x.w.vb.cap, .slice x.w.vd.a x.w.vd.n x.w.vd.cap, .slice x.w.vi.a x.w.vi.n x.w.vi.cap], .slice x.a x.n x.cap]
  pre _ := []
  cond x := Q x.c ∧ IsSrc 1 (ints x.xs) x.a x.n ∧ x.n * 8 ≤ 140737488351232
  rdc x F := ChIn F x.w.v x.c ∧ Srcd F x.a (ints x.xs)
  rel _ _ := True
  val _ _ := .returned (.bool true)
  post _ _ := []
  rmono _ _ _ h hk := ⟨hk.1.sub h, hk.2.sub h⟩
theorem law_split {f : FuncId} (h1 : FnOk Try.prog f (lawC fun c => newB c = true)) (h2 : FnOk Try.prog f (lawC fun c => newB c = false)) : FnOk Try.prog f (lawC fun _ => True) := by
  refine ⟨fun x F I w hc hr hs => ?_⟩
  cases h : newB x.c with
  | true => exact h1.h x F I w ⟨h, hc.2⟩ hr hs
  | false => exact h2.h x F I w ⟨h, hc.2⟩ hr hs
structure LcI where
  k : Nat
  b : Nat
  G : Atom
  j : Nat
def lcA (x : LawX) (k j : Nat) : Bool := decide ((x.n : Int) > 0) && decide (kd x.c k ≤ 1) && (x.xs.take j).all fun a => inB x.c a k
def lcInv (x : LawX) (F : Atom) : Nat → Option Inv := fun
  | 0 => some { X := LcI, P := fun i => LatIn i.G i.b x.c ∧ i.k ≤ nS x.c, mu := fun i => nS x.c - i.k, lv := fun i => [(1, .slice x.a x.n x.cap), (5, .pointer (some ⟨i.b, 0, none⟩)), (7, .int .i64 (comV x.c x.xs)), (35, .slice x.w.vs.a x.w.vs.n x.w.vs.cap), (36, .int .i64 x.w.vs.n), (37, .int .i64 i.k)], st := fun i => [F, i.G] }
  | 2 => some { X := LcI, P := fun i => LatIn i.G i.b x.c ∧ i.k < nS x.c ∧ i.j ≤ x.n, gh := some ⟨Nat, fun i => i.k⟩, mu := fun i => x.n - i.j, lv := fun i => [(1, .slice x.a x.n x.cap), (5, .pointer (some ⟨i.b, 0, none⟩)), (7, .int .i64 (comV x.c x.xs)), (8, .int .i64 i.k), (10, .bool (lcA x i.k i.j)), (35, .slice x.w.vs.a x.w.vs.n x.w.vs.cap), (36, .int .i64 x.w.vs.n), (37, .int .i64 i.k), (50, .slice x.a x.n x.cap), (51, .int .i64 x.n), (52, .int .i64 i.j)], st := fun i => [F, i.G] }
  | 4 => some { X := LcI, P := fun i => LatIn i.G i.b x.c ∧ i.j ≤ x.n, mu := fun i => x.n - i.j, lv := fun i => [(5, .pointer (some ⟨i.b, 0, none⟩)), (7, .int .i64 (comV x.c x.xs)), (78, .slice x.a x.n x.cap), (79, .int .i64 x.n), (80, .int .i64 i.j)], st := fun i => [F, i.G] }
  | _ => none
def lcCut (x : LawX) (F : Atom) : Nat → Option Inv := fun
  | 13 => some { X := LcI, P := fun i => LatIn i.G i.b x.c ∧ i.k < nS x.c, gh := some ⟨Nat, fun i => i.k⟩, mu := fun _ => 0, lv := fun i => [(1, .slice x.a x.n x.cap), (5, .pointer (some ⟨i.b, 0, none⟩)), (7, .int .i64 (comV x.c x.xs)), (8, .int .i64 i.k), (10, .bool (lcA x i.k 0)), (35, .slice x.w.vs.a x.w.vs.n x.w.vs.cap), (36, .int .i64 x.w.vs.n), (37, .int .i64 i.k)], st := fun i => [F, i.G] }
  | _ => none
def lcOv (_x : LawX) (_F : Atom) : List (Nat × Nat × OH) := [(0, 0, .n 1000), (1, 0, .c awC [] []), (3, 0, .q (at8 1000)), (3, 1, .c largeC [] []), (5, 0, .q (at8 1000)), (5, 1, .c newYC [] [6010]), (8, 2, .c comC [] []), (9, 1, .q [.atj 1000]), (11, 1, .qo (ixQ 13)), (11, 2, .q sh13), (11, 3, .n 12030), (11, 5, .w (at13 12030)), (12, 5, .q [.atj 12030]), (15, 0, .qo (ixQ 1)), (15, 1, .q [.ex 0 (.int .i64)]), (16, 5, .c insideC [] []), (18, 10, .c insideC [] []), (23, 0, .qo (ixQ 1)), (23, 1, .q [.ex 0 (.int .i64)]), (24, 6, .c insideC [] [])]
def lcOvN (_x : LawX) (_F : Atom) : List (Nat × Nat × OH) := [(0, 0, .n 1000), (1, 0, .c awC [] []), (3, 0, .q (at8 1000)), (3, 1, .c largeC [] []), (5, 0, .q (at8 1000)), (5, 1, .c newNC [] [])]
noncomputable def lcY_H (x : Con.X (lawC fun c => newB c = true)) (F : Atom) : Hints where
  op := hk ((lcOv x F) ++ [])
  inv := lcInv x F
  cut := lcCut x F
  ord := (fun _ => [])
open Go.Value (int slice string bool pointer agg tuple func) in
open Go.IntKind (i64) in
set_option maxRecDepth 100000 in
theorem lcY_vc (x : LawX) (F : Atom) (hc : Con.cond (lawC fun c => newB c = true) x) (hr : Con.rdc (lawC fun c => newB c = true) x F) :
  ∀ (b : Nat),
 FnOk Try.prog 9 awC ∧
 true = true ∧
 ∃ (x_1 : Unit),
 ([] : List Value) = [] ∧
 ([] : List Atom) = [] ∧
 True ∧
 True ∧
 ∀ (y : Unit),
 True →
 Same ⟨b, 0, none⟩ b ∧
 Same ⟨b, 1, none⟩ b ∧
 Same ⟨b, 2, none⟩ b ∧
 Same ⟨b, 3, none⟩ b ∧
 Same ⟨b, 4, none⟩ b ∧
 Same ⟨b, 5, none⟩ b ∧
 Same ⟨b, 6, none⟩ b ∧
 Same ⟨b, 7, none⟩ b ∧
 FnOk Try.prog 10 largeC ∧
 true = true ∧
 ∃ (x_2 : ClnCX),
 [agg { toList := [string x.c.name, bool x.c.late, int i64 x.c.script, slice x.w.vs.a x.w.vs.n x.w.vs.cap, slice x.w.vt.a x.w.vt.n x.w.vt.cap, slice x.w.vb.a x.w.vb.n x.w.vb.cap, slice x.w.vd.a x.w.vd.n x.w.vd.cap, slice x.w.vi.a x.w.vi.n x.w.vi.cap] }] = [agg { toList := [string x_2.c.name, bool x_2.c.late, int i64 x_2.c.script, slice x_2.w.vs.a x_2.w.vs.n x_2.w.vs.cap, slice x_2.w.vt.a x_2.w.vt.n x_2.w.vt.cap, slice x_2.w.vb.a x_2.w.vb.n x_2.w.vb.cap, slice x_2.w.vd.a x_2.w.vd.n x_2.w.vd.cap, slice x_2.w.vi.a x_2.w.vi.n x_2.w.vi.cap] }] ∧
 ([] : List Atom) = [] ∧
 True ∧
 ChIn (Atom.pred (rest [(0, F), (1000, Atom.cells b [string x.c.name, bool x.c.late, int i64 x.c.script, slice x.w.vs.a x.w.vs.n x.w.vs.cap, slice x.w.vt.a x.w.vt.n x.w.vt.cap, slice x.w.vb.a x.w.vb.n x.w.vb.cap, slice x.w.vd.a x.w.vd.n x.w.vd.cap, slice x.w.vi.a x.w.vi.n x.w.vi.cap] 28)] [])) x_2.w.v x_2.c ∧
 ∀ (y : Unit),
 True →
 Br (largeB x_2.c) (Done (lawC fun (c : ChD) => newB c = true) x F (Ending.returned (bool true)) [(0, F), (1000, Atom.cells b [string x.c.name, bool x.c.late, int i64 x.c.script, slice x.w.vs.a x.w.vs.n x.w.vs.cap, slice x.w.vt.a x.w.vt.n x.w.vt.cap, slice x.w.vb.a x.w.vb.n x.w.vb.cap, slice x.w.vd.a x.w.vd.n x.w.vd.cap, slice x.w.vi.a x.w.vi.n x.w.vi.cap] 28)])
 (Br (decide ((↑x.n : Int) > (50 : Int))) (Done (lawC fun (c : ChD) => newB c = true) x F (Ending.returned (bool true)) [(0, F), (1000, Atom.cells b [string x.c.name, bool x.c.late, int i64 x.c.script, slice x.w.vs.a x.w.vs.n x.w.vs.cap, slice x.w.vt.a x.w.vt.n x.w.vt.cap, slice x.w.vb.a x.w.vb.n x.w.vb.cap, slice x.w.vd.a x.w.vd.n x.w.vd.cap, slice x.w.vi.a x.w.vi.n x.w.vi.cap] 28)])
 (Same ⟨b, 0, none⟩ b ∧
 Same ⟨b, 1, none⟩ b ∧
 Same ⟨b, 2, none⟩ b ∧
 Same ⟨b, 3, none⟩ b ∧
 Same ⟨b, 4, none⟩ b ∧
 Same ⟨b, 5, none⟩ b ∧
 Same ⟨b, 6, none⟩ b ∧
 Same ⟨b, 7, none⟩ b ∧
 FnOk Try.prog 11 newYC ∧
 true = true ∧
 ∃ (x_3 : ClnCX),
 [agg { toList := [string x.c.name, bool x.c.late, int i64 x.c.script, slice x.w.vs.a x.w.vs.n x.w.vs.cap, slice x.w.vt.a x.w.vt.n x.w.vt.cap, slice x.w.vb.a x.w.vb.n x.w.vb.cap, slice x.w.vd.a x.w.vd.n x.w.vd.cap, slice x.w.vi.a x.w.vi.n x.w.vi.cap] }] = [agg { toList := [string x_3.c.name, bool x_3.c.late, int i64 x_3.c.script, slice x_3.w.vs.a x_3.w.vs.n x_3.w.vs.cap, slice x_3.w.vt.a x_3.w.vt.n x_3.w.vt.cap, slice x_3.w.vb.a x_3.w.vb.n x_3.w.vb.cap, slice x_3.w.vd.a x_3.w.vd.n x_3.w.vd.cap, slice x_3.w.vi.a x_3.w.vi.n x_3.w.vi.cap] }] ∧
 ([] : List Atom) = [] ∧
 newB x_3.c = true ∧
 ChIn (Atom.pred (rest [(0, F), (1000, Atom.cells b [string x.c.name, bool x.c.late, int i64 x.c.script, slice x.w.vs.a x.w.vs.n x.w.vs.cap, slice x.w.vt.a x.w.vt.n x.w.vt.cap, slice x.w.vb.a x.w.vb.n x.w.vb.cap, slice x.w.vd.a x.w.vd.n x.w.vd.cap, slice x.w.vi.a x.w.vi.n x.w.vi.cap] 28)] [])) x_3.w.v x_3.c ∧
 ∀ (y : NewY),
 LatIn y.G y.b x_3.c →
 FnOk Try.prog 21 comC ∧
 true = true ∧
 ∃ (x_4 : CmX),
 [pointer (some ⟨y.b, 0, none⟩), slice x.a x.n x.cap] = [pointer (some ⟨x_4.b, 0, none⟩), slice x_4.a x_4.n x_4.cap] ∧
 ([] : List Atom) = [] ∧
 (IsSrc 1 (ints x_4.xs) x_4.a x_4.n ∧ x_4.n * 8 ≤ 140737488351232) ∧
 (LatIn (Atom.pred (rest [(0, F), (1000, Atom.cells b [string x.c.name, bool x.c.late, int i64 x.c.script, slice x.w.vs.a x.w.vs.n x.w.vs.cap, slice x.w.vt.a x.w.vt.n x.w.vt.cap, slice x.w.vb.a x.w.vb.n x.w.vb.cap, slice x.w.vd.a x.w.vd.n x.w.vd.cap, slice x.w.vi.a x.w.vi.n x.w.vi.cap] 28), (6010, y.G)] [])) x_4.b x_4.c ∧ Srcd (Atom.pred (rest [(0, F), (1000, Atom.cells b [string x.c.name, bool x.c.late, int i64 x.c.script, slice x.w.vs.a x.w.vs.n x.w.vs.cap, slice x.w.vt.a x.w.vt.n x.w.vt.cap, slice x.w.vb.a x.w.vb.n x.w.vb.cap, slice x.w.vd.a x.w.vd.n x.w.vd.cap, slice x.w.vi.a x.w.vi.n x.w.vi.cap] 28), (6010, y.G)] [])) x_4.a (ints x_4.xs)) ∧
 ∀ (y_1 : Unit),
 True →
 Same ⟨b, 3, none⟩ b ∧
 (∃ (x_5 : LcI),
 (LatIn x_5.G x_5.b x.c ∧ x_5.k ≤ nS x.c) ∧
 (slice x.a x.n x.cap = slice x.a x.n x.cap ∧ pointer (some ⟨y.b, 0, none⟩) = pointer (some ⟨x_5.b, 0, none⟩) ∧ int i64 (comV x_4.c x_4.xs) = int i64 (comV x.c x.xs) ∧ slice x.w.vs.a x.w.vs.n x.w.vs.cap = slice x.w.vs.a x.w.vs.n x.w.vs.cap ∧ int i64 (↑x.w.vs.n : Int) = int i64 (↑x.w.vs.n : Int) ∧ int i64 (0 : Int) = int i64 (↑x_5.k : Int) ∧ True) ∧
 Ent [(0, F), (1000, Atom.cells b [string x.c.name, bool x.c.late, int i64 x.c.script, slice x.w.vs.a x.w.vs.n x.w.vs.cap, slice x.w.vt.a x.w.vt.n x.w.vt.cap, slice x.w.vb.a x.w.vb.n x.w.vb.cap, slice x.w.vd.a x.w.vd.n x.w.vd.cap, slice x.w.vi.a x.w.vi.n x.w.vi.cap] 28), (6010, y.G)] [(0, F), (1, x_5.G)]) ∧
 ∀ (x_5 : LcI) (js : Nat → Value),
 LatIn x_5.G x_5.b x.c ∧ x_5.k ≤ nS x.c →
 Br (decide ((↑x_5.k : Int) < (↑x.w.vs.n : Int)))
 (QOpOk Try.prog (opIn Try.f5 11 1) (ixQ 13) ∧
 ∃ (x_6 : IxQX),
 [slice x.w.vs.a x.w.vs.n x.w.vs.cap, int i64 (↑x_5.k : Int)] = [slice (some ⟨x_6.b, x_6.o, none⟩) x_6.len x_6.cap, int i64 x_6.n] ∧
 ((0 : Int) ≤ x_6.n ∧ x_6.n < (↑x_6.len : Int)) ∧
 ∃ (s : ByteArray),
 Look F ⟨x_6.b, x_6.o + x_6.n.toNat * 13, none⟩ (string s) ∧
 ∃ (n : Int),
 Look F ⟨x_6.b, x_6.o + x_6.n.toNat * 13 + 1, none⟩ (int i64 n) ∧
 ∃ (n_1 : Int),
 Look F ⟨x_6.b, x_6.o + x_6.n.toNat * 13 + 2, none⟩ (int i64 n_1) ∧
 ∃ (a : Option Addr),
 ∃ (l : Nat),
 ∃ (c : Nat),
 Look F ⟨x_6.b, x_6.o + x_6.n.toNat * 13 + 3, none⟩ (slice a l c) ∧
 ∃ (n_2 : Int),
 Look F ⟨x_6.b, x_6.o + x_6.n.toNat * 13 + 4, none⟩ (int i64 n_2) ∧
 ∃ (a_1 : Option Addr),
 ∃ (l_1 : Nat),
 ∃ (c_1 : Nat),
 Look F ⟨x_6.b, x_6.o + x_6.n.toNat * 13 + 5, none⟩ (slice a_1 l_1 c_1) ∧
 ∃ (a_2 : Option Addr),
 ∃ (l_2 : Nat),
 ∃ (c_2 : Nat),
 Look F ⟨x_6.b, x_6.o + x_6.n.toNat * 13 + 6, none⟩ (slice a_2 l_2 c_2) ∧
 ∃ (a_3 : Option Addr),
 ∃ (l_3 : Nat),
 ∃ (c_3 : Nat),
 Look F ⟨x_6.b, x_6.o + x_6.n.toNat * 13 + 7, none⟩ (slice a_3 l_3 c_3) ∧
 ∃ (a_4 : Option Addr),
 ∃ (l_4 : Nat),
 ∃ (c_4 : Nat),
 Look F ⟨x_6.b, x_6.o + x_6.n.toNat * 13 + 8, none⟩ (slice a_4 l_4 c_4) ∧
 ∃ (a_5 : Option Addr),
 ∃ (l_5 : Nat),
 ∃ (c_5 : Nat),
 Look F ⟨x_6.b, x_6.o + x_6.n.toNat * 13 + 9, none⟩ (slice a_5 l_5 c_5) ∧
 ∃ (n_3 : Int),
 Look F ⟨x_6.b, x_6.o + x_6.n.toNat * 13 + 10, none⟩ (int i64 n_3) ∧
 ∃ (a_6 : Option Addr),
 ∃ (l_6 : Nat),
 ∃ (c_6 : Nat),
 Look F ⟨x_6.b, x_6.o + x_6.n.toNat * 13 + 11, none⟩ (slice a_6 l_6 c_6) ∧
 ∃ (s_1 : ByteArray),
 Look F ⟨x_6.b, x_6.o + x_6.n.toNat * 13 + 12, none⟩ (string s_1) ∧
 ∀ (b : Nat),
 Same ⟨b, 0, none⟩ b ∧
 Same ⟨b, 1, none⟩ b ∧
 Same ⟨b, 2, none⟩ b ∧
 Same ⟨b, 3, none⟩ b ∧
 Same ⟨b, 4, none⟩ b ∧
 Same ⟨b, 5, none⟩ b ∧
 Same ⟨b, 6, none⟩ b ∧
 Same ⟨b, 7, none⟩ b ∧
 Same ⟨b, 8, none⟩ b ∧
 Same ⟨b, 9, none⟩ b ∧
 Same ⟨b, 10, none⟩ b ∧
 Same ⟨b, 11, none⟩ b ∧
 Same ⟨b, 12, none⟩ b ∧
 ∃ (n_4 : Nat),
 Br (decide ((↑x.n : Int) > (0 : Int)))
 (Same ⟨b, 1, none⟩ b ∧
 ∃ (x_7 : LcI),
 ((LatIn x_7.G x_7.b x.c ∧ x_7.k < nS x.c) ∧ x_7.k = n_4) ∧
 (slice x.a x.n x.cap = slice x.a x.n x.cap ∧ pointer (some ⟨x_5.b, 0, none⟩) = pointer (some ⟨x_7.b, 0, none⟩) ∧ int i64 (comV x.c x.xs) = int i64 (comV x.c x.xs) ∧ int i64 (↑x_5.k : Int) = int i64 (↑x_7.k : Int) ∧ bool (decide (n ≤ (1 : Int))) = bool (lcA x x_7.k 0) ∧ slice x.w.vs.a x.w.vs.n x.w.vs.cap = slice x.w.vs.a x.w.vs.n x.w.vs.cap ∧ int i64 (↑x.w.vs.n : Int) = int i64 (↑x.w.vs.n : Int) ∧ int i64 (↑x_5.k : Int) = int i64 (↑x_7.k : Int) ∧ True) ∧
 Ent [(0, F), (1, x_5.G), (12030, Atom.cells b [string s, int i64 n, int i64 n_1, slice a l c, int i64 n_2, slice a_1 l_1 c_1, slice a_2 l_2 c_2, slice a_3 l_3 c_3, slice a_4 l_4 c_4, slice a_5 l_5 c_5, int i64 n_3, slice a_6 l_6 c_6, string s_1] 61)] [(0, F), (1, x_7.G)])
 (∃ (x_7 : LcI),
 ((LatIn x_7.G x_7.b x.c ∧ x_7.k < nS x.c) ∧ x_7.k = n_4) ∧
 (slice x.a x.n x.cap = slice x.a x.n x.cap ∧ pointer (some ⟨x_5.b, 0, none⟩) = pointer (some ⟨x_7.b, 0, none⟩) ∧ int i64 (comV x.c x.xs) = int i64 (comV x.c x.xs) ∧ int i64 (↑x_5.k : Int) = int i64 (↑x_7.k : Int) ∧ bool false = bool (lcA x x_7.k 0) ∧ slice x.w.vs.a x.w.vs.n x.w.vs.cap = slice x.w.vs.a x.w.vs.n x.w.vs.cap ∧ int i64 (↑x.w.vs.n : Int) = int i64 (↑x.w.vs.n : Int) ∧ int i64 (↑x_5.k : Int) = int i64 (↑x_7.k : Int) ∧ True) ∧
 Ent [(0, F), (1, x_5.G), (12030, Atom.cells b [string s, int i64 n, int i64 n_1, slice a l c, int i64 n_2, slice a_1 l_1 c_1, slice a_2 l_2 c_2, slice a_3 l_3 c_3, slice a_4 l_4 c_4, slice a_5 l_5 c_5, int i64 n_3, slice a_6 l_6 c_6, string s_1] 61)] [(0, F), (1, x_7.G)]) ∧
 ∀ (x_7 : LcI) (js : Nat → Value),
 (LatIn x_7.G x_7.b x.c ∧ x_7.k < nS x.c) ∧ x_7.k = n_4 →
 ∃ (n : Nat),
 (∃ (x_8 : LcI),
 ((LatIn x_8.G x_8.b x.c ∧ x_8.k < nS x.c ∧ x_8.j ≤ x.n) ∧ x_8.k = n) ∧
 (slice x.a x.n x.cap = slice x.a x.n x.cap ∧
 pointer (some ⟨x_7.b, 0, none⟩) = pointer (some ⟨x_8.b, 0, none⟩) ∧
 int i64 (comV x.c x.xs) = int i64 (comV x.c x.xs) ∧ int i64 (↑x_7.k : Int) = int i64 (↑x_8.k : Int) ∧ bool (lcA x x_7.k 0) = bool (lcA x x_8.k x_8.j) ∧ slice x.w.vs.a x.w.vs.n x.w.vs.cap = slice x.w.vs.a x.w.vs.n x.w.vs.cap ∧ int i64 (↑x.w.vs.n : Int) = int i64 (↑x.w.vs.n : Int) ∧ int i64 (↑x_7.k : Int) = int i64 (↑x_8.k : Int) ∧ slice x.a x.n x.cap = slice x.a x.n x.cap ∧ int i64 (↑x.n : Int) = int i64 (↑x.n : Int) ∧ int i64 (0 : Int) = int i64 (↑x_8.j : Int) ∧ True) ∧
 Ent [(0, F), (1, x_7.G)] [(0, F), (1, x_8.G)]) ∧
 ∀ (x_8 : LcI) (js : Nat → Value),
 (LatIn x_8.G x_8.b x.c ∧ x_8.k < nS x.c ∧ x_8.j ≤ x.n) ∧ x_8.k = n →
 Br (decide ((↑x_8.j : Int) < (↑x.n : Int)))
 (QOpOk Try.prog (opIn Try.f5 15 0) (ixQ 1) ∧
 ∃ (x_9 : IxQX),
 [slice x.a x.n x.cap, int i64 (↑x_8.j : Int)] = [slice (some ⟨x_9.b, x_9.o, none⟩) x_9.len x_9.cap, int i64 x_9.n] ∧
 ((0 : Int) ≤ x_9.n ∧ x_9.n < (↑x_9.len : Int)) ∧
 ∃ (n_5 : Int),
 Look F ⟨x_9.b, x_9.o + x_9.n.toNat * 1, none⟩ (int i64 n_5) ∧
 Br (lcA x x_8.k x_8.j)
 (FnOk Try.prog 15 insideC ∧
 true = true ∧
 ∃ (x_10 : L2X),
 [pointer (some ⟨x_8.b, 0, none⟩), int i64 n_5, int i64 (↑x_8.k : Int)] = [pointer (some ⟨x_10.b, 0, none⟩), int i64 x_10.a, int i64 x_10.d] ∧
 ([] : List Atom) = [] ∧
 True ∧
 LatIn (Atom.pred (rest [(0, F), (1, x_8.G)] [])) x_10.b x_10.c ∧
 ∀ (y : Unit),
 True →
 ((-9223372036854775808 : Int) ≤ (↑x_8.j : Int) + (1 : Int) ∧ (↑x_8.j : Int) + (1 : Int) ≤ (9223372036854775807 : Int)) ∧
 ∃ (y : LcI),
 ((LatIn y.G y.b x.c ∧ y.k < nS x.c ∧ y.j ≤ x.n) ∧ y.k = n) ∧
 (slice x.a x.n x.cap = slice x.a x.n x.cap ∧
 pointer (some ⟨x_8.b, 0, none⟩) = pointer (some ⟨y.b, 0, none⟩) ∧
 int i64 (comV x.c x.xs) = int i64 (comV x.c x.xs) ∧ int i64 (↑x_8.k : Int) = int i64 (↑y.k : Int) ∧ bool (inB x_10.c x_10.a x_10.d) = bool (lcA x y.k y.j) ∧ slice x.w.vs.a x.w.vs.n x.w.vs.cap = slice x.w.vs.a x.w.vs.n x.w.vs.cap ∧ int i64 (↑x.w.vs.n : Int) = int i64 (↑x.w.vs.n : Int) ∧ int i64 (↑x_8.k : Int) = int i64 (↑y.k : Int) ∧ slice x.a x.n x.cap = slice x.a x.n x.cap ∧ int i64 (↑x.n : Int) = int i64 (↑x.n : Int) ∧ int i64 ((↑x_8.j : Int) + (1 : Int)) = int i64 (↑y.j : Int) ∧ True) ∧
 Ent [(0, F), (1, x_8.G)] [(0, F), (1, y.G)] ∧ x.n - y.j < x.n - x_8.j)
 (((-9223372036854775808 : Int) ≤ (↑x_8.j : Int) + (1 : Int) ∧ (↑x_8.j : Int) + (1 : Int) ≤ (9223372036854775807 : Int)) ∧
 ∃ (y : LcI),
 ((LatIn y.G y.b x.c ∧ y.k < nS x.c ∧ y.j ≤ x.n) ∧ y.k = n) ∧
 (slice x.a x.n x.cap = slice x.a x.n x.cap ∧
 pointer (some ⟨x_8.b, 0, none⟩) = pointer (some ⟨y.b, 0, none⟩) ∧
 int i64 (comV x.c x.xs) = int i64 (comV x.c x.xs) ∧ int i64 (↑x_8.k : Int) = int i64 (↑y.k : Int) ∧ bool false = bool (lcA x y.k y.j) ∧ slice x.w.vs.a x.w.vs.n x.w.vs.cap = slice x.w.vs.a x.w.vs.n x.w.vs.cap ∧ int i64 (↑x.w.vs.n : Int) = int i64 (↑x.w.vs.n : Int) ∧ int i64 (↑x_8.k : Int) = int i64 (↑y.k : Int) ∧ slice x.a x.n x.cap = slice x.a x.n x.cap ∧ int i64 (↑x.n : Int) = int i64 (↑x.n : Int) ∧ int i64 ((↑x_8.j : Int) + (1 : Int)) = int i64 (↑y.j : Int) ∧ True) ∧
 Ent [(0, F), (1, x_8.G)] [(0, F), (1, y.G)] ∧ x.n - y.j < x.n - x_8.j))
 (Br (lcA x x_8.k x_8.j)
 (Br ((↑x_8.k : Int) != comV x.c x.xs)
 (FnOk Try.prog 15 insideC ∧
 true = true ∧
 ∃ (x_9 : L2X),
 [pointer (some ⟨x_8.b, 0, none⟩), int i64 (comV x.c x.xs), int i64 (↑x_8.k : Int)] = [pointer (some ⟨x_9.b, 0, none⟩), int i64 x_9.a, int i64 x_9.d] ∧
 ([] : List Atom) = [] ∧
 True ∧
 LatIn (Atom.pred (rest [(0, F), (1, x_8.G)] [])) x_9.b x_9.c ∧
 ∀ (y : Unit),
 True →
 Br (!inB x_9.c x_9.a x_9.d) (Done (lawC fun (c : ChD) => newB c = true) x F (Ending.returned (bool false)) [(0, F), (1, x_8.G)])
 (((-9223372036854775808 : Int) ≤ (↑x_8.k : Int) + (1 : Int) ∧ (↑x_8.k : Int) + (1 : Int) ≤ (9223372036854775807 : Int)) ∧
 ∃ (y : LcI), (LatIn y.G y.b x.c ∧ y.k ≤ nS x.c) ∧ (slice x.a x.n x.cap = slice x.a x.n x.cap ∧ pointer (some ⟨x_8.b, 0, none⟩) = pointer (some ⟨y.b, 0, none⟩) ∧ int i64 (comV x.c x.xs) = int i64 (comV x.c x.xs) ∧ slice x.w.vs.a x.w.vs.n x.w.vs.cap = slice x.w.vs.a x.w.vs.n x.w.vs.cap ∧ int i64 (↑x.w.vs.n : Int) = int i64 (↑x.w.vs.n : Int) ∧ int i64 ((↑x_8.k : Int) + (1 : Int)) = int i64 (↑y.k : Int) ∧ True) ∧ Ent [(0, F), (1, x_8.G)] [(0, F), (1, y.G)] ∧ nS x.c - y.k < nS x.c - x_5.k))
 (((-9223372036854775808 : Int) ≤ (↑x_8.k : Int) + (1 : Int) ∧ (↑x_8.k : Int) + (1 : Int) ≤ (9223372036854775807 : Int)) ∧
 ∃ (y : LcI), (LatIn y.G y.b x.c ∧ y.k ≤ nS x.c) ∧ (slice x.a x.n x.cap = slice x.a x.n x.cap ∧ pointer (some ⟨x_8.b, 0, none⟩) = pointer (some ⟨y.b, 0, none⟩) ∧ int i64 (comV x.c x.xs) = int i64 (comV x.c x.xs) ∧ slice x.w.vs.a x.w.vs.n x.w.vs.cap = slice x.w.vs.a x.w.vs.n x.w.vs.cap ∧ int i64 (↑x.w.vs.n : Int) = int i64 (↑x.w.vs.n : Int) ∧ int i64 ((↑x_8.k : Int) + (1 : Int)) = int i64 (↑y.k : Int) ∧ True) ∧ Ent [(0, F), (1, x_8.G)] [(0, F), (1, y.G)] ∧ nS x.c - y.k < nS x.c - x_5.k))
 (((-9223372036854775808 : Int) ≤ (↑x_8.k : Int) + (1 : Int) ∧ (↑x_8.k : Int) + (1 : Int) ≤ (9223372036854775807 : Int)) ∧
 ∃ (y : LcI), (LatIn y.G y.b x.c ∧ y.k ≤ nS x.c) ∧ (slice x.a x.n x.cap = slice x.a x.n x.cap ∧ pointer (some ⟨x_8.b, 0, none⟩) = pointer (some ⟨y.b, 0, none⟩) ∧ int i64 (comV x.c x.xs) = int i64 (comV x.c x.xs) ∧ slice x.w.vs.a x.w.vs.n x.w.vs.cap = slice x.w.vs.a x.w.vs.n x.w.vs.cap ∧ int i64 (↑x.w.vs.n : Int) = int i64 (↑x.w.vs.n : Int) ∧ int i64 ((↑x_8.k : Int) + (1 : Int)) = int i64 (↑y.k : Int) ∧ True) ∧ Ent [(0, F), (1, x_8.G)] [(0, F), (1, y.G)] ∧ nS x.c - y.k < nS x.c - x_5.k)))
 ((∃ (x_6 : LcI), (LatIn x_6.G x_6.b x.c ∧ x_6.j ≤ x.n) ∧ (pointer (some ⟨x_5.b, 0, none⟩) = pointer (some ⟨x_6.b, 0, none⟩) ∧ int i64 (comV x.c x.xs) = int i64 (comV x.c x.xs) ∧ slice x.a x.n x.cap = slice x.a x.n x.cap ∧ int i64 (↑x.n : Int) = int i64 (↑x.n : Int) ∧ int i64 (0 : Int) = int i64 (↑x_6.j : Int) ∧ True) ∧ Ent [(0, F), (1, x_5.G)] [(0, F), (1, x_6.G)]) ∧
 ∀ (x_6 : LcI) (js : Nat → Value),
 LatIn x_6.G x_6.b x.c ∧ x_6.j ≤ x.n →
 Br (decide ((↑x_6.j : Int) < (↑x.n : Int)))
 (QOpOk Try.prog (opIn Try.f5 23 0) (ixQ 1) ∧
 ∃ (x_7 : IxQX),
 [slice x.a x.n x.cap, int i64 (↑x_6.j : Int)] = [slice (some ⟨x_7.b, x_7.o, none⟩) x_7.len x_7.cap, int i64 x_7.n] ∧
 ((0 : Int) ≤ x_7.n ∧ x_7.n < (↑x_7.len : Int)) ∧
 ∃ (n : Int),
 Look F ⟨x_7.b, x_7.o + x_7.n.toNat * 1, none⟩ (int i64 n) ∧
 Br (decide (comV x.c x.xs ≥ (0 : Int)))
 (FnOk Try.prog 15 insideC ∧
 true = true ∧
 ∃ (x_8 : L2X),
 [pointer (some ⟨x_6.b, 0, none⟩), int i64 n, int i64 (comV x.c x.xs)] = [pointer (some ⟨x_8.b, 0, none⟩), int i64 x_8.a, int i64 x_8.d] ∧
 ([] : List Atom) = [] ∧
 True ∧
 LatIn (Atom.pred (rest [(0, F), (1, x_6.G)] [])) x_8.b x_8.c ∧
 ∀ (y : Unit),
 True →
 Br (!inB x_8.c x_8.a x_8.d) (Done (lawC fun (c : ChD) => newB c = true) x F (Ending.returned (bool false)) [(0, F), (1, x_6.G)])
 (((-9223372036854775808 : Int) ≤ (↑x_6.j : Int) + (1 : Int) ∧ (↑x_6.j : Int) + (1 : Int) ≤ (9223372036854775807 : Int)) ∧ ∃ (y : LcI), (LatIn y.G y.b x.c ∧ y.j ≤ x.n) ∧ (pointer (some ⟨x_6.b, 0, none⟩) = pointer (some ⟨y.b, 0, none⟩) ∧ int i64 (comV x.c x.xs) = int i64 (comV x.c x.xs) ∧ slice x.a x.n x.cap = slice x.a x.n x.cap ∧ int i64 (↑x.n : Int) = int i64 (↑x.n : Int) ∧ int i64 ((↑x_6.j : Int) + (1 : Int)) = int i64 (↑y.j : Int) ∧ True) ∧ Ent [(0, F), (1, x_6.G)] [(0, F), (1, y.G)] ∧ x.n - y.j < x.n - x_6.j))
 (((-9223372036854775808 : Int) ≤ (↑x_6.j : Int) + (1 : Int) ∧ (↑x_6.j : Int) + (1 : Int) ≤ (9223372036854775807 : Int)) ∧ ∃ (y : LcI), (LatIn y.G y.b x.c ∧ y.j ≤ x.n) ∧ (pointer (some ⟨x_6.b, 0, none⟩) = pointer (some ⟨y.b, 0, none⟩) ∧ int i64 (comV x.c x.xs) = int i64 (comV x.c x.xs) ∧ slice x.a x.n x.cap = slice x.a x.n x.cap ∧ int i64 (↑x.n : Int) = int i64 (↑x.n : Int) ∧ int i64 ((↑x_6.j : Int) + (1 : Int)) = int i64 (↑y.j : Int) ∧ True) ∧ Ent [(0, F), (1, x_6.G)] [(0, F), (1, y.G)] ∧ x.n - y.j < x.n - x_6.j))
 (Done (lawC fun (c : ChD) => newB c = true) x F (Ending.returned (bool (decide (comV x.c x.xs ≥ (-1 : Int))))) [(0, F), (1, x_6.G)])))) := by
  obtain ⟨c, ⟨⟨va, vn, vcap⟩, wt, wb, wd, wi⟩, a, n, cap, xs⟩ := x
  obtain ⟨hnew, hsrc, hle⟩ := hc
  obtain ⟨hr, hx⟩ := hr
  dsimp only at hnew hsrc hle hx
  replace hr : ChIn F _ c := hr
  have h1 := hr.sts
  dsimp only [ChS.v] at h1
  obtain ⟨hn, hncap, -⟩ := h1.num
  have hnS : vn = nS c := hn
  have hlen : xs.length = n := by have := hsrc.len; rw [ints_length] at this; omega
  have hp : Placed c := (newB_spec.1 hnew).1
  have hn128 := hp.n128
  have look : ∀ (b o i : Nat) (u : Int), a = some ⟨b, o, none⟩ → xs[i]? = some u → Look F ⟨b, o + (i : Int).toNat * 1, none⟩ (.int .i64 u) := by
    intro b o i u e hu
    subst e
    have : o + (i : Int).toNat * 1 = o + i := by omega
    rw [this]
    exact hx.look (ints_get hu)
  intro b1
  refine ⟨aw_ok, rfl, (), rfl, rfl, trivial, trivial, fun _ _ => ?_⟩
  iterate 8 refine ⟨⟨rfl, rfl⟩, ?_⟩
  refine ⟨large_ok, rfl, ⟨c, ⟨⟨va, vn, vcap⟩, wt, wb, wd, wi⟩⟩, rfl, rfl, trivial, hr.sub (sub_rest 0 (by simp) rfl), fun _ _ => br_intro (fun _ => ⟨(), trivial, rfl, Ent.pick [0] rfl rfl⟩) (fun _ => br_decide (fun _ => ⟨(), trivial, rfl, Ent.pick [0] rfl rfl⟩) (fun h50 => ?_))⟩
  dsimp only at h50
  iterate 8 refine ⟨⟨rfl, rfl⟩, ?_⟩
  refine ⟨newY_ok, rfl, ⟨c, ⟨⟨va, vn, vcap⟩, wt, wb, wd, wi⟩⟩, rfl, rfl, hnew, hr.sub (sub_rest 0 (by simp) rfl), fun z hz => ?_⟩
  replace hz : LatIn z.G z.b c := hz
  refine ⟨com_ok, rfl, ⟨z.b, c, a, n, cap, xs⟩, rfl, rfl, ⟨hsrc, hle⟩, ⟨hz.sub (sub_rest 6010 (by simp) rfl), hx.sub (sub_rest 0 (by simp) rfl)⟩, fun _ _ => ⟨⟨rfl, rfl⟩, ⟨⟨0, z.b, z.G, 0⟩, ⟨hz, Nat.zero_le _⟩, ⟨rfl, rfl, rfl, rfl, rfl, rfl, trivial⟩, Ent.pick [0, 6010] rfl rfl⟩, ?_⟩⟩
  clear hz z b1
  rintro ⟨k, b, G, j0⟩ js ⟨hG, hk⟩
  dsimp only at hG hk ⊢
  refine br_decide (fun hlt => ?_) (fun hge => ?_)
  · have hkS : k < nS c := by omega
    obtain ⟨s, hs⟩ := get_st hkS
    obtain ⟨b0, o0, r, rfl, ⟨vk, ve, vx, vt, vd, vi, vp, rfl, p1, p2, p3, p4, p5, p6, p7⟩, hL⟩ := h1.at' hs
    obtain ⟨ka, kc, rfl, -⟩ := SlIn.open p1
    obtain ⟨ea, ec, rfl, -⟩ := SlIn.open p2
    obtain ⟨xa, xc, rfl, -⟩ := SlIn.open p3
    obtain ⟨ta, tc, rfl, -⟩ := SlIn.open p4
    obtain ⟨da, dc, rfl, -⟩ := SlIn.open p5
    obtain ⟨ia, ic, rfl, -⟩ := SlIn.open p6
    obtain ⟨pa, pc, rfl, -⟩ := SlIn.open p7
    have ek := kd_get hs
    refine ⟨ixq_ok 13 rfl rfl rfl rfl, ⟨b0, o0, vn, vcap, k⟩, rfl, by dsimp only; omega, s.id, hL 0 _ rfl, s.kind, hL 1 _ rfl, s.parent, hL 2 _ rfl, _, _, _, hL 3 _ rfl, s.init, hL 4 _ rfl, _, _, _, hL 5 _ rfl, _, _, _, hL 6 _ rfl, _, _, _, hL 7 _ rfl, _, _, _, hL 8 _ rfl, _, _, _, hL 9 _ rfl, s.done.kind, hL 10 _ rfl, _, _, _, hL 11 _ rfl, s.done.body, hL 12 _ rfl, fun bs => ?_⟩
    iterate 13 refine ⟨⟨rfl, rfl⟩, ?_⟩
    refine ⟨k, br_decide (fun h0 => ⟨⟨rfl, rfl⟩, ⟨k, b, G, 0⟩, ⟨⟨hG, hkS⟩, rfl⟩, ⟨rfl, rfl, rfl, rfl, ?_, rfl, rfl, rfl, trivial⟩, Ent.pick [0, 1] rfl rfl⟩) (fun h0 => ⟨⟨k, b, G, 0⟩, ⟨⟨hG, hkS⟩, rfl⟩, ⟨rfl, rfl, rfl, rfl, ?_, rfl, rfl, rfl, trivial⟩, Ent.pick [0, 1] rfl rfl⟩), ?_⟩
    · unfold lcA
      rw [decide_eq_true h0, ek, List.take_zero]; simp
    · unfold lcA
      rw [decide_eq_false h0]; simp
    clear hG
    rintro ⟨k', b, G, j0⟩ js2 ⟨⟨hG, _⟩, hkk⟩
    dsimp only at hG hkk ⊢
    subst hkk
    refine ⟨k', ⟨⟨k', b, G, 0⟩, ⟨⟨hG, hkS, Nat.zero_le _⟩, rfl⟩, ⟨rfl, rfl, rfl, rfl, rfl, rfl, rfl, rfl, rfl, rfl, rfl, trivial⟩, Ent.pick [0, 1] rfl rfl⟩, ?_⟩
    clear hG
    rintro ⟨k2, b, G, j⟩ js3 ⟨⟨hG, _, hj⟩, hkk⟩
    dsimp only at hG hj hkk ⊢
    subst hkk
    refine br_decide (fun hlt2 => ?_) (fun hge2 => ?_)
    · obtain ⟨u, hu⟩ : ∃ u, xs[j]? = some u := ⟨_, List.getElem?_eq_getElem (by omega)⟩
      obtain ⟨b2, o2, e2⟩ := hsrc.some (by omega)
      have step : ∀ m : Nat, lcA ⟨c, ⟨⟨some ⟨b0, o0, none⟩, vn, vcap⟩, wt, wb, wd, wi⟩, a, n, cap, xs⟩ m (j + 1) = (lcA ⟨c, ⟨⟨some ⟨b0, o0, none⟩, vn, vcap⟩, wt, wb, wd, wi⟩, a, n, cap, xs⟩ m j && inB c u m) := by
        intro m
        unfold lcA
        dsimp only
        rw [take_g hu, List.all_append]
        simp [Bool.and_assoc]
      refine ⟨ixq_ok 1 rfl rfl rfl rfl, ⟨b2, o2, n, cap, j⟩, by rw [e2], by dsimp only; omega, u, look b2 o2 j u e2 hu, br_intro (fun q => ⟨inside_ok, rfl, ⟨b, c, u, k2⟩, rfl, rfl, trivial, hG.sub (sub_rest 1 (by simp) rfl), fun _ _ => ⟨by omega, ⟨k2, b, G, j + 1⟩, ⟨⟨hG, hkS, by dsimp only; omega⟩, rfl⟩, ⟨rfl, rfl, rfl, rfl, ?_, rfl, rfl, rfl, rfl, rfl, rfl, trivial⟩, Ent.pick [0, 1] rfl rfl, by dsimp only; omega⟩⟩) (fun q => ⟨by omega, ⟨k2, b, G, j + 1⟩, ⟨⟨hG, hkS, by dsimp only; omega⟩, rfl⟩, ⟨rfl, rfl, rfl, rfl, ?_, rfl, rfl, rfl, rfl, rfl, rfl, trivial⟩, Ent.pick [0, 1] rfl rfl, by dsimp only; omega⟩)⟩
      · rw [step, q, Bool.true_and]
      · rw [step, q, Bool.false_and]
    · have hjn : j = xs.length := by omega
      refine br_intro (fun q1 => br_intro (fun q2 => ⟨inside_ok, rfl, ⟨b, c, comV c xs, k2⟩, rfl, rfl, trivial, hG.sub (sub_rest 1 (by simp) rfl), fun _ _ => br_intro (fun q3 => ?_) (fun q3 => ?_)⟩) (fun q2 => ?_)) (fun q1 => ?_)
      · exfalso
        unfold lcA at q1
        simp only [Bool.and_eq_true, decide_eq_true_eq, List.all_eq_true] at q1
        obtain ⟨⟨g1, g2⟩, g3⟩ := q1
        rw [hjn, List.take_length] at g3
        have hne : xs ≠ [] := by
          intro e
          rw [e] at hlen
          simp at hlen
          omega
        rcases com_best c hp xs k2 hkS hne g2 g3 with h | h
        · rw [h] at q2; simp at q2
        · dsimp only at q3
          rw [h] at q3; cases q3
      all_goals exact ⟨by omega, ⟨k2 + 1, b, G, 0⟩, ⟨hG, hkS⟩, ⟨rfl, rfl, rfl, rfl, rfl, rfl, trivial⟩, Ent.pick [0, 1] rfl rfl, by dsimp only; omega⟩
  · refine ⟨⟨⟨0, b, G, 0⟩, ⟨hG, Nat.zero_le _⟩, ⟨rfl, rfl, rfl, rfl, rfl, trivial⟩, Ent.pick [0, 1] rfl rfl⟩, ?_⟩
    clear hG
    rintro ⟨k0, b, G, j⟩ js2 ⟨hG, hj⟩
    dsimp only at hG hj ⊢
    obtain ⟨cg1, cg2⟩ := com_ge c hp xs
    refine br_decide (fun hlt => ?_) (fun hge => ⟨(), trivial, retB (decide_eq_true cg1), Ent.pick [0] rfl rfl⟩)
    obtain ⟨u, hu⟩ : ∃ u, xs[j]? = some u := ⟨_, List.getElem?_eq_getElem (by omega)⟩
    obtain ⟨b2, o2, e2⟩ := hsrc.some (by omega)
    refine ⟨ixq_ok 1 rfl rfl rfl rfl, ⟨b2, o2, n, cap, j⟩, by rw [e2], by dsimp only; omega, u, look b2 o2 j u e2 hu, br_decide (fun q => ⟨inside_ok, rfl, ⟨b, c, u, comV c xs⟩, rfl, rfl, trivial, hG.sub (sub_rest 1 (by simp) rfl), fun _ _ => br_intro (fun q3 => ?_) (fun q3 => ?_)⟩) (fun q => ?_)⟩
    · exfalso
      have := cg2 q u (List.mem_of_getElem? hu)
      dsimp only at q3
      rw [this] at q3; cases q3
    all_goals exact ⟨by omega, ⟨0, b, G, j + 1⟩, ⟨hG, by dsimp only; omega⟩, ⟨rfl, rfl, rfl, rfl, rfl, trivial⟩, Ent.pick [0, 1] rfl rfl, by dsimp only; omega⟩
set_option maxRecDepth 100000 in
theorem lcY_ok : FnOk Try.prog 5 (lawC fun c => newB c = true) :=
  fnOk (N := 96) (by kernel_rfl) Try.func5 rfl (by kernel_rfl) (fun _ => Nat.le_of_ble_eq_true rfl) lcY_H [] fun x F hc hr => Eq.mpr (by kernel_rfl) (lcY_vc x F hc hr)
noncomputable def lcN_H (x : Con.X (lawC fun c => newB c = false)) (F : Atom) : Hints where
  op := hk ((lcOvN x F) ++ [])
  inv := (fun _ _ _ => none) x F
  cut := (fun _ _ _ => none) x F
  ord := (fun _ => [])
open Go.Value (int slice string bool pointer agg tuple func) in
open Go.IntKind (i64) in
set_option maxRecDepth 100000 in
theorem lcN_vc (x : LawX) (F : Atom) (hc : Con.cond (lawC fun c => newB c = false) x) (hr : Con.rdc (lawC fun c => newB c = false) x F) :
  ∀ (b : Nat),
 FnOk Try.prog 9 awC ∧
 true = true ∧
 ∃ (x_1 : Unit),
 ([] : List Value) = [] ∧
 ([] : List Atom) = [] ∧
 True ∧
 True ∧
 ∀ (y : Unit),
 True →
 Same ⟨b, 0, none⟩ b ∧
 Same ⟨b, 1, none⟩ b ∧
 Same ⟨b, 2, none⟩ b ∧
 Same ⟨b, 3, none⟩ b ∧
 Same ⟨b, 4, none⟩ b ∧
 Same ⟨b, 5, none⟩ b ∧
 Same ⟨b, 6, none⟩ b ∧
 Same ⟨b, 7, none⟩ b ∧
 FnOk Try.prog 10 largeC ∧
 true = true ∧
 ∃ (x_2 : ClnCX),
 [agg { toList := [string x.c.name, bool x.c.late, int i64 x.c.script, slice x.w.vs.a x.w.vs.n x.w.vs.cap, slice x.w.vt.a x.w.vt.n x.w.vt.cap, slice x.w.vb.a x.w.vb.n x.w.vb.cap, slice x.w.vd.a x.w.vd.n x.w.vd.cap, slice x.w.vi.a x.w.vi.n x.w.vi.cap] }] = [agg { toList := [string x_2.c.name, bool x_2.c.late, int i64 x_2.c.script, slice x_2.w.vs.a x_2.w.vs.n x_2.w.vs.cap, slice x_2.w.vt.a x_2.w.vt.n x_2.w.vt.cap, slice x_2.w.vb.a x_2.w.vb.n x_2.w.vb.cap, slice x_2.w.vd.a x_2.w.vd.n x_2.w.vd.cap, slice x_2.w.vi.a x_2.w.vi.n x_2.w.vi.cap] }] ∧
 ([] : List Atom) = [] ∧
 True ∧
 ChIn (Atom.pred (rest [(0, F), (1000, Atom.cells b [string x.c.name, bool x.c.late, int i64 x.c.script, slice x.w.vs.a x.w.vs.n x.w.vs.cap, slice x.w.vt.a x.w.vt.n x.w.vt.cap, slice x.w.vb.a x.w.vb.n x.w.vb.cap, slice x.w.vd.a x.w.vd.n x.w.vd.cap, slice x.w.vi.a x.w.vi.n x.w.vi.cap] 28)] [])) x_2.w.v x_2.c ∧
 ∀ (y : Unit),
 True →
 Br (largeB x_2.c) (Done (lawC fun (c : ChD) => newB c = false) x F (Ending.returned (bool true)) [(0, F), (1000, Atom.cells b [string x.c.name, bool x.c.late, int i64 x.c.script, slice x.w.vs.a x.w.vs.n x.w.vs.cap, slice x.w.vt.a x.w.vt.n x.w.vt.cap, slice x.w.vb.a x.w.vb.n x.w.vb.cap, slice x.w.vd.a x.w.vd.n x.w.vd.cap, slice x.w.vi.a x.w.vi.n x.w.vi.cap] 28)])
 (Br (decide ((↑x.n : Int) > (50 : Int))) (Done (lawC fun (c : ChD) => newB c = false) x F (Ending.returned (bool true)) [(0, F), (1000, Atom.cells b [string x.c.name, bool x.c.late, int i64 x.c.script, slice x.w.vs.a x.w.vs.n x.w.vs.cap, slice x.w.vt.a x.w.vt.n x.w.vt.cap, slice x.w.vb.a x.w.vb.n x.w.vb.cap, slice x.w.vd.a x.w.vd.n x.w.vd.cap, slice x.w.vi.a x.w.vi.n x.w.vi.cap] 28)])
 (Same ⟨b, 0, none⟩ b ∧
 Same ⟨b, 1, none⟩ b ∧
 Same ⟨b, 2, none⟩ b ∧
 Same ⟨b, 3, none⟩ b ∧
 Same ⟨b, 4, none⟩ b ∧
 Same ⟨b, 5, none⟩ b ∧
 Same ⟨b, 6, none⟩ b ∧
 Same ⟨b, 7, none⟩ b ∧
 FnOk Try.prog 11 newNC ∧
 true = true ∧
 ∃ (x_3 : ClnCX),
 [agg { toList := [string x.c.name, bool x.c.late, int i64 x.c.script, slice x.w.vs.a x.w.vs.n x.w.vs.cap, slice x.w.vt.a x.w.vt.n x.w.vt.cap, slice x.w.vb.a x.w.vb.n x.w.vb.cap, slice x.w.vd.a x.w.vd.n x.w.vd.cap, slice x.w.vi.a x.w.vi.n x.w.vi.cap] }] = [agg { toList := [string x_3.c.name, bool x_3.c.late, int i64 x_3.c.script, slice x_3.w.vs.a x_3.w.vs.n x_3.w.vs.cap, slice x_3.w.vt.a x_3.w.vt.n x_3.w.vt.cap, slice x_3.w.vb.a x_3.w.vb.n x_3.w.vb.cap, slice x_3.w.vd.a x_3.w.vd.n x_3.w.vd.cap, slice x_3.w.vi.a x_3.w.vi.n x_3.w.vi.cap] }] ∧
 ([] : List Atom) = [] ∧ newB x_3.c = false ∧ ChIn (Atom.pred (rest [(0, F), (1000, Atom.cells b [string x.c.name, bool x.c.late, int i64 x.c.script, slice x.w.vs.a x.w.vs.n x.w.vs.cap, slice x.w.vt.a x.w.vt.n x.w.vt.cap, slice x.w.vb.a x.w.vb.n x.w.vb.cap, slice x.w.vd.a x.w.vd.n x.w.vd.cap, slice x.w.vi.a x.w.vi.n x.w.vi.cap] 28)] [])) x_3.w.v x_3.c ∧ ∀ (y : Unit), True → Done (lawC fun (c : ChD) => newB c = false) x F (Ending.returned (bool true)) [(0, F), (1000, Atom.cells b [string x.c.name, bool x.c.late, int i64 x.c.script, slice x.w.vs.a x.w.vs.n x.w.vs.cap, slice x.w.vt.a x.w.vt.n x.w.vt.cap, slice x.w.vb.a x.w.vb.n x.w.vb.cap, slice x.w.vd.a x.w.vd.n x.w.vd.cap, slice x.w.vi.a x.w.vi.n x.w.vi.cap] 28)])) := by
  obtain ⟨c, w, a, n, cap, xs⟩ := x
  obtain ⟨hnew, hsrc, hle⟩ := hc
  obtain ⟨hr, hx⟩ := hr
  intro b1
  refine ⟨aw_ok, rfl, (), rfl, rfl, trivial, trivial, fun _ _ => ?_⟩
  iterate 8 refine ⟨⟨rfl, rfl⟩, ?_⟩
  refine ⟨large_ok, rfl, ⟨c, w⟩, rfl, rfl, trivial, ChIn.sub (sub_rest 0 (by simp) rfl) hr, fun _ _ => br_intro (fun _ => ⟨(), trivial, rfl, Ent.pick [0] rfl rfl⟩) (fun _ => br_decide (fun _ => ⟨(), trivial, rfl, Ent.pick [0] rfl rfl⟩) (fun h50 => ?_))⟩
  iterate 8 refine ⟨⟨rfl, rfl⟩, ?_⟩
  exact ⟨newN_ok, rfl, ⟨c, w⟩, rfl, rfl, hnew, ChIn.sub (sub_rest 0 (by simp) rfl) hr, fun _ _ => ⟨(), trivial, rfl, Ent.pick [0] rfl rfl⟩⟩
set_option maxRecDepth 100000 in
theorem lcN_ok : FnOk Try.prog 5 (lawC fun c => newB c = false) :=
  fnOk (N := 96) (by kernel_rfl) Try.func5 rfl (by kernel_rfl) (fun _ => Nat.le_of_ble_eq_true rfl) lcN_H [] fun x F hc hr => Eq.mpr (by kernel_rfl) (lcN_vc x F hc hr)
theorem lcAll_ok : FnOk Try.prog 5 (lawC fun _ => True) := law_split lcY_ok lcN_ok
end Go.Proofs.Ytfmadkaiigiaiaa
