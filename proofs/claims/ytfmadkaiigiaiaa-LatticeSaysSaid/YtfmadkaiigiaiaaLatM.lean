/- Is a configuration legal? -/
import Derived.Test.YtfmadkaiigiaiaaLatI
set_option linter.all false
namespace Go.Proofs.Ytfmadkaiigiaiaa
open Go
set_option maxHeartbeats 1000000
def bAt (bs : List Bool) (i : Int) : Bool := (bs[i.toNat]?).getD false
def cfB (c : ChD) : Int → List Bool → List Int → Option (List Bool)
  | _, bs, [] => some bs
  | prev, bs, s :: r => bif decide (s < 1) then none else bif !isS c s then none else bif decide (kd c s.toNat ≥ 4) then none else bif decide (prev ≥ s) then none else bif decide (pr c s.toNat > 0) && !bAt bs (pr c s.toNat) then none else cfB c s (bs.set s.toNat true) r
def cnt (bs : List Bool) (ks : List Int) : Int := (ks.countP fun k => bAt bs k : Nat)
def lgS (c : ChD) (bs : List Bool) (s : Nat) : Bool := bif bAt bs s then bif coB c s then bif cnt bs (kidsP c s) != 1 then false else bif kd c s == 2 then !(cnt bs (kidsP c s) != (kidsP c s).length) else true else bif kd c s == 2 then !(cnt bs (kidsP c s) != (kidsP c s).length) else true else true
def lgL (c : ChD) (bs : List Bool) : Nat → Nat → Bool
  | 0, _ => true
  | f + 1, s => lgS c bs s && lgL c bs f (s + 1)
def legB (c : ChD) (cf : List Int) : Bool := match cfB c 0 (List.replicate (nS c) false) cf with
  | none => false
  | some bs => lgL c (bs.set 0 true) (nS c) 0 && decide ((cf.length : Int) > 0)
theorem bAt_get {bs : List Bool} {i : Nat} (h : i < bs.length) : bs[i]? = some (bAt bs i) := by
  unfold bAt; rw [Int.toNat_natCast, List.getElem?_eq_getElem h]; rfl
theorem cfB_cons {c : ChD} {prev s : Int} {bs : List Bool} {r : List Int} : cfB c prev bs (s :: r) = bif decide (s < 1) then none else bif !isS c s then none else bif decide (kd c s.toNat ≥ 4) then none else bif decide (prev ≥ s) then none else bif decide (pr c s.toNat > 0) && !bAt bs (pr c s.toNat) then none else cfB c s (bs.set s.toNat true) r := rfl
structure LegX where
  b : Nat
  c : ChD
  a : Option Addr
  n : Nat
  cap : Nat
  cf : List Int
def legC : Con where
  X := LegX
  Y := Unit
  args x := [.pointer (some ⟨x.b, 0, none⟩), .slice x.a x.n x.cap]
  pre _ := []
  cond x := IsSrc 1 (ints x.cf) x.a x.n ∧ x.n * 8 ≤ 140737488351232
  rdc x F := LatIn F x.b x.c ∧ Srcd F x.a (ints x.cf)
  rel _ _ := True
  val x _ := .returned (.bool (legB x.c x.cf))
  post _ _ := []
  rmono _ _ _ h hk := ⟨hk.1.sub h, hk.2.sub h⟩
structure LgI where
  k : Nat
  bu : Nat
  bs : List Bool
  prev : Int
structure LgJ where
  k : Nat
  bu : Nat
  bs : List Bool
  ka : Option Addr
  kc : Nat
  j : Nat
def legInv (x : LegX) (F : Atom) : Nat → Option Inv := fun
  | 0 => some { X := LgI, P := fun i => i.k ≤ x.n ∧ i.bs.length = nS x.c ∧ (i.k = 0 → i.prev = 0) ∧ (∀ u, 0 < i.k → x.cf[i.k - 1]? = some u → i.prev = u) ∧ cfB x.c 0 (List.replicate (nS x.c) false) x.cf = cfB x.c i.prev i.bs (x.cf.drop i.k), mu := fun i => x.n - i.k, lv := fun i => [(0, .pointer (some ⟨x.b, 0, none⟩)), (1, .slice x.a x.n x.cap), (5, .slice (some ⟨i.bu, 0, none⟩) (nS x.c) (nS x.c)), (21, .slice x.a x.n x.cap), (22, .int .i64 x.n), (23, .int .i64 i.k)], st := fun i => [F, .cells i.bu (bls i.bs) 4] }
  | 2 => some { X := LgI, P := fun i => i.k ≤ nS x.c ∧ i.bs.length = nS x.c ∧ legB x.c x.cf = (lgL x.c i.bs (nS x.c - i.k) i.k && decide ((x.cf.length : Int) > 0)), mu := fun i => nS x.c - i.k, lv := fun i => [(0, .pointer (some ⟨x.b, 0, none⟩)), (1, .slice x.a x.n x.cap), (5, .slice (some ⟨i.bu, 0, none⟩) (nS x.c) (nS x.c)), (85, .slice (some ⟨i.bu, 0, none⟩) (nS x.c) (nS x.c)), (86, .int .i64 (nS x.c)), (87, .int .i64 i.k)], st := fun i => [F, .cells i.bu (bls i.bs) 4] }
  | 4 => some { X := LgJ, P := fun i => i.k < nS x.c ∧ i.bs.length = nS x.c ∧ legB x.c x.cf = (lgL x.c i.bs (nS x.c - i.k) i.k && decide ((x.cf.length : Int) > 0)) ∧ IntsIn F (.slice i.ka (kidsP x.c i.k).length i.kc) (kidsP x.c i.k) ∧ i.j ≤ (kidsP x.c i.k).length, gh := some ⟨Nat, fun i => i.k⟩, mu := fun i => (kidsP x.c i.k).length - i.j, lv := fun i => [(0, .pointer (some ⟨x.b, 0, none⟩)), (1, .slice x.a x.n x.cap), (5, .slice (some ⟨i.bu, 0, none⟩) (nS x.c) (nS x.c)), (9, .int .i64 i.k), (10, .bool (bAt i.bs i.k)), (11, .int .i64 (cnt i.bs ((kidsP x.c i.k).take i.j))), (85, .slice (some ⟨i.bu, 0, none⟩) (nS x.c) (nS x.c)), (86, .int .i64 (nS x.c)), (87, .int .i64 i.k), (98, .slice i.ka (kidsP x.c i.k).length i.kc), (99, .int .i64 (kidsP x.c i.k).length), (100, .int .i64 i.j)], st := fun i => [F, .cells i.bu (bls i.bs) 4] }
  | _ => none
def legOv (_x : LegX) (_F : Atom) : List (Nat × Nat × OH) := [(1, 4, .q [.ex 0 .slice]), (1, 6, .o (mkC 4 [.bool false] 1) [] [102]), (4, 1, .qo (ixQ 1)), (4, 2, .q [.ex 0 (.int .i64)]), (5, 5, .c stateC [] []), (5, 13, .q [.ex 0 .slice]), (5, 15, .qo (ixQ 13)), (5, 17, .q [.ex 0 (.int .i64)]), (5, 27, .qo (ixQ 1)), (5, 28, .q [.ex 0 (.int .i64)]), (7, 4, .q [.ex 0 .slice]), (7, 6, .qo (ixQ 13)), (7, 8, .q [.ex 0 (.int .i64)]), (8, 6, .q [.ex 1 .bool]), (10, 3, .w [.ex 1 .any]), (12, 2, .w [.ex 1 .any]),
  (15, 2, .q [.ex 1 .bool]), (17, 3, .q [.ex 0 .slice]), (17, 5, .qo (ixQ 1)), (17, 6, .q [.ex 0 .slice]), (19, 0, .qo (ixQ 1)), (19, 1, .q [.ex 0 (.int .i64)]), (20, 3, .q [.ex 1 .bool]), (23, 4, .c coC [] []), (23, 14, .q [.ex 0 .slice]), (23, 16, .qo (ixQ 13)), (23, 18, .q [.ex 0 (.int .i64)]), (23, 25, .q [.ex 0 .slice]), (23, 27, .qo (ixQ 1)), (23, 28, .q [.ex 0 .slice])]
structure LgK where
  k : Nat
  bu : Nat
  bs : List Bool
  prev : Int
  s : Int
def Lg1 (x : LegX) (k : Nat) (bs : List Bool) (prev s : Int) : Prop := k < x.n ∧ bs.length = nS x.c ∧ x.cf[k]? = some s ∧ decide (s < 1) = false ∧ isS x.c s = true ∧ decide (kd x.c s.toNat ≥ 4) = false ∧ decide (prev ≥ s) = false ∧ cfB x.c 0 (List.replicate (nS x.c) false) x.cf = cfB x.c prev bs (x.cf.drop k)
def legCut (x : LegX) (F : Atom) : Nat → Option Inv := fun
  | 7 => some { X := LgK, P := fun i => Lg1 x i.k i.bs i.prev i.s, gh := some ⟨Nat, fun i => i.k⟩, mu := fun _ => 0, lv := fun i => [(0, .pointer (some ⟨x.b, 0, none⟩)), (1, .slice x.a x.n x.cap), (5, .slice (some ⟨i.bu, 0, none⟩) (nS x.c) (nS x.c)), (7, .int .i64 i.s), (21, .slice x.a x.n x.cap), (22, .int .i64 x.n), (23, .int .i64 i.k)], st := fun i => [F, .cells i.bu (bls i.bs) 4] }
  | 10 => some { X := LgK, P := fun i => Lg1 x i.k i.bs i.prev i.s ∧ (decide (pr x.c i.s.toNat > 0) && !bAt i.bs (pr x.c i.s.toNat)) = false, gh := some ⟨Nat, fun i => i.k⟩, mu := fun _ => 0, lv := fun i => [(0, .pointer (some ⟨x.b, 0, none⟩)), (1, .slice x.a x.n x.cap), (5, .slice (some ⟨i.bu, 0, none⟩) (nS x.c) (nS x.c)), (7, .int .i64 i.s), (21, .slice x.a x.n x.cap), (22, .int .i64 x.n), (23, .int .i64 i.k)], st := fun i => [F, .cells i.bu (bls i.bs) 4] }
  | _ => none
noncomputable def leg_H (x : Con.X legC) (F : Atom) : Hints where
  op := hk ((legOv x F) ++ [])
  inv := legInv x F
  cut := legCut x F
  ord := (fun _ => [])
open Go.Value (int slice string bool pointer agg tuple func) in
open Go.IntKind (i64) in
set_option maxRecDepth 100000 in
theorem leg_vc (x : LegX) (F : Atom) (hc : Con.cond legC x) (hr : Con.rdc legC x F) :
  ∃ (a : Option Addr),
 ∃ (l : Nat),
 ∃ (c : Nat),
 Look F ⟨x.b, 3, none⟩ (slice a l c) ∧
 OpOk Try.prog (opIn Try.f23 1 6) (mkC (4 : TypeId) [bool false] 1) ∧
 true = true ∧
 ∃ (x_1 : MkX),
 [int i64 (↑l : Int), int i64 (↑l : Int)] = [int i64 x_1.n, int i64 x_1.c] ∧
 ([] : List Atom) = [] ∧
 ((0 : Int) ≤ x_1.n ∧ x_1.n ≤ x_1.c ∧ x_1.c * (↑(1 : Nat) : Int) ≤ (281474976710656 : Int) ∧ x_1.c ≤ (9223372036854775807 : Int)) ∧
 True ∧
 ∀ (y : Nat),
 True →
 (∃ (x_2 : LgI),
 (x_2.k ≤ x.n ∧ x_2.bs.length = nS x.c ∧ (x_2.k = 0 → x_2.prev = (0 : Int)) ∧ (∀ (u : Int), 0 < x_2.k → x.cf[x_2.k - 1]? = some u → x_2.prev = u) ∧ cfB x.c (0 : Int) (List.replicate (nS x.c) false) x.cf = cfB x.c x_2.prev x_2.bs (List.drop x_2.k x.cf)) ∧
 (pointer (some ⟨x.b, 0, none⟩) = pointer (some ⟨x.b, 0, none⟩) ∧ slice x.a x.n x.cap = slice x.a x.n x.cap ∧ slice (some ⟨y, 0, none⟩) x_1.n.toNat x_1.c.toNat = slice (some ⟨x_2.bu, 0, none⟩) (nS x.c) (nS x.c) ∧ slice x.a x.n x.cap = slice x.a x.n x.cap ∧ int i64 (↑x.n : Int) = int i64 (↑x.n : Int) ∧ int i64 (0 : Int) = int i64 (↑x_2.k : Int) ∧ True) ∧ Ent [(0, F), (102, Atom.cells y (zeros [bool false] x_1.c.toNat) 4)] [(0, F), (1, Atom.cells x_2.bu (bls x_2.bs) 4)]) ∧
 ∀ (x_2 : LgI) (js : Nat → Value),
 x_2.k ≤ x.n ∧ x_2.bs.length = nS x.c ∧ (x_2.k = 0 → x_2.prev = (0 : Int)) ∧ (∀ (u : Int), 0 < x_2.k → x.cf[x_2.k - 1]? = some u → x_2.prev = u) ∧ cfB x.c (0 : Int) (List.replicate (nS x.c) false) x.cf = cfB x.c x_2.prev x_2.bs (List.drop x_2.k x.cf) →
 Br (decide ((↑x_2.k : Int) < (↑x.n : Int)))
 (QOpOk Try.prog (opIn Try.f23 4 1) (ixQ 1) ∧
 ∃ (x_3 : IxQX),
 [slice x.a x.n x.cap, int i64 (↑x_2.k : Int)] = [slice (some ⟨x_3.b, x_3.o, none⟩) x_3.len x_3.cap, int i64 x_3.n] ∧
 ((0 : Int) ≤ x_3.n ∧ x_3.n < (↑x_3.len : Int)) ∧
 ∃ (n : Int),
 Look F ⟨x_3.b, x_3.o + x_3.n.toNat * 1, none⟩ (int i64 n) ∧
 ∃ (n_1 : Nat),
 Br (decide (n < (1 : Int))) (Done legC x F (Ending.returned (bool false)) [(0, F), (1, Atom.cells x_2.bu (bls x_2.bs) 4)])
 (FnOk Try.prog 51 stateC ∧
 true = true ∧
 ∃ (x_4 : LqX),
 [pointer (some ⟨x.b, 0, none⟩), int i64 n] = [pointer (some ⟨x_4.b, 0, none⟩), int i64 x_4.a] ∧
 ([] : List Atom) = [] ∧
 True ∧
 LatIn (Atom.pred (rest [(0, F), (1, Atom.cells x_2.bu (bls x_2.bs) 4)] [])) x_4.b x_4.c ∧
 ∀ (y : Unit),
 True →
 Br (!isS x_4.c x_4.a) (Done legC x F (Ending.returned (bool false)) [(0, F), (1, Atom.cells x_2.bu (bls x_2.bs) 4)])
 (∃ (a : Option Addr),
 ∃ (l : Nat),
 ∃ (c : Nat),
 Look F ⟨x.b, 3, none⟩ (slice a l c) ∧
 QOpOk Try.prog (opIn Try.f23 5 15) (ixQ 13) ∧
 ∃ (x_5 : IxQX),
 [slice a l c, int i64 n] = [slice (some ⟨x_5.b, x_5.o, none⟩) x_5.len x_5.cap, int i64 x_5.n] ∧
 ((0 : Int) ≤ x_5.n ∧ x_5.n < (↑x_5.len : Int)) ∧
 ∃ (n_2 : Int),
 Look F ⟨x_5.b, x_5.o + x_5.n.toNat * 13 + 1, none⟩ (int i64 n_2) ∧
 Br (decide (n_2 ≥ (4 : Int))) (Done legC x F (Ending.returned (bool false)) [(0, F), (1, Atom.cells x_2.bu (bls x_2.bs) 4)])
 (Br (decide ((↑x_2.k : Int) > (0 : Int)))
 (((-9223372036854775808 : Int) ≤ (↑x_2.k : Int) - (1 : Int) ∧ (↑x_2.k : Int) - (1 : Int) ≤ (9223372036854775807 : Int)) ∧
 QOpOk Try.prog (opIn Try.f23 5 27) (ixQ 1) ∧
 ∃ (x_6 : IxQX),
 [slice x.a x.n x.cap, int i64 ((↑x_2.k : Int) - (1 : Int))] = [slice (some ⟨x_6.b, x_6.o, none⟩) x_6.len x_6.cap, int i64 x_6.n] ∧
 ((0 : Int) ≤ x_6.n ∧ x_6.n < (↑x_6.len : Int)) ∧
 ∃ (n_3 : Int),
 Look F ⟨x_6.b, x_6.o + x_6.n.toNat * 1, none⟩ (int i64 n_3) ∧
 Br (decide (n_3 ≥ n)) (Done legC x F (Ending.returned (bool false)) [(0, F), (1, Atom.cells x_2.bu (bls x_2.bs) 4)])
 (∃ (x_7 : LgK), (Lg1 x x_7.k x_7.bs x_7.prev x_7.s ∧ x_7.k = n_1) ∧ (pointer (some ⟨x.b, 0, none⟩) = pointer (some ⟨x.b, 0, none⟩) ∧ slice x.a x.n x.cap = slice x.a x.n x.cap ∧ slice (some ⟨x_2.bu, 0, none⟩) (nS x.c) (nS x.c) = slice (some ⟨x_7.bu, 0, none⟩) (nS x.c) (nS x.c) ∧ int i64 n = int i64 x_7.s ∧ slice x.a x.n x.cap = slice x.a x.n x.cap ∧ int i64 (↑x.n : Int) = int i64 (↑x.n : Int) ∧ int i64 (↑x_2.k : Int) = int i64 (↑x_7.k : Int) ∧ True) ∧ Ent [(0, F), (1, Atom.cells x_2.bu (bls x_2.bs) 4)] [(0, F), (1, Atom.cells x_7.bu (bls x_7.bs) 4)]))
 (∃ (x_6 : LgK), (Lg1 x x_6.k x_6.bs x_6.prev x_6.s ∧ x_6.k = n_1) ∧ (pointer (some ⟨x.b, 0, none⟩) = pointer (some ⟨x.b, 0, none⟩) ∧ slice x.a x.n x.cap = slice x.a x.n x.cap ∧ slice (some ⟨x_2.bu, 0, none⟩) (nS x.c) (nS x.c) = slice (some ⟨x_6.bu, 0, none⟩) (nS x.c) (nS x.c) ∧ int i64 n = int i64 x_6.s ∧ slice x.a x.n x.cap = slice x.a x.n x.cap ∧ int i64 (↑x.n : Int) = int i64 (↑x.n : Int) ∧ int i64 (↑x_2.k : Int) = int i64 (↑x_6.k : Int) ∧ True) ∧ Ent [(0, F), (1, Atom.cells x_2.bu (bls x_2.bs) 4)] [(0, F), (1, Atom.cells x_6.bu (bls x_6.bs) 4)])))) ∧
 ∀ (x_4 : LgK) (js : Nat → Value),
 Lg1 x x_4.k x_4.bs x_4.prev x_4.s ∧ x_4.k = n_1 →
 ∃ (n : Nat),
 (∃ (a : Option Addr),
 ∃ (l : Nat),
 ∃ (c : Nat),
 Look F ⟨x.b, 3, none⟩ (slice a l c) ∧
 QOpOk Try.prog (opIn Try.f23 7 6) (ixQ 13) ∧
 ∃ (x_5 : IxQX),
 [slice a l c, int i64 x_4.s] = [slice (some ⟨x_5.b, x_5.o, none⟩) x_5.len x_5.cap, int i64 x_5.n] ∧
 ((0 : Int) ≤ x_5.n ∧ x_5.n < (↑x_5.len : Int)) ∧
 ∃ (n_2 : Int),
 Look F ⟨x_5.b, x_5.o + x_5.n.toNat * 13 + 2, none⟩ (int i64 n_2) ∧
 Br (decide (n_2 > (0 : Int)))
 (((0 : Int) ≤ n_2 ∧ n_2 < (↑(nS x.c) : Int)) ∧
 ∃ (b : Bool),
 Look (Atom.cells x_4.bu (bls x_4.bs) 4) ⟨x_4.bu, 0 + n_2.toNat * 1, none⟩ (bool b) ∧
 Br (!b) (Done legC x F (Ending.returned (bool false)) [(0, F), (1, Atom.cells x_4.bu (bls x_4.bs) 4)])
 (∃ (x_6 : LgK), ((Lg1 x x_6.k x_6.bs x_6.prev x_6.s ∧ (decide (pr x.c x_6.s.toNat > (0 : Int)) && !bAt x_6.bs (pr x.c x_6.s.toNat)) = false) ∧ x_6.k = n) ∧ (pointer (some ⟨x.b, 0, none⟩) = pointer (some ⟨x.b, 0, none⟩) ∧ slice x.a x.n x.cap = slice x.a x.n x.cap ∧ slice (some ⟨x_4.bu, 0, none⟩) (nS x.c) (nS x.c) = slice (some ⟨x_6.bu, 0, none⟩) (nS x.c) (nS x.c) ∧ int i64 x_4.s = int i64 x_6.s ∧ slice x.a x.n x.cap = slice x.a x.n x.cap ∧ int i64 (↑x.n : Int) = int i64 (↑x.n : Int) ∧ int i64 (↑x_4.k : Int) = int i64 (↑x_6.k : Int) ∧ True) ∧ Ent [(0, F), (1, Atom.cells x_4.bu (bls x_4.bs) 4)] [(0, F), (1, Atom.cells x_6.bu (bls x_6.bs) 4)]))
 (∃ (x_6 : LgK), ((Lg1 x x_6.k x_6.bs x_6.prev x_6.s ∧ (decide (pr x.c x_6.s.toNat > (0 : Int)) && !bAt x_6.bs (pr x.c x_6.s.toNat)) = false) ∧ x_6.k = n) ∧ (pointer (some ⟨x.b, 0, none⟩) = pointer (some ⟨x.b, 0, none⟩) ∧ slice x.a x.n x.cap = slice x.a x.n x.cap ∧ slice (some ⟨x_4.bu, 0, none⟩) (nS x.c) (nS x.c) = slice (some ⟨x_6.bu, 0, none⟩) (nS x.c) (nS x.c) ∧ int i64 x_4.s = int i64 x_6.s ∧ slice x.a x.n x.cap = slice x.a x.n x.cap ∧ int i64 (↑x.n : Int) = int i64 (↑x.n : Int) ∧ int i64 (↑x_4.k : Int) = int i64 (↑x_6.k : Int) ∧ True) ∧ Ent [(0, F), (1, Atom.cells x_4.bu (bls x_4.bs) 4)] [(0, F), (1, Atom.cells x_6.bu (bls x_6.bs) 4)])) ∧
 ∀ (x_5 : LgK) (js : Nat → Value),
 (Lg1 x x_5.k x_5.bs x_5.prev x_5.s ∧ (decide (pr x.c x_5.s.toNat > (0 : Int)) && !bAt x_5.bs (pr x.c x_5.s.toNat)) = false) ∧ x_5.k = n →
 ((0 : Int) ≤ x_5.s ∧ x_5.s < (↑(nS x.c) : Int)) ∧
 (Same ⟨x_5.bu, 0 + x_5.s.toNat * 1, none⟩ x_5.bu ∧ 0 + x_5.s.toNat * 1 < (bls x_5.bs).length) ∧
 ((-9223372036854775808 : Int) ≤ (↑x_5.k : Int) + (1 : Int) ∧ (↑x_5.k : Int) + (1 : Int) ≤ (9223372036854775807 : Int)) ∧
 ∃ (y : LgI),
 (y.k ≤ x.n ∧ y.bs.length = nS x.c ∧ (y.k = 0 → y.prev = (0 : Int)) ∧ (∀ (u : Int), 0 < y.k → x.cf[y.k - 1]? = some u → y.prev = u) ∧ cfB x.c (0 : Int) (List.replicate (nS x.c) false) x.cf = cfB x.c y.prev y.bs (List.drop y.k x.cf)) ∧
 (pointer (some ⟨x.b, 0, none⟩) = pointer (some ⟨x.b, 0, none⟩) ∧ slice x.a x.n x.cap = slice x.a x.n x.cap ∧ slice (some ⟨x_5.bu, 0, none⟩) (nS x.c) (nS x.c) = slice (some ⟨y.bu, 0, none⟩) (nS x.c) (nS x.c) ∧ slice x.a x.n x.cap = slice x.a x.n x.cap ∧ int i64 (↑x.n : Int) = int i64 (↑x.n : Int) ∧ int i64 ((↑x_5.k : Int) + (1 : Int)) = int i64 (↑y.k : Int) ∧ True) ∧ Ent [(0, F), (1, Atom.cells x_5.bu ((bls x_5.bs).set (0 + x_5.s.toNat * 1) (bool true)) 4)] [(0, F), (1, Atom.cells y.bu (bls y.bs) 4)] ∧ x.n - y.k < x.n - x_2.k)
 (((0 : Int) ≤ (0 : Int) ∧ (0 : Int) < (↑(nS x.c) : Int)) ∧
 (Same ⟨x_2.bu, 0, none⟩ x_2.bu ∧ 0 < (bls x_2.bs).length) ∧
 (∃ (x_3 : LgI),
 (x_3.k ≤ nS x.c ∧ x_3.bs.length = nS x.c ∧ legB x.c x.cf = (lgL x.c x_3.bs (nS x.c - x_3.k) x_3.k && decide ((↑x.cf.length : Int) > (0 : Int)))) ∧
 (pointer (some ⟨x.b, 0, none⟩) = pointer (some ⟨x.b, 0, none⟩) ∧ slice x.a x.n x.cap = slice x.a x.n x.cap ∧ slice (some ⟨x_2.bu, 0, none⟩) (nS x.c) (nS x.c) = slice (some ⟨x_3.bu, 0, none⟩) (nS x.c) (nS x.c) ∧ slice (some ⟨x_2.bu, 0, none⟩) (nS x.c) (nS x.c) = slice (some ⟨x_3.bu, 0, none⟩) (nS x.c) (nS x.c) ∧ int i64 (↑(nS x.c) : Int) = int i64 (↑(nS x.c) : Int) ∧ int i64 (0 : Int) = int i64 (↑x_3.k : Int) ∧ True) ∧ Ent [(0, F), (1, Atom.cells x_2.bu ((bls x_2.bs).set 0 (bool true)) 4)] [(0, F), (1, Atom.cells x_3.bu (bls x_3.bs) 4)]) ∧
 ∀ (x_3 : LgI) (js : Nat → Value),
 x_3.k ≤ nS x.c ∧ x_3.bs.length = nS x.c ∧ legB x.c x.cf = (lgL x.c x_3.bs (nS x.c - x_3.k) x_3.k && decide ((↑x.cf.length : Int) > (0 : Int))) →
 Br (decide ((↑x_3.k : Int) < (↑(nS x.c) : Int)))
 (((0 : Int) ≤ (↑x_3.k : Int) ∧ (↑x_3.k : Int) < (↑(nS x.c) : Int)) ∧
 ∃ (b : Bool),
 Look (Atom.cells x_3.bu (bls x_3.bs) 4) ⟨x_3.bu, 0 + (↑x_3.k : Int).toNat * 1, none⟩ (bool b) ∧
 ∃ (a : Option Addr),
 ∃ (l : Nat),
 ∃ (c : Nat),
 Look F ⟨x.b, 9, none⟩ (slice a l c) ∧
 QOpOk Try.prog (opIn Try.f23 17 5) (ixQ 1) ∧
 ∃ (x_4 : IxQX),
 [slice a l c, int i64 (↑x_3.k : Int)] = [slice (some ⟨x_4.b, x_4.o, none⟩) x_4.len x_4.cap, int i64 x_4.n] ∧
 ((0 : Int) ≤ x_4.n ∧ x_4.n < (↑x_4.len : Int)) ∧
 ∃ (a : Option Addr),
 ∃ (l : Nat),
 ∃ (c : Nat),
 Look F ⟨x_4.b, x_4.o + x_4.n.toNat * 1, none⟩ (slice a l c) ∧
 ∃ (n : Nat),
 (∃ (x_5 : LgJ),
 ((x_5.k < nS x.c ∧ x_5.bs.length = nS x.c ∧ legB x.c x.cf = (lgL x.c x_5.bs (nS x.c - x_5.k) x_5.k && decide ((↑x.cf.length : Int) > (0 : Int))) ∧ IntsIn F (slice x_5.ka (kidsP x.c x_5.k).length x_5.kc) (kidsP x.c x_5.k) ∧ x_5.j ≤ (kidsP x.c x_5.k).length) ∧ x_5.k = n) ∧
 (pointer (some ⟨x.b, 0, none⟩) = pointer (some ⟨x.b, 0, none⟩) ∧
 slice x.a x.n x.cap = slice x.a x.n x.cap ∧
 slice (some ⟨x_3.bu, 0, none⟩) (nS x.c) (nS x.c) = slice (some ⟨x_5.bu, 0, none⟩) (nS x.c) (nS x.c) ∧
 int i64 (↑x_3.k : Int) = int i64 (↑x_5.k : Int) ∧ bool b = bool (bAt x_5.bs (↑x_5.k : Int)) ∧ int i64 (0 : Int) = int i64 (cnt x_5.bs (List.take x_5.j (kidsP x.c x_5.k))) ∧ slice (some ⟨x_3.bu, 0, none⟩) (nS x.c) (nS x.c) = slice (some ⟨x_5.bu, 0, none⟩) (nS x.c) (nS x.c) ∧ int i64 (↑(nS x.c) : Int) = int i64 (↑(nS x.c) : Int) ∧ int i64 (↑x_3.k : Int) = int i64 (↑x_5.k : Int) ∧ slice a l c = slice x_5.ka (kidsP x.c x_5.k).length x_5.kc ∧ int i64 (↑l : Int) = int i64 (↑(kidsP x.c x_5.k).length : Int) ∧ int i64 (0 : Int) = int i64 (↑x_5.j : Int) ∧ True) ∧
 Ent [(0, F), (1, Atom.cells x_3.bu (bls x_3.bs) 4)] [(0, F), (1, Atom.cells x_5.bu (bls x_5.bs) 4)]) ∧
 ∀ (x_5 : LgJ) (js : Nat → Value),
 (x_5.k < nS x.c ∧ x_5.bs.length = nS x.c ∧ legB x.c x.cf = (lgL x.c x_5.bs (nS x.c - x_5.k) x_5.k && decide ((↑x.cf.length : Int) > (0 : Int))) ∧ IntsIn F (slice x_5.ka (kidsP x.c x_5.k).length x_5.kc) (kidsP x.c x_5.k) ∧ x_5.j ≤ (kidsP x.c x_5.k).length) ∧ x_5.k = n →
 Br (decide ((↑x_5.j : Int) < (↑(kidsP x.c x_5.k).length : Int)))
 (QOpOk Try.prog (opIn Try.f23 19 0) (ixQ 1) ∧
 ∃ (x_6 : IxQX),
 [slice x_5.ka (kidsP x.c x_5.k).length x_5.kc, int i64 (↑x_5.j : Int)] = [slice (some ⟨x_6.b, x_6.o, none⟩) x_6.len x_6.cap, int i64 x_6.n] ∧
 ((0 : Int) ≤ x_6.n ∧ x_6.n < (↑x_6.len : Int)) ∧
 ∃ (n_1 : Int),
 Look F ⟨x_6.b, x_6.o + x_6.n.toNat * 1, none⟩ (int i64 n_1) ∧
 ((0 : Int) ≤ n_1 ∧ n_1 < (↑(nS x.c) : Int)) ∧
 ∃ (b : Bool),
 Look (Atom.cells x_5.bu (bls x_5.bs) 4) ⟨x_5.bu, 0 + n_1.toNat * 1, none⟩ (bool b) ∧
 Br b
 (((-9223372036854775808 : Int) ≤ cnt x_5.bs (List.take x_5.j (kidsP x.c x_5.k)) + (1 : Int) ∧ cnt x_5.bs (List.take x_5.j (kidsP x.c x_5.k)) + (1 : Int) ≤ (9223372036854775807 : Int)) ∧
 ((-9223372036854775808 : Int) ≤ (↑x_5.j : Int) + (1 : Int) ∧ (↑x_5.j : Int) + (1 : Int) ≤ (9223372036854775807 : Int)) ∧
 ∃ (y : LgJ),
 ((y.k < nS x.c ∧ y.bs.length = nS x.c ∧ legB x.c x.cf = (lgL x.c y.bs (nS x.c - y.k) y.k && decide ((↑x.cf.length : Int) > (0 : Int))) ∧ IntsIn F (slice y.ka (kidsP x.c y.k).length y.kc) (kidsP x.c y.k) ∧ y.j ≤ (kidsP x.c y.k).length) ∧ y.k = n) ∧
 (pointer (some ⟨x.b, 0, none⟩) = pointer (some ⟨x.b, 0, none⟩) ∧
 slice x.a x.n x.cap = slice x.a x.n x.cap ∧
 slice (some ⟨x_5.bu, 0, none⟩) (nS x.c) (nS x.c) = slice (some ⟨y.bu, 0, none⟩) (nS x.c) (nS x.c) ∧
 int i64 (↑x_5.k : Int) = int i64 (↑y.k : Int) ∧
 bool (bAt x_5.bs (↑x_5.k : Int)) = bool (bAt y.bs (↑y.k : Int)) ∧ int i64 (cnt x_5.bs (List.take x_5.j (kidsP x.c x_5.k)) + (1 : Int)) = int i64 (cnt y.bs (List.take y.j (kidsP x.c y.k))) ∧ slice (some ⟨x_5.bu, 0, none⟩) (nS x.c) (nS x.c) = slice (some ⟨y.bu, 0, none⟩) (nS x.c) (nS x.c) ∧ int i64 (↑(nS x.c) : Int) = int i64 (↑(nS x.c) : Int) ∧ int i64 (↑x_5.k : Int) = int i64 (↑y.k : Int) ∧ slice x_5.ka (kidsP x.c x_5.k).length x_5.kc = slice y.ka (kidsP x.c y.k).length y.kc ∧ int i64 (↑(kidsP x.c x_5.k).length : Int) = int i64 (↑(kidsP x.c y.k).length : Int) ∧ int i64 ((↑x_5.j : Int) + (1 : Int)) = int i64 (↑y.j : Int) ∧ True) ∧
 Ent [(0, F), (1, Atom.cells x_5.bu (bls x_5.bs) 4)] [(0, F), (1, Atom.cells y.bu (bls y.bs) 4)] ∧ (kidsP x.c y.k).length - y.j < (kidsP x.c x_5.k).length - x_5.j)
 (((-9223372036854775808 : Int) ≤ (↑x_5.j : Int) + (1 : Int) ∧ (↑x_5.j : Int) + (1 : Int) ≤ (9223372036854775807 : Int)) ∧
 ∃ (y : LgJ),
 ((y.k < nS x.c ∧ y.bs.length = nS x.c ∧ legB x.c x.cf = (lgL x.c y.bs (nS x.c - y.k) y.k && decide ((↑x.cf.length : Int) > (0 : Int))) ∧ IntsIn F (slice y.ka (kidsP x.c y.k).length y.kc) (kidsP x.c y.k) ∧ y.j ≤ (kidsP x.c y.k).length) ∧ y.k = n) ∧
 (pointer (some ⟨x.b, 0, none⟩) = pointer (some ⟨x.b, 0, none⟩) ∧
 slice x.a x.n x.cap = slice x.a x.n x.cap ∧
 slice (some ⟨x_5.bu, 0, none⟩) (nS x.c) (nS x.c) = slice (some ⟨y.bu, 0, none⟩) (nS x.c) (nS x.c) ∧
 int i64 (↑x_5.k : Int) = int i64 (↑y.k : Int) ∧
 bool (bAt x_5.bs (↑x_5.k : Int)) = bool (bAt y.bs (↑y.k : Int)) ∧ int i64 (cnt x_5.bs (List.take x_5.j (kidsP x.c x_5.k))) = int i64 (cnt y.bs (List.take y.j (kidsP x.c y.k))) ∧ slice (some ⟨x_5.bu, 0, none⟩) (nS x.c) (nS x.c) = slice (some ⟨y.bu, 0, none⟩) (nS x.c) (nS x.c) ∧ int i64 (↑(nS x.c) : Int) = int i64 (↑(nS x.c) : Int) ∧ int i64 (↑x_5.k : Int) = int i64 (↑y.k : Int) ∧ slice x_5.ka (kidsP x.c x_5.k).length x_5.kc = slice y.ka (kidsP x.c y.k).length y.kc ∧ int i64 (↑(kidsP x.c x_5.k).length : Int) = int i64 (↑(kidsP x.c y.k).length : Int) ∧ int i64 ((↑x_5.j : Int) + (1 : Int)) = int i64 (↑y.j : Int) ∧ True) ∧
 Ent [(0, F), (1, Atom.cells x_5.bu (bls x_5.bs) 4)] [(0, F), (1, Atom.cells y.bu (bls y.bs) 4)] ∧ (kidsP x.c y.k).length - y.j < (kidsP x.c x_5.k).length - x_5.j))
 (Br (bAt x_5.bs (↑x_5.k : Int))
 (FnOk Try.prog 19 coC ∧
 true = true ∧
 ∃ (x_6 : LqX),
 [pointer (some ⟨x.b, 0, none⟩), int i64 (↑x_5.k : Int)] = [pointer (some ⟨x_6.b, 0, none⟩), int i64 x_6.a] ∧
 ([] : List Atom) = [] ∧
 True ∧
 LatIn (Atom.pred (rest [(0, F), (1, Atom.cells x_5.bu (bls x_5.bs) 4)] [])) x_6.b x_6.c ∧
 ∀ (y : Unit),
 True →
 Br (coB x_6.c x_6.a)
 (Br (cnt x_5.bs (List.take x_5.j (kidsP x.c x_5.k)) != (1 : Int)) (Done legC x F (Ending.returned (bool false)) [(0, F), (1, Atom.cells x_5.bu (bls x_5.bs) 4)])
 (∃ (a : Option Addr),
 ∃ (l : Nat),
 ∃ (c : Nat),
 Look F ⟨x.b, 3, none⟩ (slice a l c) ∧
 QOpOk Try.prog (opIn Try.f23 23 16) (ixQ 13) ∧
 ∃ (x_7 : IxQX),
 [slice a l c, int i64 (↑x_5.k : Int)] = [slice (some ⟨x_7.b, x_7.o, none⟩) x_7.len x_7.cap, int i64 x_7.n] ∧
 ((0 : Int) ≤ x_7.n ∧ x_7.n < (↑x_7.len : Int)) ∧
 ∃ (n : Int),
 Look F ⟨x_7.b, x_7.o + x_7.n.toNat * 13 + 1, none⟩ (int i64 n) ∧
 Br (n == (2 : Int))
 (∃ (a : Option Addr),
 ∃ (l : Nat),
 ∃ (c : Nat),
 Look F ⟨x.b, 9, none⟩ (slice a l c) ∧
 QOpOk Try.prog (opIn Try.f23 23 27) (ixQ 1) ∧
 ∃ (x_8 : IxQX),
 [slice a l c, int i64 (↑x_5.k : Int)] = [slice (some ⟨x_8.b, x_8.o, none⟩) x_8.len x_8.cap, int i64 x_8.n] ∧
 ((0 : Int) ≤ x_8.n ∧ x_8.n < (↑x_8.len : Int)) ∧
 ∃ (a : Option Addr),
 ∃ (l : Nat),
 ∃ (c : Nat),
 Look F ⟨x_8.b, x_8.o + x_8.n.toNat * 1, none⟩ (slice a l c) ∧
 Br (cnt x_5.bs (List.take x_5.j (kidsP x.c x_5.k)) != (↑l : Int)) (Done legC x F (Ending.returned (bool false)) [(0, F), (1, Atom.cells x_5.bu (bls x_5.bs) 4)])
 (((-9223372036854775808 : Int) ≤ (↑x_5.k : Int) + (1 : Int) ∧ (↑x_5.k : Int) + (1 : Int) ≤ (9223372036854775807 : Int)) ∧
 ∃ (y : LgI),
 (y.k ≤ nS x.c ∧ y.bs.length = nS x.c ∧ legB x.c x.cf = (lgL x.c y.bs (nS x.c - y.k) y.k && decide ((↑x.cf.length : Int) > (0 : Int)))) ∧
 (pointer (some ⟨x.b, 0, none⟩) = pointer (some ⟨x.b, 0, none⟩) ∧ slice x.a x.n x.cap = slice x.a x.n x.cap ∧ slice (some ⟨x_5.bu, 0, none⟩) (nS x.c) (nS x.c) = slice (some ⟨y.bu, 0, none⟩) (nS x.c) (nS x.c) ∧ slice (some ⟨x_5.bu, 0, none⟩) (nS x.c) (nS x.c) = slice (some ⟨y.bu, 0, none⟩) (nS x.c) (nS x.c) ∧ int i64 (↑(nS x.c) : Int) = int i64 (↑(nS x.c) : Int) ∧ int i64 ((↑x_5.k : Int) + (1 : Int)) = int i64 (↑y.k : Int) ∧ True) ∧ Ent [(0, F), (1, Atom.cells x_5.bu (bls x_5.bs) 4)] [(0, F), (1, Atom.cells y.bu (bls y.bs) 4)] ∧ nS x.c - y.k < nS x.c - x_3.k))
 (((-9223372036854775808 : Int) ≤ (↑x_5.k : Int) + (1 : Int) ∧ (↑x_5.k : Int) + (1 : Int) ≤ (9223372036854775807 : Int)) ∧
 ∃ (y : LgI),
 (y.k ≤ nS x.c ∧ y.bs.length = nS x.c ∧ legB x.c x.cf = (lgL x.c y.bs (nS x.c - y.k) y.k && decide ((↑x.cf.length : Int) > (0 : Int)))) ∧
 (pointer (some ⟨x.b, 0, none⟩) = pointer (some ⟨x.b, 0, none⟩) ∧ slice x.a x.n x.cap = slice x.a x.n x.cap ∧ slice (some ⟨x_5.bu, 0, none⟩) (nS x.c) (nS x.c) = slice (some ⟨y.bu, 0, none⟩) (nS x.c) (nS x.c) ∧ slice (some ⟨x_5.bu, 0, none⟩) (nS x.c) (nS x.c) = slice (some ⟨y.bu, 0, none⟩) (nS x.c) (nS x.c) ∧ int i64 (↑(nS x.c) : Int) = int i64 (↑(nS x.c) : Int) ∧ int i64 ((↑x_5.k : Int) + (1 : Int)) = int i64 (↑y.k : Int) ∧ True) ∧ Ent [(0, F), (1, Atom.cells x_5.bu (bls x_5.bs) 4)] [(0, F), (1, Atom.cells y.bu (bls y.bs) 4)] ∧ nS x.c - y.k < nS x.c - x_3.k)))
 (∃ (a : Option Addr),
 ∃ (l : Nat),
 ∃ (c : Nat),
 Look F ⟨x.b, 3, none⟩ (slice a l c) ∧
 QOpOk Try.prog (opIn Try.f23 23 16) (ixQ 13) ∧
 ∃ (x_7 : IxQX),
 [slice a l c, int i64 (↑x_5.k : Int)] = [slice (some ⟨x_7.b, x_7.o, none⟩) x_7.len x_7.cap, int i64 x_7.n] ∧
 ((0 : Int) ≤ x_7.n ∧ x_7.n < (↑x_7.len : Int)) ∧
 ∃ (n : Int),
 Look F ⟨x_7.b, x_7.o + x_7.n.toNat * 13 + 1, none⟩ (int i64 n) ∧
 Br (n == (2 : Int))
 (∃ (a : Option Addr),
 ∃ (l : Nat),
 ∃ (c : Nat),
 Look F ⟨x.b, 9, none⟩ (slice a l c) ∧
 QOpOk Try.prog (opIn Try.f23 23 27) (ixQ 1) ∧
 ∃ (x_8 : IxQX),
 [slice a l c, int i64 (↑x_5.k : Int)] = [slice (some ⟨x_8.b, x_8.o, none⟩) x_8.len x_8.cap, int i64 x_8.n] ∧
 ((0 : Int) ≤ x_8.n ∧ x_8.n < (↑x_8.len : Int)) ∧
 ∃ (a : Option Addr),
 ∃ (l : Nat),
 ∃ (c : Nat),
 Look F ⟨x_8.b, x_8.o + x_8.n.toNat * 1, none⟩ (slice a l c) ∧
 Br (cnt x_5.bs (List.take x_5.j (kidsP x.c x_5.k)) != (↑l : Int)) (Done legC x F (Ending.returned (bool false)) [(0, F), (1, Atom.cells x_5.bu (bls x_5.bs) 4)])
 (((-9223372036854775808 : Int) ≤ (↑x_5.k : Int) + (1 : Int) ∧ (↑x_5.k : Int) + (1 : Int) ≤ (9223372036854775807 : Int)) ∧
 ∃ (y : LgI),
 (y.k ≤ nS x.c ∧ y.bs.length = nS x.c ∧ legB x.c x.cf = (lgL x.c y.bs (nS x.c - y.k) y.k && decide ((↑x.cf.length : Int) > (0 : Int)))) ∧
 (pointer (some ⟨x.b, 0, none⟩) = pointer (some ⟨x.b, 0, none⟩) ∧ slice x.a x.n x.cap = slice x.a x.n x.cap ∧ slice (some ⟨x_5.bu, 0, none⟩) (nS x.c) (nS x.c) = slice (some ⟨y.bu, 0, none⟩) (nS x.c) (nS x.c) ∧ slice (some ⟨x_5.bu, 0, none⟩) (nS x.c) (nS x.c) = slice (some ⟨y.bu, 0, none⟩) (nS x.c) (nS x.c) ∧ int i64 (↑(nS x.c) : Int) = int i64 (↑(nS x.c) : Int) ∧ int i64 ((↑x_5.k : Int) + (1 : Int)) = int i64 (↑y.k : Int) ∧ True) ∧ Ent [(0, F), (1, Atom.cells x_5.bu (bls x_5.bs) 4)] [(0, F), (1, Atom.cells y.bu (bls y.bs) 4)] ∧ nS x.c - y.k < nS x.c - x_3.k))
 (((-9223372036854775808 : Int) ≤ (↑x_5.k : Int) + (1 : Int) ∧ (↑x_5.k : Int) + (1 : Int) ≤ (9223372036854775807 : Int)) ∧
 ∃ (y : LgI),
 (y.k ≤ nS x.c ∧ y.bs.length = nS x.c ∧ legB x.c x.cf = (lgL x.c y.bs (nS x.c - y.k) y.k && decide ((↑x.cf.length : Int) > (0 : Int)))) ∧
 (pointer (some ⟨x.b, 0, none⟩) = pointer (some ⟨x.b, 0, none⟩) ∧ slice x.a x.n x.cap = slice x.a x.n x.cap ∧ slice (some ⟨x_5.bu, 0, none⟩) (nS x.c) (nS x.c) = slice (some ⟨y.bu, 0, none⟩) (nS x.c) (nS x.c) ∧ slice (some ⟨x_5.bu, 0, none⟩) (nS x.c) (nS x.c) = slice (some ⟨y.bu, 0, none⟩) (nS x.c) (nS x.c) ∧ int i64 (↑(nS x.c) : Int) = int i64 (↑(nS x.c) : Int) ∧ int i64 ((↑x_5.k : Int) + (1 : Int)) = int i64 (↑y.k : Int) ∧ True) ∧ Ent [(0, F), (1, Atom.cells x_5.bu (bls x_5.bs) 4)] [(0, F), (1, Atom.cells y.bu (bls y.bs) 4)] ∧ nS x.c - y.k < nS x.c - x_3.k)))
 (((-9223372036854775808 : Int) ≤ (↑x_5.k : Int) + (1 : Int) ∧ (↑x_5.k : Int) + (1 : Int) ≤ (9223372036854775807 : Int)) ∧
 ∃ (y : LgI),
 (y.k ≤ nS x.c ∧ y.bs.length = nS x.c ∧ legB x.c x.cf = (lgL x.c y.bs (nS x.c - y.k) y.k && decide ((↑x.cf.length : Int) > (0 : Int)))) ∧
 (pointer (some ⟨x.b, 0, none⟩) = pointer (some ⟨x.b, 0, none⟩) ∧ slice x.a x.n x.cap = slice x.a x.n x.cap ∧ slice (some ⟨x_5.bu, 0, none⟩) (nS x.c) (nS x.c) = slice (some ⟨y.bu, 0, none⟩) (nS x.c) (nS x.c) ∧ slice (some ⟨x_5.bu, 0, none⟩) (nS x.c) (nS x.c) = slice (some ⟨y.bu, 0, none⟩) (nS x.c) (nS x.c) ∧ int i64 (↑(nS x.c) : Int) = int i64 (↑(nS x.c) : Int) ∧ int i64 ((↑x_5.k : Int) + (1 : Int)) = int i64 (↑y.k : Int) ∧ True) ∧ Ent [(0, F), (1, Atom.cells x_5.bu (bls x_5.bs) 4)] [(0, F), (1, Atom.cells y.bu (bls y.bs) 4)] ∧ nS x.c - y.k < nS x.c - x_3.k)))
 (Done legC x F (Ending.returned (bool (decide ((↑x.n : Int) > (0 : Int))))) [(0, F), (1, Atom.cells x_3.bu (bls x_3.bs) 4)])) := by
  obtain ⟨b, c, a, n, cap, cf⟩ := x
  obtain ⟨hsrc, hle⟩ := hc
  obtain ⟨hr, hx⟩ := hr
  dsimp only at hsrc hle hr hx
  have hlen : cf.length = n := by have := hsrc.len; rw [ints_length] at this; omega
  have hp := hr.pl
  have hn2 := hp.n2
  have hn128 := hp.n128
  obtain ⟨b1, o1, cap1, h3, hst⟩ := hr.sts
  have e0 : ∀ i : Nat, 0 + (i : Int).toNat * 1 = i := fun i => by omega
  have fin : cfB c 0 (List.replicate (nS c) false) cf = none → false = legB c cf := fun h => by unfold legB; rw [h]
  refine ⟨_, _, _, h3, make_ok (P := Try.prog) [.bool false] 1 rfl rfl rfl rfl rfl rfl (by simp) rfl, rfl, ⟨nS c, nS c⟩, rfl, rfl, ⟨by dsimp only; omega, by dsimp only; omega, by dsimp only; omega, by dsimp only; omega⟩, trivial, fun bu _ => ⟨⟨⟨0, bu, List.replicate (nS c) false, 0⟩, ⟨Nat.zero_le _, List.length_replicate .., fun _ => rfl, fun u h => absurd h (Nat.lt_irrefl 0), rfl⟩, ⟨rfl, rfl, rfl, rfl, rfl, rfl, trivial⟩, ?_⟩, ?_⟩⟩
  · dsimp only
    rw [Int.toNat_natCast, zeros_bls]
    exact Ent.pick [0, 102] rfl rfl
  rintro ⟨k, bu, bs, prev⟩ js ⟨q1, q2, q3, q4, q5⟩
  dsimp only at q1 q2 q3 q4 q5 ⊢
  refine br_decide (fun hlt => ?_) (fun hge => ?_)
  · obtain ⟨b2, o2, rfl⟩ := hsrc.some (by omega)
    obtain ⟨s, hs⟩ : ∃ s, cf[k]? = some s := ⟨_, List.getElem?_eq_getElem (by omega)⟩
    have look : ∀ (i : Nat) (u : Int), cf[i]? = some u → Look F ⟨b2, o2 + (i : Int).toNat * 1, none⟩ (.int .i64 u) := by
      intro i u hu
      have : o2 + (i : Int).toNat * 1 = o2 + i := by omega
      rw [this]
      exact hx.look (ints_get hu)
    have q6 := q5
    rw [drop_g hs, cfB_cons] at q6
    refine ⟨ixq_ok 1 rfl rfl rfl rfl, ⟨b2, o2, n, cap, k⟩, rfl, by dsimp only; omega, s, look k s hs, k, br_decide (fun h1 => ⟨(), trivial, retB (fin ?_), Ent.pick [0] rfl rfl⟩) (fun h1 => ⟨state_ok, rfl, ⟨b, c, s⟩, rfl, rfl, trivial, hr.sub (sub_rest 0 (by simp) rfl), fun _ _ => br_intro (fun h2 => ⟨(), trivial, retB (fin ?_), Ent.pick [0] rfl rfl⟩) (fun h2 => ?_)⟩), ?_⟩
    · rw [q6, decide_eq_true h1]; rfl
    · dsimp only at h2; rw [q6, decide_eq_false h1, h2]; rfl
    · dsimp only at h2
      rw [decide_eq_false h1, h2, cond_false, cond_false] at q6
      have h2' : isS c s = true := by simpa using h2
      obtain ⟨i, rfl, hi⟩ := isS_spec h2'
      obtain ⟨st, hsi⟩ := get_st hi
      obtain ⟨r, ⟨vk, ve, vx, vt, vd, vi, vp, rfl, -⟩, hL⟩ := hst i st hsi
      have ek : kd c (i : Int).toNat = st.kind := kd_get hsi
      rw [ek] at q6
      refine ⟨_, _, _, h3, ixq_ok 13 rfl rfl rfl rfl, ⟨b1, o1, nS c, cap1, i⟩, rfl, by dsimp only; omega, st.kind, hL 1 _ rfl, br_decide (fun h4 => ⟨(), trivial, retB (fin ?_), Ent.pick [0] rfl rfl⟩) (fun h4 => br_decide (fun hk => ?_) (fun hk => ?_))⟩
      · rw [q6, decide_eq_true h4]; rfl
      · obtain ⟨u, hu⟩ : ∃ u, cf[k - 1]? = some u := ⟨_, List.getElem?_eq_getElem (by omega)⟩
        have hpu := q4 u (by omega) hu
        have ek1 : ((k : Int) - 1) = ((k - 1 : Nat) : Int) := by omega
        rw [decide_eq_false h4, cond_false] at q6
        rw [ek1]
        refine ⟨by omega, ixq_ok 1 rfl rfl rfl rfl, ⟨b2, o2, n, cap, (k - 1 : Nat)⟩, rfl, by dsimp only; omega, u, look (k - 1) u hu, br_decide (fun h5 => ⟨(), trivial, retB (fin ?_), Ent.pick [0] rfl rfl⟩) (fun h5 => ⟨⟨k, bu, bs, prev, i⟩, ⟨⟨by dsimp only; omega, q2, hs, decide_eq_false h1, h2', by rw [ek]; exact decide_eq_false h4, by rw [hpu]; exact decide_eq_false h5, q5⟩, rfl⟩, ⟨rfl, rfl, rfl, rfl, rfl, rfl, rfl, trivial⟩, Ent.pick [0, 1] rfl rfl⟩)⟩
        rw [q6, hpu, decide_eq_true h5]; rfl
      · have hk0 : k = 0 := by omega
        have hp0 := q3 hk0
        exact ⟨⟨k, bu, bs, prev, i⟩, ⟨⟨by dsimp only; omega, q2, hs, decide_eq_false h1, h2', by rw [ek]; exact decide_eq_false h4, decide_eq_false (by dsimp only; omega), q5⟩, rfl⟩, ⟨rfl, rfl, rfl, rfl, rfl, rfl, rfl, trivial⟩, Ent.pick [0, 1] rfl rfl⟩
    · rintro ⟨k7, bu7, bs7, prev7, s7⟩ js7 ⟨⟨g1, g2, g3, g4, g5, g6, g7, g8⟩, hk7⟩
      dsimp only at g1 g2 g3 g4 g5 g6 g7 g8 hk7 ⊢
      obtain ⟨i, rfl, hi⟩ := isS_spec g5
      obtain ⟨st, hsi⟩ := get_st hi
      obtain ⟨r, ⟨vk, ve, vx, vt, vd, vi, vp, rfl, -⟩, hL⟩ := hst i st hsi
      have ep : pr c i = st.parent := pr_get hsi
      have hpl := pr_lt hp hi
      refine ⟨k7, ⟨_, _, _, h3, ixq_ok 13 rfl rfl rfl rfl, ⟨b1, o1, nS c, cap1, i⟩, rfl, by dsimp only; omega, st.parent, hL 2 _ rfl, br_decide (fun h1 => ?_) (fun h1 => ?_)⟩, ?_⟩
      · obtain ⟨m, hm⟩ : ∃ m : Nat, st.parent = m := ⟨st.parent.toNat, by omega⟩
        rw [hm]
        refine ⟨⟨by omega, by omega⟩, bAt bs7 m, by rw [e0]; exact Look.cells (bls_get (bAt_get (by omega))), br_intro (fun h2 => ⟨(), trivial, retB (fin ?_), Ent.pick [0] rfl rfl⟩) (fun h2 => ⟨⟨k7, bu7, bs7, prev7, i⟩, ⟨⟨⟨g1, g2, g3, g4, g5, g6, g7, g8⟩, ?_⟩, rfl⟩, ⟨rfl, rfl, rfl, rfl, rfl, rfl, rfl, trivial⟩, Ent.pick [0, 1] rfl rfl⟩)⟩
        · rw [g8, drop_g g3, cfB_cons, g4, g5, g6, g7, Int.toNat_natCast, ep, hm, decide_eq_true (by omega), h2]; rfl
        · dsimp only
          rw [Int.toNat_natCast, ep, hm, h2, Bool.and_false]
      · refine ⟨⟨k7, bu7, bs7, prev7, i⟩, ⟨⟨⟨g1, g2, g3, g4, g5, g6, g7, g8⟩, ?_⟩, rfl⟩, ⟨rfl, rfl, rfl, rfl, rfl, rfl, rfl, trivial⟩, Ent.pick [0, 1] rfl rfl⟩
        dsimp only
        rw [Int.toNat_natCast, ep, decide_eq_false h1, Bool.false_and]
      rintro ⟨k9, bu9, bs9, prev9, s9⟩ js9 ⟨⟨⟨g1, g2, g3, g4, g5, g6, g7, g8⟩, g9⟩, hk9⟩
      dsimp only at g1 g2 g3 g4 g5 g6 g7 g8 g9 hk9 ⊢
      obtain ⟨i, rfl, hi⟩ := isS_spec g5
      rw [drop_g g3, cfB_cons, g4, g5, g6, g7, g9] at g8
      refine ⟨⟨by omega, by omega⟩, ⟨⟨rfl, rfl⟩, by rw [bls_length]; omega⟩, by omega, ⟨k9 + 1, bu9, bs9.set i true, i⟩, ⟨by dsimp only; omega, by dsimp only; rw [List.length_set]; exact g2, fun h => absurd h (by dsimp only; omega), fun u _ hu => ?_, g8⟩, ⟨rfl, rfl, rfl, rfl, rfl, rfl, trivial⟩, ?_, by dsimp only; omega⟩
      · dsimp only at hu ⊢
        rw [Nat.add_sub_cancel, g3] at hu
        cases hu; rfl
      · dsimp only
        rw [e0, bls_set]
        exact Ent.pick [0, 1] rfl rfl
  · have hkn : k = n := by omega
    rw [List.drop_eq_nil_of_le (by omega), cfB] at q5
    have hleg : legB c cf = (lgL c (bs.set 0 true) (nS c) 0 && decide ((cf.length : Int) > 0)) := by unfold legB; rw [q5]
    refine ⟨⟨by omega, by omega⟩, ⟨⟨rfl, rfl⟩, by rw [bls_length]; omega⟩, ⟨⟨0, bu, bs.set 0 true, 0⟩, ⟨Nat.zero_le _, by dsimp only; rw [List.length_set]; exact q2, hleg⟩, ⟨rfl, rfl, rfl, rfl, rfl, rfl, trivial⟩, ?_⟩, ?_⟩
    · dsimp only
      rw [bls_set]
      exact Ent.pick [0, 1] rfl rfl
    clear hleg q1 q2 q3 q4 q5 hge hkn
    rintro ⟨k, bu, bs, prev⟩ js2 ⟨q1, q2, q3⟩
    dsimp only at q1 q2 q3 ⊢
    refine br_decide (fun hlt => ?_) (fun hge => ?_)
    · obtain ⟨b4, o4, cap4, h9, hkd⟩ := hr.kd
      obtain ⟨w, hw, hI⟩ := hkd k (by omega)
      obtain ⟨ka, kcap, rfl, -⟩ := SlIn.open hI
      have e1 : o4 + (k : Int).toNat * 1 = o4 + k := by omega
      refine ⟨by omega, bAt bs k, by rw [e0]; exact Look.cells (bls_get (bAt_get (by omega))), _, _, _, h9, ixq_ok 1 rfl rfl rfl rfl, ⟨b4, o4, nS c, cap4, k⟩, rfl, by dsimp only; omega, _, _, _, by dsimp only; rw [e1]; exact hw, k, ⟨⟨k, bu, bs, ka, kcap, 0⟩, ⟨⟨by dsimp only; omega, q2, q3, hI, Nat.zero_le _⟩, rfl⟩, ⟨rfl, rfl, rfl, rfl, rfl, rfl, rfl, rfl, rfl, rfl, rfl, rfl, trivial⟩, Ent.pick [0, 1] rfl rfl⟩, ?_⟩
      clear hI hw hkd h9 e1
      rintro ⟨k5, bu, bs, ka, kc, j⟩ js3 ⟨⟨g1, g2, g3, hI, g5⟩, rfl⟩
      dsimp only at g1 g2 g3 hI g5 ⊢
      have hnum := hI.num
      have step : lgL c bs (nS c - k5) k5 = (lgS c bs k5 && lgL c bs (nS c - (k5 + 1)) (k5 + 1)) := by
        have : nS c - k5 = (nS c - (k5 + 1)) + 1 := by omega
        rw [this]; rfl
      rw [step] at g3
      refine br_decide (fun hj => ?_) (fun hj => ?_)
      · obtain ⟨u, hu⟩ : ∃ u, (kidsP c k5)[j]? = some u := ⟨_, List.getElem?_eq_getElem (by omega)⟩
        obtain ⟨b6, o6, r6, rfl, hr6, hL6⟩ := hI.at' hu
        obtain ⟨m, rfl, -, hm, -⟩ := mem_kidsOf.1 (List.mem_of_getElem? hu)
        have hcl : cnt bs ((kidsP c k5).take j) ≤ ((kidsP c k5).take j).length := by unfold cnt; exact Int.ofNat_le.2 (List.countP_le_length ..)
        have hc0 : 0 ≤ cnt bs ((kidsP c k5).take j) := Int.natCast_nonneg _
        have htl := List.length_take_le j (kidsP c k5)
        have e2 : o6 + (j : Int).toNat * 1 = o6 + j * 1 + 0 := by omega
        have hcs : cnt bs ((kidsP c k5).take (j + 1)) = cnt bs ((kidsP c k5).take j) + bif bAt bs m then 1 else 0 := by
          rw [take_g hu]; unfold cnt; rw [List.countP_append, List.countP_singleton]
          cases bAt bs (m : Int) <;> simp
        refine ⟨ixq_ok 1 rfl rfl rfl rfl, ⟨b6, o6, _, kc, j⟩, rfl, by dsimp only; omega, m, by dsimp only; rw [e2]; exact hL6 0 _ (by rw [hr6]; rfl), by omega, bAt bs m, by rw [e0]; exact Look.cells (bls_get (bAt_get (by omega))), br_intro (fun hb => ?_) (fun hb => ?_)⟩
        · rw [hb] at hcs
          exact ⟨by omega, by omega, ⟨k5, bu, bs, some ⟨b6, o6, none⟩, kc, j + 1⟩, ⟨⟨g1, g2, by dsimp only; rw [step]; exact g3, hI, by dsimp only; omega⟩, rfl⟩, ⟨rfl, rfl, rfl, rfl, rfl, by dsimp only; rw [hcs]; rfl, rfl, rfl, rfl, rfl, rfl, rfl, trivial⟩, Ent.pick [0, 1] rfl rfl, by dsimp only; omega⟩
        · rw [hb] at hcs
          exact ⟨by omega, ⟨k5, bu, bs, some ⟨b6, o6, none⟩, kc, j + 1⟩, ⟨⟨g1, g2, by dsimp only; rw [step]; exact g3, hI, by dsimp only; omega⟩, rfl⟩, ⟨rfl, rfl, rfl, rfl, rfl, by dsimp only; rw [hcs]; simp, rfl, rfl, rfl, rfl, rfl, rfl, trivial⟩, Ent.pick [0, 1] rfl rfl, by dsimp only; omega⟩
      · rw [List.take_of_length_le (by omega)]
        obtain ⟨b4, o4, cap4, h9, hkd⟩ := hr.kd
        obtain ⟨w, hw, hI2⟩ := hkd k5 (by omega)
        obtain ⟨ka2, kcap2, rfl, -⟩ := SlIn.open hI2
        obtain ⟨st, hsi⟩ := get_st g1
        obtain ⟨r, ⟨vk, ve, vx, vt, vd, vi, vp, rfl, -⟩, hL⟩ := hst k5 st hsi
        have ek : kd c k5 = st.kind := kd_get hsi
        have e1 : o4 + (k5 : Int).toNat * 1 = o4 + k5 := by omega
        have bad : lgS c bs k5 = false → false = legB c cf := fun h => by rw [g3, h]; rfl
        refine br_intro (fun hb => ⟨co_ok, rfl, ⟨b, c, k5⟩, rfl, rfl, trivial, hr.sub (sub_rest 0 (by simp) rfl), fun _ _ => br_intro (fun h1 => br_intro (fun h2 => ⟨(), trivial, retB (bad ?bad1), Ent.pick [0] rfl rfl⟩) (fun h2 => ⟨_, _, _, h3, ixq_ok 13 rfl rfl rfl rfl, ⟨b1, o1, nS c, cap1, k5⟩, rfl, by dsimp only; omega, st.kind, hL 1 _ rfl, br_intro (fun h4 => ⟨_, _, _, h9, ixq_ok 1 rfl rfl rfl rfl, ⟨b4, o4, nS c, cap4, k5⟩, rfl, by dsimp only; omega, _, _, _, by dsimp only; rw [e1]; exact hw, br_intro (fun h5 => ⟨(), trivial, retB (bad ?bad2), Ent.pick [0] rfl rfl⟩) (fun h5 => ?_)⟩) (fun h4 => ?_)⟩)) (fun h1 => ⟨_, _, _, h3, ixq_ok 13 rfl rfl rfl rfl, ⟨b1, o1, nS c, cap1, k5⟩, rfl, by dsimp only; omega, st.kind, hL 1 _ rfl, br_intro (fun h4 => ⟨_, _, _, h9, ixq_ok 1 rfl rfl rfl rfl, ⟨b4, o4, nS c, cap4, k5⟩, rfl, by dsimp only; omega, _, _, _, by dsimp only; rw [e1]; exact hw, br_intro (fun h5 => ⟨(), trivial, retB (bad ?bad3), Ent.pick [0] rfl rfl⟩) (fun h5 => ?_)⟩) (fun h4 => ?_)⟩)⟩) (fun hb => ?_)
        case bad1 => dsimp only at h1; unfold lgS; rw [hb, h1, h2]; rfl
        case bad2 => dsimp only at h1; unfold lgS; rw [hb, h1, h2, ek, h4, h5]; rfl
        case bad3 => dsimp only at h1; unfold lgS; rw [hb, h1, ek, h4, h5]; rfl
        all_goals
          have hs1 : lgS c bs k5 = true := by
            dsimp only at *
            unfold lgS
            simp only [hb, *, cond_true, cond_false, Bool.not_false]
          rw [hs1, Bool.true_and] at g3
          exact ⟨by omega, ⟨k5 + 1, bu, bs, 0⟩, ⟨by dsimp only; omega, g2, g3⟩, ⟨rfl, rfl, rfl, rfl, rfl, rfl, trivial⟩, Ent.pick [0, 1] rfl rfl, by dsimp only; omega⟩
    · have hkn : nS c - k = 0 := by omega
      rw [hkn] at q3
      refine ⟨(), trivial, retB ?_, Ent.pick [0] rfl rfl⟩
      rw [q3, hlen]; rfl
set_option maxRecDepth 100000 in
theorem leg_ok : FnOk Try.prog 23 legC :=
  fnOk (N := 149) (by kernel_rfl) Try.func23 rfl (by kernel_rfl) (fun _ => Nat.le_of_ble_eq_true rfl) leg_H [] fun x F hc hr => Eq.mpr (by kernel_rfl) (leg_vc x F hc hr)
end Go.Proofs.Ytfmadkaiigiaiaa
