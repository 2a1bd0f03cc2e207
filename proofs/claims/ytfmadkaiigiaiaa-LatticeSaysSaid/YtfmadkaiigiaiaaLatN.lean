/- Finished, Chart; the law's charts: small, large. -/
import Derived.Test.YtfmadkaiigiaiaaLatL
set_option linter.all false
namespace Go.Proofs.Ytfmadkaiigiaiaa
open Go
set_option maxHeartbeats 1000000
structure F1X where
  c1 : Nat
  c2 : Nat
  b : Nat
  c : ChD
  ca : Option Addr
  cn : Nat
  cc : Nat
  cf : List Int
  a : Int
def f1R (c1 c2 b : Nat) (c : ChD) (ca : Option Addr) (cn cc : Nat) (cf : List Int) (F : Atom) : Prop := Look F ⟨c1, 0, none⟩ (.pointer (some ⟨b, 0, none⟩)) ∧ Look F ⟨c2, 0, none⟩ (.slice ca cn cc) ∧ LatIn F b c ∧ Srcd F ca (ints cf)
theorem f1R_mono {c1 c2 b : Nat} {c : ChD} {ca : Option Addr} {cn cc : Nat} {cf : List Int} (A B : Atom) (h : Sub A B) (hk : f1R c1 c2 b c ca cn cc cf A) : f1R c1 c2 b c ca cn cc cf B := ⟨hk.1.sub h, hk.2.1.sub h, hk.2.2.1.sub h, hk.2.2.2.sub h⟩
def f1B (c : ChD) (cf : List Int) (a : Int) : Bool := bif kd c a.toNat == 3 then memB cf a else false
def f1C : Con where
  X := F1X
  Y := Unit
  args x := [.int .i64 x.a, .pointer (some ⟨x.c1, 0, none⟩), .pointer (some ⟨x.c2, 0, none⟩)]
  pre _ := []
  cond x := isS x.c x.a = true ∧ IsSrc 1 (ints x.cf) x.ca x.cn ∧ x.cn * 8 ≤ 140737488351232
  rdc x F := f1R x.c1 x.c2 x.b x.c x.ca x.cn x.cc x.cf F
  rel _ _ := True
  val x _ := .returned (.bool (f1B x.c x.cf x.a))
  post _ _ := []
  rmono _ A B h hk := f1R_mono A B h hk
def f1Ov (x : F1X) (_F : Atom) : List (Nat × Nat × OH) := [(1, 0, .q [.ex 0 (.is (.pointer (some ⟨x.b, 0, none⟩)))]), (1, 4, .q [.ex 0 .slice]), (1, 6, .qo (ixQ 13)), (1, 8, .q [.ex 0 (.int .i64)]), (1, 11, .q [.ex 0 (.is (.slice x.ca x.cn x.cc))]), (1, 13, .c coC' [] [])]
noncomputable def f1_H (x : Con.X f1C) (F : Atom) : Hints where
  op := hk ((f1Ov x F) ++ [])
  inv := (fun _ _ _ => none) x F
  cut := (fun _ _ _ => none) x F
  ord := (fun _ => [])
open Go.Value (int slice string bool pointer agg tuple func) in
open Go.IntKind (i64) in
set_option maxRecDepth 100000 in
theorem f1_vc (x : F1X) (F : Atom) (hc : Con.cond f1C x) (hr : Con.rdc f1C x F) :
  Look F ⟨x.c1, 0, none⟩ (pointer (some ⟨x.b, 0, none⟩)) ∧
 ∃ (a : Option Addr),
 ∃ (l : Nat),
 ∃ (c : Nat),
 Look F ⟨x.b, 3, none⟩ (slice a l c) ∧
 QOpOk Try.prog (opIn Try.f56 1 6) (ixQ 13) ∧
 ∃ (x_1 : IxQX), [slice a l c, int i64 x.a] = [slice (some ⟨x_1.b, x_1.o, none⟩) x_1.len x_1.cap, int i64 x_1.n] ∧ ((0 : Int) ≤ x_1.n ∧ x_1.n < (↑x_1.len : Int)) ∧ ∃ (n : Int), Look F ⟨x_1.b, x_1.o + x_1.n.toNat * 13 + 1, none⟩ (int i64 n) ∧ Br (n == (3 : Int)) (Look F ⟨x.c2, 0, none⟩ (slice x.ca x.cn x.cc) ∧ FnOk Try.prog 57 coC' ∧ true = true ∧ ∃ (x_2 : InX), [slice x.ca x.cn x.cc, int i64 x.a] = [slice x_2.a x_2.n x_2.cap, int i64 x_2.v] ∧ ([] : List Atom) = [] ∧ (IsSrc 1 (ints x_2.xs) x_2.a x_2.n ∧ x_2.n * 8 ≤ 140737488351232) ∧ Srcd (Atom.pred (rest [(0, F)] [])) x_2.a (ints x_2.xs) ∧ ∀ (y : Unit), True → Done f1C x F (Ending.returned (bool (memB x_2.xs x_2.v))) [(0, F)]) (Done f1C x F (Ending.returned (bool false)) [(0, F)]) := by
  obtain ⟨c1, c2, b, c, ca, cn, cc, cf, a⟩ := x
  obtain ⟨k1, k2, k3⟩ := hc
  obtain ⟨h1, h2, h3, h4⟩ := hr
  dsimp only at k1 k2 k3 h1 h2 h3 h4
  obtain ⟨i, rfl, hi⟩ := isS_spec k1
  obtain ⟨s, hsi⟩ := get_st hi
  obtain ⟨b1, o1, cap, h5, hst⟩ := h3.sts
  obtain ⟨r, ⟨vk, ve, vx, vt, vd, vi, vp, rfl, -⟩, hL⟩ := hst i s hsi
  have ek : kd c (i : Int).toNat = s.kind := kd_get hsi
  refine ⟨h1, _, _, _, h5, ixq_ok 13 rfl rfl rfl rfl, ⟨b1, o1, nS c, cap, i⟩, rfl, by dsimp only; omega, s.kind, hL 1 _ rfl, br_intro (fun q => ⟨h2, con_ok, rfl, ⟨ca, cn, cc, cf, i⟩, rfl, rfl, ⟨k2, k3⟩, h4.sub (sub_rest 0 (by simp) rfl), fun _ _ => ⟨(), trivial, retB ?_, Ent.pick [0] rfl rfl⟩⟩) (fun q => ⟨(), trivial, retB ?_, Ent.pick [0] rfl rfl⟩)⟩
  · dsimp only
    unfold f1B
    rw [ek, q]; rfl
  · dsimp only
    unfold f1B
    rw [ek, q]; rfl
set_option maxRecDepth 100000 in
theorem f1_ok : FnOk Try.prog 56 f1C :=
  fnOk (N := 20) (by kernel_rfl) Try.func56 rfl (by kernel_rfl) (fun _ => Nat.le_of_ble_eq_true rfl) f1_H [] fun x F hc hr => Eq.mpr (by kernel_rfl) (f1_vc x F hc hr)
def finB (c : ChD) (cf : List Int) : Nat → Int → Bool
  | 0, _ => false
  | d + 1, a => bif !isS c a then false else bif coB c a then (kidsP c a.toNat).any (f1B c cf) else bif kd c a.toNat != 2 then false else bif ((kidsP c a.toNat).length : Int) == 0 then false else !(kidsP c a.toNat).any fun k => !finB c cf d k
structure FinX where
  b : Nat
  c : ChD
  ca : Option Addr
  cn : Nat
  cc : Nat
  cf : List Int
  a : Int
def finC (d : Nat) : Con where
  X := FinX
  Y := Unit
  args x := [.pointer (some ⟨x.b, 0, none⟩), .slice x.ca x.cn x.cc, .int .i64 x.a]
  pre _ := []
  cond x := (IsSrc 1 (ints x.cf) x.ca x.cn ∧ x.cn * 8 ≤ 140737488351232) ∧ (nS x.c : Int) - x.a ≤ d
  rdc x F := LatIn F x.b x.c ∧ Srcd F x.ca (ints x.cf)
  rel _ _ := True
  val x _ := .returned (.bool (finB x.c x.cf d x.a))
  post _ _ := []
  rmono _ _ _ h hk := ⟨hk.1.sub h, hk.2.sub h⟩
structure F2X extends F1X where
  d : Nat
def f2C : Con where
  X := F2X
  Y := Unit
  args x := [.int .i64 x.a, .pointer (some ⟨x.c1, 0, none⟩), .pointer (some ⟨x.c2, 0, none⟩)]
  pre _ := []
  cond x := FnOk Try.prog 25 (finC x.d) ∧ (IsSrc 1 (ints x.cf) x.ca x.cn ∧ x.cn * 8 ≤ 140737488351232) ∧ (nS x.c : Int) - x.a ≤ x.d
  rdc x F := f1R x.c1 x.c2 x.b x.c x.ca x.cn x.cc x.cf F
  rel _ _ := True
  val x _ := .returned (.bool (!finB x.c x.cf x.d x.a))
  post _ _ := []
  rmono _ A B h hk := f1R_mono A B h hk
def f2Ov (x : F2X) (_F : Atom) : List (Nat × Nat × OH) := [(1, 0, .q [.ex 0 (.is (.pointer (some ⟨x.b, 0, none⟩)))]), (1, 1, .q [.ex 0 (.is (.slice x.ca x.cn x.cc))]), (1, 3, .c (finC x.d) [] [])]
noncomputable def f2_H (x : Con.X f2C) (F : Atom) : Hints where
  op := hk ((f2Ov x F) ++ [])
  inv := (fun _ _ _ => none) x F
  cut := (fun _ _ _ => none) x F
  ord := (fun _ => [])
open Go.Value (int slice string bool pointer agg tuple func) in
open Go.IntKind (i64) in
set_option maxRecDepth 100000 in
theorem f2_vc (x : F2X) (F : Atom) (hc : Con.cond f2C x) (hr : Con.rdc f2C x F) :
  Look F ⟨x.c1, 0, none⟩ (pointer (some ⟨x.b, 0, none⟩)) ∧ Look F ⟨x.c2, 0, none⟩ (slice x.ca x.cn x.cc) ∧ FnOk Try.prog 25 (finC x.d) ∧ true = true ∧ ∃ (x_1 : FinX), [pointer (some ⟨x.b, 0, none⟩), slice x.ca x.cn x.cc, int i64 x.a] = [pointer (some ⟨x_1.b, 0, none⟩), slice x_1.ca x_1.cn x_1.cc, int i64 x_1.a] ∧ ([] : List Atom) = [] ∧ ((IsSrc 1 (ints x_1.cf) x_1.ca x_1.cn ∧ x_1.cn * 8 ≤ 140737488351232) ∧ (↑(nS x_1.c) : Int) - x_1.a ≤ (↑x.d : Int)) ∧ (LatIn (Atom.pred (rest [(0, F)] [])) x_1.b x_1.c ∧ Srcd (Atom.pred (rest [(0, F)] [])) x_1.ca (ints x_1.cf)) ∧ ∀ (y : Unit), True → Done f2C x F (Ending.returned (bool !finB x_1.c x_1.cf x.d x_1.a)) [(0, F)] := by
  obtain ⟨⟨c1, c2, b, c, ca, cn, cc, cf, a⟩, d⟩ := x
  obtain ⟨k1, k2, k3⟩ := hc
  obtain ⟨h1, h2, h3, h4⟩ := hr
  exact ⟨h1, h2, k1, rfl, ⟨b, c, ca, cn, cc, cf, a⟩, rfl, rfl, ⟨k2, k3⟩, ⟨h3.sub (sub_rest 0 (by simp) rfl), h4.sub (sub_rest 0 (by simp) rfl)⟩, fun _ _ => ⟨(), trivial, rfl, Ent.pick [0] rfl rfl⟩⟩
set_option maxRecDepth 100000 in
theorem f2_ok : FnOk Try.prog 58 f2C :=
  fnOk (N := 10) (by kernel_rfl) Try.func58 rfl (by kernel_rfl) (fun _ => Nat.le_of_ble_eq_true rfl) f2_H [] fun x F hc hr => Eq.mpr (by kernel_rfl) (f2_vc x F hc hr)
theorem f1_good (c1 c2 b : Nat) (c : ChD) (ca : Option Addr) (cn cc : Nat) (cf : List Int) (hs : IsSrc 1 (ints cf) ca cn) (hn : cn * 8 ≤ 140737488351232) : FnOk Try.prog 56 (goC (capsM 2 c1 c2 0 0) (f1B c cf) (fun a => isS c a = true) (f1R c1 c2 b c ca cn cc cf) f1R_mono) :=
  f1_ok.conseq fun a F I w hc hr hs' => ⟨⟨c1, c2, b, c, ca, cn, cc, cf, a⟩, I, Imm.le_refl I, ⟨hc, hs, hn⟩, hr, rfl, hs', fun _ _ => ⟨(), trivial, rfl, Ent.refl _⟩⟩
theorem f2_good (d c1 c2 b : Nat) (c : ChD) (ca : Option Addr) (cn cc : Nat) (cf : List Int) (hs : IsSrc 1 (ints cf) ca cn) (hn : cn * 8 ≤ 140737488351232) (ih : FnOk Try.prog 25 (finC d)) : FnOk Try.prog 58 (goC (capsM 2 c1 c2 0 0) (fun a => !finB c cf d a) (fun a => (nS c : Int) - a ≤ d) (f1R c1 c2 b c ca cn cc cf) f1R_mono) :=
  f2_ok.conseq fun a F I w hc hr hs' => ⟨⟨⟨c1, c2, b, c, ca, cn, cc, cf, a⟩, d⟩, I, Imm.le_refl I, ⟨ih, ⟨hs, hn⟩, hc⟩, hr, rfl, hs', fun _ _ => ⟨(), trivial, rfl, Ent.refl _⟩⟩
structure FinY extends FinX where
  d : Nat
def finS : Con where
  X := FinY
  Y := Unit
  args x := [.pointer (some ⟨x.b, 0, none⟩), .slice x.ca x.cn x.cc, .int .i64 x.a]
  pre _ := []
  cond x := (IsSrc 1 (ints x.cf) x.ca x.cn ∧ x.cn * 8 ≤ 140737488351232) ∧ (nS x.c : Int) - x.a ≤ x.d ∧ (0 < x.d → FnOk Try.prog 25 (finC (x.d - 1)))
  rdc x F := LatIn F x.b x.c ∧ Srcd F x.ca (ints x.cf)
  rel _ _ := True
  val x _ := .returned (.bool (finB x.c x.cf x.d x.a))
  post _ _ := []
  rmono _ _ _ h hk := ⟨hk.1.sub h, hk.2.sub h⟩
def finOv (_x : FinY) (_F : Atom) : List (Nat × Nat × OH) := [(0, 0, .n 1000), (0, 1, .n 1010), (1, 0, .q [.atj 1000]), (1, 2, .c stateC [] []), (3, 0, .q [.atj 1000]), (3, 2, .c coC [] []), (4, 0, .q [.atj 1000]), (4, 3, .q [.ex 0 .slice]), (4, 5, .qo (ixQ 1)), (4, 6, .q [.ex 0 .slice]), (4, 8, .c (cfC 56 2) [] []),
  (5, 0, .q [.atj 1000]), (5, 4, .q [.ex 0 .slice]), (5, 6, .qo (ixQ 13)), (5, 8, .q [.ex 0 (.int .i64)]), (5, 11, .q [.atj 1000]), (5, 14, .q [.ex 0 .slice]), (5, 16, .qo (ixQ 1)), (5, 17, .q [.ex 0 .slice]),
  (7, 0, .q [.atj 1000]), (7, 3, .q [.ex 0 .slice]), (7, 5, .qo (ixQ 1)), (7, 6, .q [.ex 0 .slice]), (7, 8, .c (cfC 58 2) [] [])]
noncomputable def fin_H (x : Con.X finS) (F : Atom) : Hints where
  op := hk ((finOv x F) ++ [])
  inv := (fun _ _ _ => none) x F
  cut := (fun _ _ _ => none) x F
  ord := (fun _ => [])
open Go.Value (int slice string bool pointer agg tuple func) in
open Go.IntKind (i64) in
set_option maxRecDepth 100000 in
theorem fin_vc (x : FinY) (F : Atom) (hc : Con.cond finS x) (hr : Con.rdc finS x F) :
  ∀ (b b_1 : Nat),
 Same ⟨b, 0, none⟩ b ∧
 FnOk Try.prog 51 stateC ∧
 true = true ∧
 ∃ (x_1 : LqX),
 [pointer (some ⟨x.b, 0, none⟩), int i64 x.a] = [pointer (some ⟨x_1.b, 0, none⟩), int i64 x_1.a] ∧
 ([] : List Atom) = [] ∧
 True ∧
 LatIn (Atom.pred (rest [(0, F), (1000, Atom.cells b [pointer (some ⟨x.b, 0, none⟩)] 34), (1010, Atom.cells b_1 [slice x.ca x.cn x.cc] 29)] [])) x_1.b x_1.c ∧
 ∀ (y : Unit),
 True →
 Br (!isS x_1.c x_1.a) (Done finS x F (Ending.returned (bool false)) [(0, F), (1000, Atom.cells b [pointer (some ⟨x.b, 0, none⟩)] 34), (1010, Atom.cells b_1 [slice x.ca x.cn x.cc] 29)])
 (Same ⟨b, 0, none⟩ b ∧
 FnOk Try.prog 19 coC ∧
 true = true ∧
 ∃ (x_2 : LqX),
 [pointer (some ⟨x.b, 0, none⟩), int i64 x.a] = [pointer (some ⟨x_2.b, 0, none⟩), int i64 x_2.a] ∧
 ([] : List Atom) = [] ∧
 True ∧
 LatIn (Atom.pred (rest [(0, F), (1000, Atom.cells b [pointer (some ⟨x.b, 0, none⟩)] 34), (1010, Atom.cells b_1 [slice x.ca x.cn x.cc] 29)] [])) x_2.b x_2.c ∧
 ∀ (y : Unit),
 True →
 Br (coB x_2.c x_2.a)
 (Same ⟨b, 0, none⟩ b ∧
 ∃ (a : Option Addr),
 ∃ (l : Nat),
 ∃ (c : Nat),
 Look F ⟨x.b, 9, none⟩ (slice a l c) ∧
 QOpOk Try.prog (opIn Try.f25 4 5) (ixQ 1) ∧
 ∃ (x_3 : IxQX),
 [slice a l c, int i64 x.a] = [slice (some ⟨x_3.b, x_3.o, none⟩) x_3.len x_3.cap, int i64 x_3.n] ∧
 ((0 : Int) ≤ x_3.n ∧ x_3.n < (↑x_3.len : Int)) ∧
 ∃ (a : Option Addr),
 ∃ (l : Nat),
 ∃ (c : Nat),
 Look F ⟨x_3.b, x_3.o + x_3.n.toNat * 1, none⟩ (slice a l c) ∧
 FnOk Try.prog 53 (cfC (56 : FuncId) 2) ∧
 true = true ∧
 ∃ (x_4 : IxX (56 : FuncId) 2),
 [slice a l c, func (Fn.func 56) { toList := [] } { toList := [pointer (some ⟨b, 0, none⟩), pointer (some ⟨b_1, 0, none⟩)] }] = [slice x_4.a x_4.n x_4.cap, func (Fn.func 56) { toList := [] } { toList := [pointer (some ⟨x_4.L.c1, 0, none⟩), pointer (some ⟨x_4.L.c2, 0, none⟩)] }] ∧
 ([] : List Atom) = [] ∧ (IsSrc 1 (ints x_4.xs) x_4.a x_4.n ∧ x_4.n * 8 ≤ 140737488351232 ∧ ∀ (u : Int), u ∈ x_4.xs → x_4.L.ok u) ∧ (Srcd (Atom.pred (rest [(0, F), (1000, Atom.cells b [pointer (some ⟨x.b, 0, none⟩)] 34), (1010, Atom.cells b_1 [slice x.ca x.cn x.cc] 29)] [])) x_4.a (ints x_4.xs) ∧ x_4.L.7 (Atom.pred (rest [(0, F), (1000, Atom.cells b [pointer (some ⟨x.b, 0, none⟩)] 34), (1010, Atom.cells b_1 [slice x.ca x.cn x.cc] 29)] []))) ∧ ∀ (y : Unit), True → Done finS x F (Ending.returned (bool (x_4.xs.any x_4.L.g))) [(0, F), (1000, Atom.cells b [pointer (some ⟨x.b, 0, none⟩)] 34), (1010, Atom.cells b_1 [slice x.ca x.cn x.cc] 29)])
 (Same ⟨b, 0, none⟩ b ∧
 ∃ (a : Option Addr),
 ∃ (l : Nat),
 ∃ (c : Nat),
 Look F ⟨x.b, 3, none⟩ (slice a l c) ∧
 QOpOk Try.prog (opIn Try.f25 5 6) (ixQ 13) ∧
 ∃ (x_3 : IxQX),
 [slice a l c, int i64 x.a] = [slice (some ⟨x_3.b, x_3.o, none⟩) x_3.len x_3.cap, int i64 x_3.n] ∧
 ((0 : Int) ≤ x_3.n ∧ x_3.n < (↑x_3.len : Int)) ∧
 ∃ (n : Int),
 Look F ⟨x_3.b, x_3.o + x_3.n.toNat * 13 + 1, none⟩ (int i64 n) ∧
 Br (n != (2 : Int)) (Done finS x F (Ending.returned (bool false)) [(0, F), (1000, Atom.cells b [pointer (some ⟨x.b, 0, none⟩)] 34), (1010, Atom.cells b_1 [slice x.ca x.cn x.cc] 29)])
 (Same ⟨b, 0, none⟩ b ∧
 ∃ (a : Option Addr),
 ∃ (l : Nat),
 ∃ (c : Nat),
 Look F ⟨x.b, 9, none⟩ (slice a l c) ∧
 QOpOk Try.prog (opIn Try.f25 5 16) (ixQ 1) ∧
 ∃ (x_4 : IxQX),
 [slice a l c, int i64 x.a] = [slice (some ⟨x_4.b, x_4.o, none⟩) x_4.len x_4.cap, int i64 x_4.n] ∧
 ((0 : Int) ≤ x_4.n ∧ x_4.n < (↑x_4.len : Int)) ∧
 ∃ (a : Option Addr),
 ∃ (l : Nat),
 ∃ (c : Nat),
 Look F ⟨x_4.b, x_4.o + x_4.n.toNat * 1, none⟩ (slice a l c) ∧
 Br ((↑l : Int) == (0 : Int)) (Done finS x F (Ending.returned (bool false)) [(0, F), (1000, Atom.cells b [pointer (some ⟨x.b, 0, none⟩)] 34), (1010, Atom.cells b_1 [slice x.ca x.cn x.cc] 29)])
 (Same ⟨b, 0, none⟩ b ∧
 ∃ (a : Option Addr),
 ∃ (l : Nat),
 ∃ (c : Nat),
 Look F ⟨x.b, 9, none⟩ (slice a l c) ∧
 QOpOk Try.prog (opIn Try.f25 7 5) (ixQ 1) ∧
 ∃ (x_5 : IxQX),
 [slice a l c, int i64 x.a] = [slice (some ⟨x_5.b, x_5.o, none⟩) x_5.len x_5.cap, int i64 x_5.n] ∧
 ((0 : Int) ≤ x_5.n ∧ x_5.n < (↑x_5.len : Int)) ∧
 ∃ (a : Option Addr),
 ∃ (l : Nat),
 ∃ (c : Nat),
 Look F ⟨x_5.b, x_5.o + x_5.n.toNat * 1, none⟩ (slice a l c) ∧
 FnOk Try.prog 53 (cfC (58 : FuncId) 2) ∧
 true = true ∧
 ∃ (x_6 : IxX (58 : FuncId) 2),
 [slice a l c, func (Fn.func 58) { toList := [] } { toList := [pointer (some ⟨b, 0, none⟩), pointer (some ⟨b_1, 0, none⟩)] }] = [slice x_6.a x_6.n x_6.cap, func (Fn.func 58) { toList := [] } { toList := [pointer (some ⟨x_6.L.c1, 0, none⟩), pointer (some ⟨x_6.L.c2, 0, none⟩)] }] ∧
 ([] : List Atom) = [] ∧
 (IsSrc 1 (ints x_6.xs) x_6.a x_6.n ∧ x_6.n * 8 ≤ 140737488351232 ∧ ∀ (u : Int), u ∈ x_6.xs → x_6.L.ok u) ∧
 (Srcd (Atom.pred (rest [(0, F), (1000, Atom.cells b [pointer (some ⟨x.b, 0, none⟩)] 34), (1010, Atom.cells b_1 [slice x.ca x.cn x.cc] 29)] [])) x_6.a (ints x_6.xs) ∧ x_6.L.7 (Atom.pred (rest [(0, F), (1000, Atom.cells b [pointer (some ⟨x.b, 0, none⟩)] 34), (1010, Atom.cells b_1 [slice x.ca x.cn x.cc] 29)] []))) ∧ ∀ (y : Unit), True → Done finS x F (Ending.returned (bool !x_6.xs.any x_6.L.g)) [(0, F), (1000, Atom.cells b [pointer (some ⟨x.b, 0, none⟩)] 34), (1010, Atom.cells b_1 [slice x.ca x.cn x.cc] 29)])))) := by
  obtain ⟨⟨b, c, ca, cn, cc, cf, a⟩, d⟩ := x
  obtain ⟨⟨k1, k2⟩, k3, ih⟩ := hc
  obtain ⟨h1, h2⟩ := hr
  dsimp only at k1 k2 k3 ih h1 h2
  intro c1 c2
  have hs : Sub F (.pred (rest [(0, F), (1000, .cells c1 [.pointer (some ⟨b, 0, none⟩)] 34), (1010, .cells c2 [.slice ca cn cc] 29)] [])) := sub_rest 0 (by simp) rfl
  refine ⟨⟨rfl, rfl⟩, state_ok, rfl, ⟨b, c, a⟩, rfl, rfl, trivial, h1.sub hs, fun _ _ => br_intro (fun q1 => ⟨(), trivial, retB ?_, Ent.pick [0] rfl rfl⟩) (fun q1 => ?_)⟩
  · dsimp only at q1 ⊢
    cases d with
    | zero => rfl
    | succ d => rw [finB, q1]; rfl
  dsimp only at q1
  have q1' : isS c a = true := by simpa using q1
  obtain ⟨i, rfl, hi⟩ := isS_spec q1'
  obtain ⟨d, rfl⟩ : ∃ e, d = e + 1 := ⟨d - 1, by omega⟩
  replace ih : FnOk Try.prog 25 (finC d) := ih (Nat.succ_pos d)
  obtain ⟨s, hsi⟩ := get_st hi
  obtain ⟨b1, o1, cap, h5, hst⟩ := h1.sts
  obtain ⟨r, ⟨vk, ve, vx, vt, vd, vi, vp, rfl, -⟩, hL⟩ := hst i s hsi
  obtain ⟨b4, o4, cap4, h9, hkd⟩ := h1.kd
  obtain ⟨w, hw, hI⟩ := hkd i hi
  obtain ⟨ka, kcap, rfl, -⟩ := SlIn.open hI
  obtain ⟨is1, sd1, hs1, -, -⟩ := IntsIn.srcd hI
  have ek : kd c (i : Int).toNat = s.kind := kd_get hsi
  have e1 : o4 + (i : Int).toNat * 1 = o4 + i := by omega
  have e2 : (i : Int).toNat = i := rfl
  refine ⟨⟨rfl, rfl⟩, co_ok, rfl, ⟨b, c, i⟩, rfl, rfl, trivial, h1.sub hs, fun _ _ => br_intro (fun q2 => ?_) (fun q2 => ?_)⟩
  · dsimp only at q2
    refine ⟨⟨rfl, rfl⟩, _, _, _, h9, ixq_ok 1 rfl rfl rfl rfl, ⟨b4, o4, nS c, cap4, i⟩, rfl, by dsimp only; omega, _, _, _, by dsimp only; rw [e1]; exact hw, cfc_ok, rfl, ⟨⟨c1, c2, 0, 0, _, _, _, _, f1_good c1 c2 b c ca cn cc cf k1 k2⟩, ka, _, kcap, kidsP c i⟩, rfl, rfl, ⟨is1, hs1, fun u hu => ?_⟩, ⟨sd1.sub hs, Look.rest (j := 1000) (by simp) (Look.cells rfl), Look.rest (j := 1010) (by simp) (Look.cells rfl), h1.sub hs, h2.sub hs⟩, fun _ _ => ⟨(), trivial, retB ?_, Ent.pick [0] rfl rfl⟩⟩
    · obtain ⟨m, rfl, -, hm, -⟩ := mem_kidsOf.1 hu
      exact isS_nat hm
    · dsimp only
      rw [finB, q1, q2]; rfl
  · dsimp only at q2
    refine ⟨⟨rfl, rfl⟩, _, _, _, h5, ixq_ok 13 rfl rfl rfl rfl, ⟨b1, o1, nS c, cap, i⟩, rfl, by dsimp only; omega, s.kind, hL 1 _ rfl, br_intro (fun q3 => ⟨(), trivial, retB ?_, Ent.pick [0] rfl rfl⟩) (fun q3 => ⟨⟨rfl, rfl⟩, _, _, _, h9, ixq_ok 1 rfl rfl rfl rfl, ⟨b4, o4, nS c, cap4, i⟩, rfl, by dsimp only; omega, _, _, _, by dsimp only; rw [e1]; exact hw, br_intro (fun q4 => ⟨(), trivial, retB ?_, Ent.pick [0] rfl rfl⟩) (fun q4 => ⟨⟨rfl, rfl⟩, _, _, _, h9, ixq_ok 1 rfl rfl rfl rfl, ⟨b4, o4, nS c, cap4, i⟩, rfl, by dsimp only; omega, _, _, _, by dsimp only; rw [e1]; exact hw, cfd_ok, rfl, ⟨⟨c1, c2, 0, 0, _, _, _, _, f2_good d c1 c2 b c ca cn cc cf k1 k2 ih⟩, ka, _, kcap, kidsP c i⟩, rfl, rfl, ⟨is1, hs1, fun u hu => ?_⟩, ⟨sd1.sub hs, Look.rest (j := 1000) (by simp) (Look.cells rfl), Look.rest (j := 1010) (by simp) (Look.cells rfl), h1.sub hs, h2.sub hs⟩, fun _ _ => ⟨(), trivial, retB ?_, Ent.pick [0] rfl rfl⟩⟩)⟩)⟩
    · dsimp only
      rw [finB, q1, q2, ek, q3]; rfl
    · dsimp only
      rw [finB, q1, q2, ek, q3, e2, q4]; rfl
    · obtain ⟨m, rfl, -, hm, hpm, -⟩ := mem_kidsOf.1 hu
      have := pr_lt h1.pl hm
      show (nS c : Int) - (m : Int) ≤ d
      omega
    · dsimp only
      rw [finB, q1, q2, ek, q3, e2, q4]; rfl
set_option maxRecDepth 100000 in
theorem fin_ok : FnOk Try.prog 25 finS :=
  fnOk (N := 54) (by kernel_rfl) Try.func25 rfl (by kernel_rfl) (fun _ => Nat.le_of_ble_eq_true rfl) fin_H [] fun x F hc hr => Eq.mpr (by kernel_rfl) (fin_vc x F hc hr)
theorem fin_all : ∀ d, FnOk Try.prog 25 (finC d) := by
  intro d
  induction d with
  | zero => exact fin_ok.conseq fun x F I w hc hr hs => ⟨⟨x, 0⟩, I, Imm.le_refl I, ⟨hc.1, hc.2, fun h => absurd h (Nat.lt_irrefl 0)⟩, hr, rfl, hs, fun _ _ => ⟨(), trivial, rfl, Ent.refl _⟩⟩
  | succ d ih => exact fin_ok.conseq fun x F I w hc hr hs => ⟨⟨x, d + 1⟩, I, Imm.le_refl I, ⟨hc.1, hc.2, fun _ => ih⟩, hr, rfl, hs, fun _ _ => ⟨(), trivial, rfl, Ent.refl _⟩⟩
theorem any_cong {α : Type} {f g : α → Bool} : ∀ {l : List α}, (∀ x ∈ l, f x = g x) → l.any f = l.any g
  | [], _ => rfl
  | x :: l, h => by rw [List.any_cons, List.any_cons, h x (List.mem_cons_self ..), any_cong fun y hy => h y (List.mem_cons_of_mem _ hy)]
theorem finB_no {c : ChD} {cf : List Int} {a : Int} (h : isS c a = false) (d : Nat) : finB c cf d a = false := by
  cases d with
  | zero => rfl
  | succ d => rw [finB, h]; rfl
theorem finB_fuel {c : ChD} (hp : Placed c) (cf : List Int) : ∀ (d e : Nat) (a : Int), (nS c : Int) - a ≤ d → (nS c : Int) - a ≤ e → finB c cf d a = finB c cf e a := by
  intro d
  induction d with
  | zero =>
    intro e a h1 h2
    have h : isS c a = false := by
      cases h : isS c a with
      | false => rfl
      | true =>
        obtain ⟨i, rfl, hi⟩ := isS_spec h
        omega
    rw [finB_no h, finB_no h]
  | succ d ih =>
    intro e a h1 h2
    cases h : isS c a with
    | false => rw [finB_no h, finB_no h]
    | true =>
      obtain ⟨i, rfl, hi⟩ := isS_spec h
      obtain ⟨e, rfl⟩ : ∃ f, e = f + 1 := ⟨e - 1, by omega⟩
      have : (kidsP c (i : Int).toNat).any (fun k => !finB c cf d k) = (kidsP c (i : Int).toNat).any (fun k => !finB c cf e k) := any_cong fun k hk => by
        obtain ⟨m, rfl, -, hm, hpm, -⟩ := mem_kidsOf.1 hk
        have := pr_lt hp hm
        rw [Int.toNat_natCast] at hpm
        rw [ih e m (by omega) (by omega)]
      rw [finB, finB, this]
def finVC : Con where
  X := FinX
  Y := Unit
  args x := [.pointer (some ⟨x.b, 0, none⟩), .slice x.ca x.cn x.cc, .int .i64 x.a]
  pre _ := []
  cond x := IsSrc 1 (ints x.cf) x.ca x.cn ∧ x.cn * 8 ≤ 140737488351232
  rdc x F := LatIn F x.b x.c ∧ Srcd F x.ca (ints x.cf)
  rel _ _ := True
  val x _ := .returned (.bool (finB x.c x.cf (nS x.c) x.a))
  post _ _ := []
  rmono _ _ _ h hk := ⟨hk.1.sub h, hk.2.sub h⟩
theorem finv_ok : FnOk Try.prog 25 finVC := by
  refine ⟨fun x F I w hc hr hs => ?_⟩
  have h := (fin_all ((nS x.c : Int) - x.a).toNat).h x F I w ⟨hc, by omega⟩ hr hs
  refine h.mono ?_
  rintro e w' ⟨y, J, h1, rfl, h3⟩
  refine ⟨y, J, h1, ?_, h3⟩
  refine retB ?_
  cases ha : isS x.c x.a with
  | false => rw [finB_no ha, finB_no ha]
  | true =>
    obtain ⟨i, hi, hin⟩ := isS_spec ha
    exact finB_fuel hr.1.pl _ _ _ _ (by omega) (by omega)
end Go.Proofs.Ytfmadkaiigiaiaa
