/- A lattice's questions: state, Inside, Atomic, Compound, plain. -/
import Derived.Test.YtkmdgnbfojkcnaaLatC
import Derived.Test.YtkmdgnbfojkcnaaProg
import Derived.Test.YtkmdgnbfojkcnaaLatE
set_option linter.all false
namespace Go.Proofs.Ytkmdgnbfojkcnaa
open Go
set_option maxHeartbeats 1000000
structure LqX where
  b : Nat
  c : ChD
  a : Int
def isS (c : ChD) (a : Int) : Bool := decide (a ≥ 0) && decide (a < nS c)
theorem isS_spec {c : ChD} {a : Int} (h : isS c a = true) : ∃ i : Nat, a = i ∧ i < nS c := by
  unfold isS at h
  simp only [Bool.and_eq_true, decide_eq_true_eq] at h
  exact ⟨a.toNat, by omega, by omega⟩
theorem isS_nat {c : ChD} {i : Nat} (h : i < nS c) : isS c i = true := by
  unfold isS
  simp only [Bool.and_eq_true, decide_eq_true_eq]
  omega
def stateC : Con where
  X := LqX
  Y := Unit
  args x := [.pointer (some ⟨x.b, 0, none⟩), .int .i64 x.a]
  pre _ := []
  cond _ := True
  rdc x F := LatIn F x.b x.c
  rel _ _ := True
  val x _ := .returned (.bool (isS x.c x.a))
  post _ _ := []
  rmono _ _ _ h hk := hk.sub h
def stateOv (_x : LqX) (_F : Atom) : List (Nat × Nat × OH) := [(1, 8, .q [.ex 0 .slice])]
noncomputable def state_H (x : Con.X stateC) (F : Atom) : Hints where
  op := hk ((stateOv x F) ++ [])
  inv := (fun _ _ _ => none) x F
  cut := (fun _ _ _ => none) x F
  ord := (fun _ => [])
open Go.Value (int slice string bool pointer agg tuple func) in
open Go.IntKind (i64) in
set_option maxRecDepth 100000 in
theorem state_vc (x : LqX) (F : Atom) (hc : Con.cond stateC x) (hr : Con.rdc stateC x F) :
  Br (decide (x.a ≥ (0 : Int))) (∃ (a : Option Addr), ∃ (l : Nat), ∃ (c : Nat), Look F ⟨x.b, 3, none⟩ (slice a l c) ∧ Done stateC x F (Ending.returned (bool (decide (x.a < (↑l : Int))))) [(0, F)]) (Done stateC x F (Ending.returned (bool false)) [(0, F)]) := by
  obtain ⟨b, c, a⟩ := x
  replace hr : LatIn F b c := hr
  obtain ⟨b1, o1, cap, h3, -⟩ := hr.sts
  refine br_decide (fun h => ⟨_, _, _, h3, (), trivial, retB ?_, Ent.pick [0] rfl rfl⟩) (fun h => ⟨(), trivial, retB ?_, Ent.pick [0] rfl rfl⟩)
  · unfold isS; rw [decide_eq_true h]; rfl
  · unfold isS; rw [decide_eq_false h]; rfl
set_option maxRecDepth 100000 in
theorem state_ok : FnOk Try.prog 60 stateC :=
  fnOk (N := 17) (by kernel_rfl) Try.func60 rfl (by kernel_rfl) (fun _ => Nat.le_of_ble_eq_true rfl) state_H [] fun x F hc hr => Eq.mpr (by kernel_rfl) (state_vc x F hc hr)
structure L2X where
  b : Nat
  c : ChD
  a : Int
  d : Int
def inB (c : ChD) (a d : Int) : Bool := isS c a && isS c d && insB c a.toNat d.toNat
def insideC : Con where
  X := L2X
  Y := Unit
  args x := [.pointer (some ⟨x.b, 0, none⟩), .int .i64 x.a, .int .i64 x.d]
  pre _ := []
  cond _ := True
  rdc x F := LatIn F x.b x.c
  rel _ _ := True
  val x _ := .returned (.bool (inB x.c x.a x.d))
  post _ _ := []
  rmono _ _ _ h hk := hk.sub h
def insideOv (_x : L2X) (_F : Atom) : List (Nat × Nat × OH) := [(1, 2, .c stateC [] []), (1, 6, .c stateC [] []), (1, 12, .q [.ex 0 .slice]), (1, 14, .qo (ixQ 1)), (1, 15, .q [.ex 0 .slice]), (1, 17, .qo (ixQ 1)), (1, 18, .q [.ex 0 .bool])]
noncomputable def inside_H (x : Con.X insideC) (F : Atom) : Hints where
  op := hk ((insideOv x F) ++ [])
  inv := (fun _ _ _ => none) x F
  cut := (fun _ _ _ => none) x F
  ord := (fun _ => [])
open Go.Value (int slice string bool pointer agg tuple func) in
open Go.IntKind (i64) in
set_option maxRecDepth 100000 in
theorem inside_vc (x : L2X) (F : Atom) (hc : Con.cond insideC x) (hr : Con.rdc insideC x F) :
  FnOk Try.prog 60 stateC ∧
 true = true ∧
 ∃ (x_1 : LqX),
 [pointer (some ⟨x.b, 0, none⟩), int i64 x.a] = [pointer (some ⟨x_1.b, 0, none⟩), int i64 x_1.a] ∧
 ([] : List Atom) = [] ∧
 True ∧
 LatIn (Atom.pred (rest [(0, F)] [])) x_1.b x_1.c ∧
 ∀ (y : Unit),
 True →
 Br (isS x_1.c x_1.a)
 (FnOk Try.prog 60 stateC ∧
 true = true ∧
 ∃ (x_2 : LqX),
 [pointer (some ⟨x.b, 0, none⟩), int i64 x.d] = [pointer (some ⟨x_2.b, 0, none⟩), int i64 x_2.a] ∧
 ([] : List Atom) = [] ∧
 True ∧
 LatIn (Atom.pred (rest [(0, F)] [])) x_2.b x_2.c ∧
 ∀ (y : Unit),
 True →
 Br (isS x_2.c x_2.a)
 (∃ (a : Option Addr),
 ∃ (l : Nat), ∃ (c : Nat), Look F ⟨x.b, 8, none⟩ (slice a l c) ∧ QOpOk Try.prog (opIn Try.f18 1 14) (ixQ 1) ∧ ∃ (x_3 : IxQX), [slice a l c, int i64 x.a] = [slice (some ⟨x_3.b, x_3.o, none⟩) x_3.len x_3.cap, int i64 x_3.n] ∧ ((0 : Int) ≤ x_3.n ∧ x_3.n < (↑x_3.len : Int)) ∧ ∃ (a : Option Addr), ∃ (l : Nat), ∃ (c : Nat), Look F ⟨x_3.b, x_3.o + x_3.n.toNat * 1, none⟩ (slice a l c) ∧ QOpOk Try.prog (opIn Try.f18 1 17) (ixQ 1) ∧ ∃ (x_4 : IxQX), [slice a l c, int i64 x.d] = [slice (some ⟨x_4.b, x_4.o, none⟩) x_4.len x_4.cap, int i64 x_4.n] ∧ ((0 : Int) ≤ x_4.n ∧ x_4.n < (↑x_4.len : Int)) ∧ ∃ (b : Bool), Look F ⟨x_4.b, x_4.o + x_4.n.toNat * 1, none⟩ (bool b) ∧ Done insideC x F (Ending.returned (bool b)) [(0, F)])
 (Done insideC x F (Ending.returned (bool false)) [(0, F)]))
 (Done insideC x F (Ending.returned (bool false)) [(0, F)]) := by
  obtain ⟨b, c, a, d⟩ := x
  replace hr : LatIn F b c := hr
  have hs : Sub F (.pred (rest [(0, F)] [])) := sub_rest 0 (by simp) rfl
  refine ⟨state_ok, rfl, ⟨b, c, a⟩, rfl, rfl, trivial, hr.sub hs, fun _ _ => br_intro (fun h1 => ⟨state_ok, rfl, ⟨b, c, d⟩, rfl, rfl, trivial, hr.sub hs, fun _ _ => br_intro (fun h2 => ?_) (fun h2 => ⟨(), trivial, retB ?_, Ent.pick [0] rfl rfl⟩)⟩) (fun h1 => ⟨(), trivial, retB ?_, Ent.pick [0] rfl rfl⟩)⟩
  · dsimp only at h1 h2
    obtain ⟨i, rfl, hi⟩ := isS_spec h1
    obtain ⟨j, rfl, hj⟩ := isS_spec h2
    obtain ⟨b2, o2, cap, h8, hab⟩ := hr.ab
    obtain ⟨b3, o3, cap3, hrow, hcell⟩ := hab i hi
    have e1 : ∀ o k : Nat, o + (k : Int).toNat * 1 = o + k := fun o k => by omega
    refine ⟨_, _, _, h8, ixq_ok 1 rfl rfl rfl rfl, ⟨b2, o2, nS c, cap, i⟩, rfl, by dsimp only; omega, _, _, _, by dsimp only; rw [e1]; exact hrow, ixq_ok 1 rfl rfl rfl rfl, ⟨b3, o3, nS c, cap3, j⟩, rfl, by dsimp only; omega, _, by dsimp only; rw [e1]; exact hcell j hj, (), trivial, retB ?_, Ent.pick [0] rfl rfl⟩
    unfold inB; rw [h1, h2]; rfl
  · dsimp only at h1 h2 ⊢
    unfold inB; rw [h1, h2]; rfl
  · dsimp only at h1 ⊢
    unfold inB; rw [h1]; rfl
set_option maxRecDepth 100000 in
theorem inside_ok : FnOk Try.prog 18 insideC :=
  fnOk (N := 27) (by kernel_rfl) Try.func18 rfl (by kernel_rfl) (fun _ => Nat.le_of_ble_eq_true rfl) inside_H [] fun x F hc hr => Eq.mpr (by kernel_rfl) (inside_vc x F hc hr)
def atB (c : ChD) (a : Int) : Bool := isS c a && decide (kd c a.toNat < 4) && ((kidsP c a.toNat).length : Int) == 0
def coB (c : ChD) (a : Int) : Bool := isS c a && decide (kd c a.toNat ≤ 1) && decide (((kidsP c a.toNat).length : Int) > 0)
def atC : Con where
  X := LqX
  Y := Unit
  args x := [.pointer (some ⟨x.b, 0, none⟩), .int .i64 x.a]
  pre _ := []
  cond _ := True
  rdc x F := LatIn F x.b x.c
  rel _ _ := True
  val x _ := .returned (.bool (atB x.c x.a))
  post _ _ := []
  rmono _ _ _ h hk := hk.sub h
def atOv (_x : LqX) (_F : Atom) : List (Nat × Nat × OH) := [(1, 2, .c stateC [] []), (1, 8, .q [.ex 0 .slice]), (1, 10, .qo (ixQ 13)), (1, 12, .q [.ex 0 (.int .i64)]), (1, 19, .q [.ex 0 .slice]), (1, 21, .qo (ixQ 1)), (1, 22, .q [.ex 0 .slice])]
def coC : Con where
  X := LqX
  Y := Unit
  args x := [.pointer (some ⟨x.b, 0, none⟩), .int .i64 x.a]
  pre _ := []
  cond _ := True
  rdc x F := LatIn F x.b x.c
  rel _ _ := True
  val x _ := .returned (.bool (coB x.c x.a))
  post _ _ := []
  rmono _ _ _ h hk := hk.sub h
def coOv (_x : LqX) (_F : Atom) : List (Nat × Nat × OH) := [(1, 2, .c stateC [] []), (1, 8, .q [.ex 0 .slice]), (1, 10, .qo (ixQ 13)), (1, 12, .q [.ex 0 (.int .i64)]), (1, 19, .q [.ex 0 .slice]), (1, 21, .qo (ixQ 1)), (1, 22, .q [.ex 0 .slice])]
noncomputable def at_H (x : Con.X atC) (F : Atom) : Hints where
  op := hk ((atOv x F) ++ [])
  inv := (fun _ _ _ => none) x F
  cut := (fun _ _ _ => none) x F
  ord := (fun _ => [])
open Go.Value (int slice string bool pointer agg tuple func) in
open Go.IntKind (i64) in
set_option maxRecDepth 100000 in
theorem at_vc (x : LqX) (F : Atom) (hc : Con.cond atC x) (hr : Con.rdc atC x F) :
  FnOk Try.prog 60 stateC ∧
 true = true ∧
 ∃ (x_1 : LqX),
 [pointer (some ⟨x.b, 0, none⟩), int i64 x.a] = [pointer (some ⟨x_1.b, 0, none⟩), int i64 x_1.a] ∧
 ([] : List Atom) = [] ∧
 True ∧
 LatIn (Atom.pred (rest [(0, F)] [])) x_1.b x_1.c ∧
 ∀ (y : Unit),
 True →
 Br (isS x_1.c x_1.a)
 (∃ (a : Option Addr),
 ∃ (l : Nat),
 ∃ (c : Nat),
 Look F ⟨x.b, 3, none⟩ (slice a l c) ∧
 QOpOk Try.prog (opIn Try.f20 1 10) (ixQ 13) ∧
 ∃ (x_2 : IxQX),
 [slice a l c, int i64 x.a] = [slice (some ⟨x_2.b, x_2.o, none⟩) x_2.len x_2.cap, int i64 x_2.n] ∧
 ((0 : Int) ≤ x_2.n ∧ x_2.n < (↑x_2.len : Int)) ∧ ∃ (n : Int), Look F ⟨x_2.b, x_2.o + x_2.n.toNat * 13 + 1, none⟩ (int i64 n) ∧ Br (decide (n < (4 : Int))) (∃ (a : Option Addr), ∃ (l : Nat), ∃ (c : Nat), Look F ⟨x.b, 9, none⟩ (slice a l c) ∧ QOpOk Try.prog (opIn Try.f20 1 21) (ixQ 1) ∧ ∃ (x_3 : IxQX), [slice a l c, int i64 x.a] = [slice (some ⟨x_3.b, x_3.o, none⟩) x_3.len x_3.cap, int i64 x_3.n] ∧ ((0 : Int) ≤ x_3.n ∧ x_3.n < (↑x_3.len : Int)) ∧ ∃ (a : Option Addr), ∃ (l : Nat), ∃ (c : Nat), Look F ⟨x_3.b, x_3.o + x_3.n.toNat * 1, none⟩ (slice a l c) ∧ Done atC x F (Ending.returned (bool ((↑l : Int) == (0 : Int)))) [(0, F)]) (Done atC x F (Ending.returned (bool false)) [(0, F)]))
 (Done atC x F (Ending.returned (bool false)) [(0, F)]) := by
  obtain ⟨b, c, a⟩ := x
  replace hr : LatIn F b c := hr
  have hs : Sub F (.pred (rest [(0, F)] [])) := sub_rest 0 (by simp) rfl
  refine ⟨state_ok, rfl, ⟨b, c, a⟩, rfl, rfl, trivial, hr.sub hs, fun _ _ => br_intro (fun h1 => ?_) (fun h1 => ⟨(), trivial, retB ?_, Ent.pick [0] rfl rfl⟩)⟩
  · dsimp only at h1
    obtain ⟨i, rfl, hi⟩ := isS_spec h1
    obtain ⟨s, hsi⟩ := get_st hi
    obtain ⟨b1, o1, cap, h3, hst⟩ := hr.sts
    obtain ⟨r, ⟨vk, ve, vx, vt, vd, vi, vp, rfl, -⟩, hL⟩ := hst i s hsi
    obtain ⟨b4, o4, cap4, h9, hkd⟩ := hr.kd
    obtain ⟨w, hw, hI⟩ := hkd i hi
    obtain ⟨ka, kcap, rfl, -⟩ := SlIn.open hI
    have ek : kd c (i : Int).toNat = s.kind := kd_get hsi
    have e1 : o4 + (i : Int).toNat * 1 = o4 + i := by omega
    refine ⟨_, _, _, h3, ixq_ok 13 rfl rfl rfl rfl, ⟨b1, o1, nS c, cap, i⟩, rfl, by dsimp only; omega, s.kind, hL 1 _ rfl, br_decide (fun h4 => ⟨_, _, _, h9, ixq_ok 1 rfl rfl rfl rfl, ⟨b4, o4, nS c, cap4, i⟩, rfl, by dsimp only; omega, _, _, _, by dsimp only; rw [e1]; exact hw, (), trivial, retB ?_, Ent.pick [0] rfl rfl⟩) (fun h4 => ⟨(), trivial, retB ?_, Ent.pick [0] rfl rfl⟩)⟩
    · unfold atB; rw [h1, ek, decide_eq_true h4]; rfl
    · unfold atB; rw [h1, ek, decide_eq_false h4]; rfl
  · dsimp only at h1 ⊢
    unfold atB; rw [h1]; rfl
set_option maxRecDepth 100000 in
theorem at_ok : FnOk Try.prog 20 atC :=
  fnOk (N := 31) (by kernel_rfl) Try.func20 rfl (by kernel_rfl) (fun _ => Nat.le_of_ble_eq_true rfl) at_H [] fun x F hc hr => Eq.mpr (by kernel_rfl) (at_vc x F hc hr)
noncomputable def co_H (x : Con.X coC) (F : Atom) : Hints where
  op := hk ((coOv x F) ++ [])
  inv := (fun _ _ _ => none) x F
  cut := (fun _ _ _ => none) x F
  ord := (fun _ => [])
open Go.Value (int slice string bool pointer agg tuple func) in
open Go.IntKind (i64) in
set_option maxRecDepth 100000 in
theorem co_vc (x : LqX) (F : Atom) (hc : Con.cond coC x) (hr : Con.rdc coC x F) :
  FnOk Try.prog 60 stateC ∧
 true = true ∧
 ∃ (x_1 : LqX),
 [pointer (some ⟨x.b, 0, none⟩), int i64 x.a] = [pointer (some ⟨x_1.b, 0, none⟩), int i64 x_1.a] ∧
 ([] : List Atom) = [] ∧
 True ∧
 LatIn (Atom.pred (rest [(0, F)] [])) x_1.b x_1.c ∧
 ∀ (y : Unit),
 True →
 Br (isS x_1.c x_1.a)
 (∃ (a : Option Addr),
 ∃ (l : Nat),
 ∃ (c : Nat),
 Look F ⟨x.b, 3, none⟩ (slice a l c) ∧
 QOpOk Try.prog (opIn Try.f22 1 10) (ixQ 13) ∧
 ∃ (x_2 : IxQX),
 [slice a l c, int i64 x.a] = [slice (some ⟨x_2.b, x_2.o, none⟩) x_2.len x_2.cap, int i64 x_2.n] ∧
 ((0 : Int) ≤ x_2.n ∧ x_2.n < (↑x_2.len : Int)) ∧ ∃ (n : Int), Look F ⟨x_2.b, x_2.o + x_2.n.toNat * 13 + 1, none⟩ (int i64 n) ∧ Br (decide (n ≤ (1 : Int))) (∃ (a : Option Addr), ∃ (l : Nat), ∃ (c : Nat), Look F ⟨x.b, 9, none⟩ (slice a l c) ∧ QOpOk Try.prog (opIn Try.f22 1 21) (ixQ 1) ∧ ∃ (x_3 : IxQX), [slice a l c, int i64 x.a] = [slice (some ⟨x_3.b, x_3.o, none⟩) x_3.len x_3.cap, int i64 x_3.n] ∧ ((0 : Int) ≤ x_3.n ∧ x_3.n < (↑x_3.len : Int)) ∧ ∃ (a : Option Addr), ∃ (l : Nat), ∃ (c : Nat), Look F ⟨x_3.b, x_3.o + x_3.n.toNat * 1, none⟩ (slice a l c) ∧ Done coC x F (Ending.returned (bool (decide ((↑l : Int) > (0 : Int))))) [(0, F)]) (Done coC x F (Ending.returned (bool false)) [(0, F)]))
 (Done coC x F (Ending.returned (bool false)) [(0, F)]) := by
  obtain ⟨b, c, a⟩ := x
  replace hr : LatIn F b c := hr
  have hs : Sub F (.pred (rest [(0, F)] [])) := sub_rest 0 (by simp) rfl
  refine ⟨state_ok, rfl, ⟨b, c, a⟩, rfl, rfl, trivial, hr.sub hs, fun _ _ => br_intro (fun h1 => ?_) (fun h1 => ⟨(), trivial, retB ?_, Ent.pick [0] rfl rfl⟩)⟩
  · dsimp only at h1
    obtain ⟨i, rfl, hi⟩ := isS_spec h1
    obtain ⟨s, hsi⟩ := get_st hi
    obtain ⟨b1, o1, cap, h3, hst⟩ := hr.sts
    obtain ⟨r, ⟨vk, ve, vx, vt, vd, vi, vp, rfl, -⟩, hL⟩ := hst i s hsi
    obtain ⟨b4, o4, cap4, h9, hkd⟩ := hr.kd
    obtain ⟨w, hw, hI⟩ := hkd i hi
    obtain ⟨ka, kcap, rfl, -⟩ := SlIn.open hI
    have ek : kd c (i : Int).toNat = s.kind := kd_get hsi
    have e1 : o4 + (i : Int).toNat * 1 = o4 + i := by omega
    refine ⟨_, _, _, h3, ixq_ok 13 rfl rfl rfl rfl, ⟨b1, o1, nS c, cap, i⟩, rfl, by dsimp only; omega, s.kind, hL 1 _ rfl, br_decide (fun h4 => ⟨_, _, _, h9, ixq_ok 1 rfl rfl rfl rfl, ⟨b4, o4, nS c, cap4, i⟩, rfl, by dsimp only; omega, _, _, _, by dsimp only; rw [e1]; exact hw, (), trivial, retB ?_, Ent.pick [0] rfl rfl⟩) (fun h4 => ⟨(), trivial, retB ?_, Ent.pick [0] rfl rfl⟩)⟩
    · unfold coB; rw [h1, ek, decide_eq_true h4]; rfl
    · unfold coB; rw [h1, ek, decide_eq_false h4]; rfl
  · dsimp only at h1 ⊢
    unfold coB; rw [h1]; rfl
set_option maxRecDepth 100000 in
theorem co_ok : FnOk Try.prog 22 coC :=
  fnOk (N := 31) (by kernel_rfl) Try.func22 rfl (by kernel_rfl) (fun _ => Nat.le_of_ble_eq_true rfl) co_H [] fun x F hc hr => Eq.mpr (by kernel_rfl) (co_vc x F hc hr)
def plB (c : ChD) (a : Int) : Int := bif decide (kd c a.toNat ≥ 4) then pr c a.toNat else a
def plainC : Con where
  X := LqX
  Y := Unit
  args x := [.pointer (some ⟨x.b, 0, none⟩), .int .i64 x.a]
  pre _ := []
  cond x := isS x.c x.a = true
  rdc x F := LatIn F x.b x.c
  rel _ _ := True
  val x _ := .returned (.int .i64 (plB x.c x.a))
  post _ _ := []
  rmono _ _ _ h hk := hk.sub h
def plainOv (_x : LqX) (_F : Atom) : List (Nat × Nat × OH) := [(1, 4, .q [.ex 0 .slice]), (1, 6, .qo (ixQ 13)), (1, 8, .q [.ex 0 (.int .i64)]), (2, 4, .q [.ex 0 .slice]), (2, 6, .qo (ixQ 13)), (2, 8, .q [.ex 0 (.int .i64)])]
noncomputable def plain_H (x : Con.X plainC) (F : Atom) : Hints where
  op := hk ((plainOv x F) ++ [])
  inv := (fun _ _ _ => none) x F
  cut := (fun _ _ _ => none) x F
  ord := (fun _ => [])
open Go.Value (int slice string bool pointer agg tuple func) in
open Go.IntKind (i64) in
set_option maxRecDepth 100000 in
theorem plain_vc (x : LqX) (F : Atom) (hc : Con.cond plainC x) (hr : Con.rdc plainC x F) :
  ∃ (a : Option Addr),
 ∃ (l : Nat),
 ∃ (c : Nat),
 Look F ⟨x.b, 3, none⟩ (slice a l c) ∧
 QOpOk Try.prog (opIn Try.f119 1 6) (ixQ 13) ∧
 ∃ (x_1 : IxQX),
 [slice a l c, int i64 x.a] = [slice (some ⟨x_1.b, x_1.o, none⟩) x_1.len x_1.cap, int i64 x_1.n] ∧
 ((0 : Int) ≤ x_1.n ∧ x_1.n < (↑x_1.len : Int)) ∧ ∃ (n : Int), Look F ⟨x_1.b, x_1.o + x_1.n.toNat * 13 + 1, none⟩ (int i64 n) ∧ Br (decide (n ≥ (4 : Int))) (∃ (a : Option Addr), ∃ (l : Nat), ∃ (c : Nat), Look F ⟨x.b, 3, none⟩ (slice a l c) ∧ QOpOk Try.prog (opIn Try.f119 2 6) (ixQ 13) ∧ ∃ (x_2 : IxQX), [slice a l c, int i64 x.a] = [slice (some ⟨x_2.b, x_2.o, none⟩) x_2.len x_2.cap, int i64 x_2.n] ∧ ((0 : Int) ≤ x_2.n ∧ x_2.n < (↑x_2.len : Int)) ∧ ∃ (n : Int), Look F ⟨x_2.b, x_2.o + x_2.n.toNat * 13 + 2, none⟩ (int i64 n) ∧ Done plainC x F (Ending.returned (int i64 n)) [(0, F)]) (Done plainC x F (Ending.returned (int i64 x.a)) [(0, F)]) := by
  obtain ⟨b, c, a⟩ := x
  replace hr : LatIn F b c := hr
  have h1 : isS c a = true := hc
  obtain ⟨i, rfl, hi⟩ := isS_spec h1
  obtain ⟨s, hsi⟩ := get_st hi
  obtain ⟨b1, o1, cap, h3, hst⟩ := hr.sts
  obtain ⟨r, ⟨vk, ve, vx, vt, vd, vi, vp, rfl, -⟩, hL⟩ := hst i s hsi
  have ek : kd c (i : Int).toNat = s.kind := kd_get hsi
  have ep : pr c (i : Int).toNat = s.parent := pr_get hsi
  refine ⟨_, _, _, h3, ixq_ok 13 rfl rfl rfl rfl, ⟨b1, o1, nS c, cap, i⟩, rfl, by dsimp only; omega, s.kind, hL 1 _ rfl, br_decide (fun h4 => ⟨_, _, _, h3, ixq_ok 13 rfl rfl rfl rfl, ⟨b1, o1, nS c, cap, i⟩, rfl, by dsimp only; omega, s.parent, hL 2 _ rfl, (), trivial, ?_, Ent.pick [0] rfl rfl⟩) (fun h4 => ⟨(), trivial, ?_, Ent.pick [0] rfl rfl⟩)⟩
  · have : plB c i = s.parent := by unfold plB; rw [ek, decide_eq_true h4]; exact ep
    exact congrArg (fun q => Ending.returned (Value.int .i64 q)) this.symm
  · have : plB c i = i := by unfold plB; rw [ek, decide_eq_false h4]; rfl
    exact congrArg (fun q => Ending.returned (Value.int .i64 q)) this.symm
set_option maxRecDepth 100000 in
theorem plain_ok : FnOk Try.prog 119 plainC :=
  fnOk (N := 25) (by kernel_rfl) Try.func119 rfl (by kernel_rfl) (fun _ => Nat.le_of_ble_eq_true rfl) plain_H [] fun x F hc hr => Eq.mpr (by kernel_rfl) (plain_vc x F hc hr)
end Go.Proofs.Ytkmdgnbfojkcnaa
