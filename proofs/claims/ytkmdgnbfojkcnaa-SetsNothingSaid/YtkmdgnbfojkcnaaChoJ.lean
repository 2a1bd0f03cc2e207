/- Resolve$2: is a transition one of those that are gone? And slices.Reverse at ints. slices.Reverse at an owned list of ints: the same numbers. -/
import Derived.Test.YtkmdgnbfojkcnaaChoH
set_option linter.all false
namespace Go.Proofs.Ytkmdgnbfojkcnaa
open Go
set_option maxHeartbeats 1000000
structure Rs2X where
  c1 : Nat
  g : Sl
  xs : List Int
  s : Int
def rs2C : Con where
  X := Rs2X
  Y := Unit
  args x := [.int .i64 x.s, .pointer (some ⟨x.c1, 0, none⟩)]
  pre _ := []
  cond x := IsSrc 1 (ints x.xs) x.g.a x.g.n ∧ x.g.n * 8 ≤ 140737488351232
  rdc x F := Look F ⟨x.c1, 0, none⟩ (.slice x.g.a x.g.n x.g.cap) ∧ Srcd F x.g.a (ints x.xs)
  rel _ _ := True
  val x _ := .returned (.bool (memB x.xs x.s))
  post _ _ := []
  rmono _ _ _ h hk := ⟨hk.1.sub h, hk.2.sub h⟩
def rs2Ov (_x : Rs2X) (_F : Atom) : List (Nat × Nat × OH) := [(1, 0, .q [.ex 0 .slice]), (1, 2, .c coC' [] [])]
noncomputable def rs2_H (x : Con.X rs2C) (F : Atom) : Hints where
  op := hk ((rs2Ov x F) ++ [])
  inv := (fun _ _ _ => none) x F
  cut := (fun _ _ _ => none) x F
  ord := (fun _ => [])
open Go.Value (int slice string bool pointer agg tuple func) in
open Go.IntKind (i64) in
set_option maxRecDepth 100000 in
theorem rs2_vc (x : Rs2X) (F : Atom) (hc : Con.cond rs2C x) (hr : Con.rdc rs2C x F) :
  ∃ (a : Option Addr), ∃ (l : Nat), ∃ (c : Nat), Look F ⟨x.c1, 0, none⟩ (slice a l c) ∧ FnOk Try.prog 66 coC' ∧ true = true ∧ ∃ (x_1 : InX), [slice a l c, int i64 x.s] = [slice x_1.a x_1.n x_1.cap, int i64 x_1.v] ∧ ([] : List Atom) = [] ∧ (IsSrc 1 (ints x_1.xs) x_1.a x_1.n ∧ x_1.n * 8 ≤ 140737488351232) ∧ Srcd (Atom.pred (rest [(0, F)] [])) x_1.a (ints x_1.xs) ∧ ∀ (y : Unit), True → Done rs2C x F (Ending.returned (bool (memB x_1.xs x_1.v))) [(0, F)] := by
  exact ⟨_, _, _, hr.1, con_ok, rfl, ⟨x.g.a, x.g.n, x.g.cap, x.xs, x.s⟩, rfl, rfl, hc, Srcd.sub (A := F) (sub_rest 0 (by simp) rfl) hr.2, fun _ _ => ⟨(), trivial, rfl, Ent.pick [0] rfl rfl⟩⟩
set_option maxRecDepth 100000 in
theorem rs2_ok : FnOk Try.prog 82 rs2C :=
  fnOk (N := 7) (by kernel_rfl) Try.func82 rfl (by kernel_rfl) (fun _ => Nat.le_of_ble_eq_true rfl) rs2_H [] fun x F hc hr => Eq.mpr (by kernel_rfl) (rs2_vc x F hc hr)
end Go.Proofs.Ytkmdgnbfojkcnaa
namespace Go.Proofs.Ytkmdgnbfojkcnaa
open Go
structure RvX where
  rb : Nat
  cap : Nat
  xs : List Int
  sp : List Value
def rvC : Con where
  X := RvX
  Y := List Int
  args x := [.slice (some ⟨x.rb, 0, none⟩) x.xs.length x.cap]
  pre x := [.cells x.rb (ints x.xs ++ x.sp) 3]
  cond x := x.xs.length * 8 ≤ 140737488351232
  rdc _ _ := True
  rel x y := y.Perm x.xs
  val _ _ := .returned (.tuple #[])
  post x y := [.cells x.rb (ints y ++ x.sp) 3]
def rvInv (x : RvX) (F : Atom) : Nat → Option Inv := fun
  | 0 => some { X := Nat × List Int, P := fun i => i.1 ≤ x.xs.length ∧ i.2.Perm x.xs, mu := fun i => x.xs.length - i.1, lv := fun i => [(0, .slice (some ⟨x.rb, 0, none⟩) x.xs.length x.cap), (2, .int .i64 i.1), (3, .int .i64 ((x.xs.length : Int) - 1 - i.1))], st := fun i => [.cells x.rb (ints i.2 ++ x.sp) 3, F] }
  | _ => none
def rvOv (_x : RvX) (_F : Atom) : List (Nat × Nat × OH) := [(3, 7, .q [.ex 0 (.int .i64)]), (3, 11, .q [.ex 0 (.int .i64)]), (3, 13, .w [.ex 0 .any]), (3, 15, .w [.ex 0 .any])]
noncomputable def rv_H (x : Con.X rvC) (F : Atom) : Hints where
  op := hk ((rvOv x F) ++ [])
  inv := rvInv x F
  cut := (fun _ _ _ => none) x F
  ord := (fun _ => [])
open Go.Value (int slice string bool pointer agg tuple func) in
open Go.IntKind (i64) in
set_option maxRecDepth 100000 in
theorem rv_vc (x : RvX) (F : Atom) (hc : Con.cond rvC x) (hr : Con.rdc rvC x F) :
  ((-9223372036854775808 : Int) ≤ (↑x.xs.length : Int) - (1 : Int) ∧ (↑x.xs.length : Int) - (1 : Int) ≤ (9223372036854775807 : Int)) ∧
 (∃ (x_1 : Nat × List Int), (x_1.fst ≤ x.xs.length ∧ x_1.snd.Perm x.xs) ∧ (slice (some ⟨x.rb, 0, none⟩) x.xs.length x.cap = slice (some ⟨x.rb, 0, none⟩) x.xs.length x.cap ∧ int i64 (0 : Int) = int i64 (↑x_1.fst : Int) ∧ int i64 ((↑x.xs.length : Int) - (1 : Int)) = int i64 ((↑x.xs.length : Int) - (1 : Int) - (↑x_1.fst : Int)) ∧ True) ∧ Ent [(0, Atom.cells x.rb (ints x.xs ++ x.sp) 3), (1, F)] [(0, Atom.cells x.rb (ints x_1.snd ++ x.sp) 3), (1, F)]) ∧
 ∀ (x_1 : Nat × List Int) (js : Nat → Value),
 x_1.fst ≤ x.xs.length ∧ x_1.snd.Perm x.xs →
 Br (decide ((↑x_1.fst : Int) < (↑x.xs.length : Int) - (1 : Int) - (↑x_1.fst : Int)))
 (true = true ∧
 ((0 : Int) ≤ (↑x.xs.length : Int) - (1 : Int) - (↑x_1.fst : Int) ∧ (↑x.xs.length : Int) - (1 : Int) - (↑x_1.fst : Int) < (↑x.xs.length : Int)) ∧
 ∃ (n : Int),
 Look (Atom.cells x.rb (ints x_1.snd ++ x.sp) 3) ⟨x.rb, 0 + ((↑x.xs.length : Int) - (1 : Int) - (↑x_1.fst : Int)).toNat * 1, none⟩ (int i64 n) ∧
 ((0 : Int) ≤ (↑x_1.fst : Int) ∧ (↑x_1.fst : Int) < (↑x.xs.length : Int)) ∧
 ∃ (n_1 : Int),
 Look (Atom.cells x.rb (ints x_1.snd ++ x.sp) 3) ⟨x.rb, 0 + (↑x_1.fst : Int).toNat * 1, none⟩ (int i64 n_1) ∧
 ((0 : Int) ≤ (↑x_1.fst : Int) ∧ (↑x_1.fst : Int) < (↑x.xs.length : Int)) ∧
 (Same ⟨x.rb, 0 + (↑x_1.fst : Int).toNat * 1, none⟩ x.rb ∧ 0 + (↑x_1.fst : Int).toNat * 1 < (ints x_1.snd ++ x.sp).length) ∧
 ((0 : Int) ≤ (↑x.xs.length : Int) - (1 : Int) - (↑x_1.fst : Int) ∧ (↑x.xs.length : Int) - (1 : Int) - (↑x_1.fst : Int) < (↑x.xs.length : Int)) ∧
 (Same ⟨x.rb, 0 + ((↑x.xs.length : Int) - (1 : Int) - (↑x_1.fst : Int)).toNat * 1, none⟩ x.rb ∧ 0 + ((↑x.xs.length : Int) - (1 : Int) - (↑x_1.fst : Int)).toNat * 1 < ((ints x_1.snd ++ x.sp).set (0 + (↑x_1.fst : Int).toNat * 1) (int i64 n)).length) ∧
 ((-9223372036854775808 : Int) ≤ (↑x_1.fst : Int) + (1 : Int) ∧ (↑x_1.fst : Int) + (1 : Int) ≤ (9223372036854775807 : Int)) ∧
 ((-9223372036854775808 : Int) ≤ (↑x.xs.length : Int) - (1 : Int) - (↑x_1.fst : Int) - (1 : Int) ∧ (↑x.xs.length : Int) - (1 : Int) - (↑x_1.fst : Int) - (1 : Int) ≤ (9223372036854775807 : Int)) ∧
 ∃ (y : Nat × List Int), (y.fst ≤ x.xs.length ∧ y.snd.Perm x.xs) ∧ (slice (some ⟨x.rb, 0, none⟩) x.xs.length x.cap = slice (some ⟨x.rb, 0, none⟩) x.xs.length x.cap ∧ int i64 ((↑x_1.fst : Int) + (1 : Int)) = int i64 (↑y.fst : Int) ∧ int i64 ((↑x.xs.length : Int) - (1 : Int) - (↑x_1.fst : Int) - (1 : Int)) = int i64 ((↑x.xs.length : Int) - (1 : Int) - (↑y.fst : Int)) ∧ True) ∧ Ent [(0, Atom.cells x.rb (((ints x_1.snd ++ x.sp).set (0 + (↑x_1.fst : Int).toNat * 1) (int i64 n)).set (0 + ((↑x.xs.length : Int) - (1 : Int) - (↑x_1.fst : Int)).toNat * 1) (int i64 n_1)) 3), (1, F)] [(0, Atom.cells x.rb (ints y.snd ++ x.sp) 3), (1, F)] ∧ x.xs.length - y.fst < x.xs.length - x_1.fst)
 (Done rvC x F (Ending.returned (tuple { toList := [] })) [(0, Atom.cells x.rb (ints x_1.snd ++ x.sp) 3), (1, F)]) := by
  obtain ⟨rb, cap, xs, sp⟩ := x
  have hle : xs.length * 8 ≤ 140737488351232 := hc
  dsimp only
  refine ⟨⟨by omega, by omega⟩, ⟨(0, xs), ⟨Nat.zero_le _, List.Perm.refl _⟩, ⟨rfl, rfl, congrArg _ (by dsimp only; omega), trivial⟩, Ent.pick [0, 1] rfl rfl⟩, ?_⟩
  rintro ⟨i, ys⟩ js ⟨hi, hp⟩
  dsimp only at hi hp ⊢
  have hl := hp.length_eq
  refine br_decide (fun hlt => ?_) (fun hge => ⟨ys, hp, rfl, Ent.pick [0, 1] rfl rfl⟩)
  obtain ⟨j, hj⟩ : ∃ j : Nat, (xs.length : Int) - 1 - i = j := ⟨((xs.length : Int) - 1 - i).toNat, by omega⟩
  have hil : i < ys.length := by omega
  have hjl : j < ys.length := by omega
  have ej : 0 + ((xs.length : Int) - 1 - i).toNat * 1 = j := by omega
  have ei : 0 + (i : Int).toNat * 1 = i := by omega
  have hin := ints_length ys
  have g1 : (ints ys ++ sp)[j]? = some (.int .i64 ys[j]) := by
    rw [List.getElem?_append_left (by rw [hin]; exact hjl)]
    exact ints_get (List.getElem?_eq_getElem hjl)
  have g2 : (ints ys ++ sp)[i]? = some (.int .i64 ys[i]) := by
    rw [List.getElem?_append_left (by rw [hin]; exact hil)]
    exact ints_get (List.getElem?_eq_getElem hil)
  have hset : ((ints ys ++ sp).set i (.int .i64 ys[j])).set j (.int .i64 ys[i]) = ints ((ys.set i ys[j]).set j ys[i]) ++ sp := by
    rw [List.set_append_left _ _ (by rw [hin]; exact hil), List.set_append_left _ _ (by rw [List.length_set, hin]; exact hjl)]
    unfold ints
    rw [List.map_set, List.map_set]
  rw [ej, ei]
  refine ⟨rfl, ⟨by omega, by omega⟩, ys[j], Look.cells g1, ⟨by omega, by omega⟩, ys[i], Look.cells g2, ⟨by omega, by omega⟩, ⟨⟨rfl, rfl⟩, by rw [List.length_append]; omega⟩, ⟨by omega, by omega⟩, ⟨⟨rfl, rfl⟩, by rw [List.length_set, List.length_append]; omega⟩, ⟨by omega, by omega⟩, ⟨by omega, by omega⟩, ⟨(i + 1, (ys.set i ys[j]).set j ys[i]), ⟨by dsimp only; omega, (List.set_set_perm hil hjl).trans hp⟩, ⟨rfl, rfl, congrArg _ (by dsimp only; omega), trivial⟩, ?_, by dsimp only; omega⟩⟩
  rw [hset]
  exact Ent.pick [0, 1] rfl rfl
set_option maxRecDepth 100000 in
theorem rv_ok : FnOk Try.prog 95 rvC :=
  fnOk (N := 28) (by kernel_rfl) Try.func95 rfl (by kernel_rfl) (fun _ => Nat.le_of_ble_eq_true rfl) rv_H [] fun x F hc hr => Eq.mpr (by kernel_rfl) (rv_vc x F hc hr)
def rvNC : Con where
  X := Unit
  Y := Unit
  args _ := [.slice none 0 0]
  pre _ := [.emp]
  cond _ := True
  rdc _ _ := True
  rel _ _ := True
  val _ _ := .returned (.tuple #[])
  post _ _ := [.emp]
def rvNInv (_x : Unit) (F : Atom) : Nat → Option Inv := fun
  | 0 => some { X := Unit, P := fun _ => True, mu := fun _ => 0, lv := fun _ => [(0, .slice none 0 0), (2, .int .i64 0), (3, .int .i64 (-1))], st := fun _ => [.emp, F] }
  | _ => none
noncomputable def rvN_H (x : Con.X rvNC) (F : Atom) : Hints where
  op := hk (((fun _ _ => []) x F) ++ [])
  inv := rvNInv x F
  cut := (fun _ _ _ => none) x F
  ord := (fun _ => [])
open Go.Value (int slice string bool pointer agg tuple func) in
open Go.IntKind (i64) in
set_option maxRecDepth 100000 in
theorem rvN_vc (x : PUnit) (F : Atom) (hc : Con.cond rvNC x) (hr : Con.rdc rvNC x F) :
  ((-9223372036854775808 : Int) ≤ (↑(0 : Nat) : Int) - (1 : Int) ∧ (↑(0 : Nat) : Int) - (1 : Int) ≤ (9223372036854775807 : Int)) ∧ (∃ (x : Unit), True ∧ (slice none 0 0 = slice none 0 0 ∧ int i64 (0 : Int) = int i64 (0 : Int) ∧ int i64 ((↑(0 : Nat) : Int) - (1 : Int)) = int i64 (-1 : Int) ∧ True) ∧ Ent [(0, Atom.emp), (1, F)] [(0, Atom.emp), (1, F)]) ∧ ∀ (x_1 : Unit) (js : Nat → Value), True → Done rvNC x F (Ending.returned (tuple { toList := [] })) [(0, Atom.emp), (1, F)] := by
  exact ⟨⟨by omega, by omega⟩, ⟨(), trivial, ⟨rfl, rfl, rfl, trivial⟩, Ent.pick [0, 1] rfl rfl⟩, fun _ _ _ => ⟨(), trivial, rfl, Ent.pick [0, 1] rfl rfl⟩⟩
set_option maxRecDepth 100000 in
theorem rvN_ok : FnOk Try.prog 95 rvNC :=
  fnOk (N := 28) (by kernel_rfl) Try.func95 rfl (by kernel_rfl) (fun _ => Nat.le_of_ble_eq_true rfl) rvN_H [] fun x F hc hr => Eq.mpr (by kernel_rfl) (rvN_vc x F hc hr)
/-- slices.Reverse at an owned list: the same block, the same numbers. -/
structure RevX where
  r : Row
  xs : List Int
def revC : Con where
  X := RevX
  Y := Row × List Int
  args x := [.slice x.r.a x.r.n x.r.cap]
  pre x := [x.r.A]
  cond x := IsRow 3 1 (ints x.xs) x.r ∧ x.r.n * 8 ≤ 140737488351232
  rdc _ _ := True
  rel x y := y.2.Perm x.xs ∧ IsRow 3 1 (ints y.2) y.1 ∧ y.1.a = x.r.a ∧ y.1.n = x.r.n ∧ y.1.cap = x.r.cap
  val _ _ := .returned (.tuple #[])
  post _ y := [y.1.A]
theorem rev_ok : FnOk Try.prog 95 revC := by
  refine ⟨fun x F I w hc hr hs => ?_⟩
  obtain ⟨r, xs⟩ := x
  obtain ⟨hrow, hle⟩ := hc
  dsimp only at hrow hle
  have hlen := hrow.len
  rw [ints_length, Nat.mul_one] at hlen
  cases hrow with
  | nil h =>
    have : xs = [] := List.eq_nil_of_length_eq_zero hlen
    subst this
    refine (rvN_ok.h () F I w trivial trivial hs).mono ?_
    rintro e w' ⟨_, J, _, rfl, h1, h2, h3⟩
    exact ⟨(nilRow, []), J, ⟨List.Perm.refl _, .nil rfl, rfl, rfl, rfl⟩, rfl, h1, h2, h3⟩
  | blk rb n cap sp hl hsz hn =>
    dsimp only at hlen hle
    subst hlen
    refine (rv_ok.h ⟨rb, cap, xs, sp⟩ F I w hle trivial hs).mono ?_
    rintro e w' ⟨ys, J, hp, rfl, h1, h2, h3⟩
    replace hp : ys.Perm xs := hp
    have hl2 := hp.length_eq
    have hy := ints_length ys
    have hx := ints_length xs
    refine ⟨(⟨some ⟨rb, 0, none⟩, xs.length, cap, .cells rb (ints ys ++ sp) 3⟩, ys), J, ⟨hp, .blk rb xs.length cap sp (by rw [hy]; omega) ?_ hn, rfl, rfl, rfl⟩, rfl, h1, h2, h3⟩
    rw [← hsz, List.length_append, List.length_append, hy, hx, hl2]
end Go.Proofs.Ytkmdgnbfojkcnaa
