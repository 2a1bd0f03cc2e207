/- Resolve$2: is a transition one of those that are gone? And slices.Reverse at ints. -/
import Derived.Test.YtkmdgnbfojkcnaaChoH
namespace Go.Proofs.Ytkmdgnbfojkcnaa
open Go
structure Rs2X where
  c1 : Nat
  g : Sl
  xs : List Int
  s : Int
def rs2C : Con where
  X := Rs2X
  Y := Unit
  args x := [.int .i64 x.s, .pointer (some ⟨x.c1, 0, none⟩)]
  pre _ := []
  cond x := IsSrc 1 (ints x.xs) x.g.a x.g.n ∧ x.g.n ≤ 1048576
  rdc x F := Look F ⟨x.c1, 0, none⟩ (.slice x.g.a x.g.n x.g.cap) ∧ Srcd F x.g.a (ints x.xs)
  rel _ _ := True
  val x _ := .returned (.bool (memB x.xs x.s))
  post _ _ := []
  rmono _ _ _ h hk := ⟨hk.1.sub h, hk.2.sub h⟩
def rs2Ov (_x : Rs2X) (_F : Atom) : List (Nat × Nat × OH) := [(1, 0, .q [.ex 0 .slice]), (1, 2, .c coC' [] [])]
noncomputable def rs2_H (x : Con.X rs2C) (F : Atom) : Hints where
  op := hk ((rs2Ov x F) ++ [])
  inv := (fun _ _ _ => none) x F
  cut := (fun _ _ _ => none) x F
  ord := (fun _ => [])
open Go.Value (int slice string bool pointer agg tuple func) in
open Go.IntKind (i64) in
set_option maxRecDepth 100000 in
theorem rs2_vc (x : Rs2X) (F : Atom) (hc : Con.cond rs2C x) (hr : Con.rdc rs2C x F) :
  ∃ (a : Option Addr), ∃ (l : Nat), ∃ (c : Nat), Look F ⟨x.c1, 0, none⟩ (slice a l c) ∧ FnOk Try.prog 66 coC' ∧ true = true ∧ ∃ (x_1 : InX), [slice a l c, int i64 x.s] = [slice x_1.a x_1.n x_1.cap, int i64 x_1.v] ∧ ([] : List Atom) = [] ∧ (IsSrc 1 (ints x_1.xs) x_1.a x_1.n ∧ x_1.n ≤ 1048576) ∧ Srcd (Atom.pred (rest [(0, F)] [])) x_1.a (ints x_1.xs) ∧ ∀ (y : Unit), True → Done rs2C x F (Ending.returned (bool (memB x_1.xs x_1.v))) [(0, F)] := by
  exact ⟨_, _, _, hr.1, con_ok, rfl, ⟨x.g.a, x.g.n, x.g.cap, x.xs, x.s⟩, rfl, rfl, hc, Srcd.sub (A := F) (sub_rest 0 (by simp) rfl) hr.2, fun _ _ => ⟨(), trivial, rfl, Ent.pick [0] rfl rfl⟩⟩
set_option maxRecDepth 100000 in
theorem rs2_ok : FnOk Try.prog 82 rs2C :=
  fnOk (N := 7) (by kernel_rfl) Try.func82 rfl (by kernel_rfl) (fun _ => Nat.le_of_ble_eq_true rfl) rs2_H [] fun x F hc hr => Eq.mpr (by kernel_rfl) (rs2_vc x F hc hr)
end Go.Proofs.Ytkmdgnbfojkcnaa
