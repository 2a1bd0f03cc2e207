/- slices.Insert at timers: nil too. -/
import Derived.Test.YtmknmibmnidnoaaClkB
set_option linter.all false
namespace Go.Proofs.Ytmknmibmnidnoaa
open Go
structure InsNX where
  b2 : Nat
  ys : List Value
def insNC : Con where
  X := InsNX
  Y := Row
  args x := [.slice none 0 0, .int .i64 0, .slice (some ⟨x.b2, 0, none⟩) 1 1]
  pre x := [.cells x.b2 x.ys 44]
  cond x := x.ys.length = 4 ∧ (∀ u ∈ x.ys, u.oneCell' = true)
  rdc _ _ := True
  rel x r := IsRow 44 4 x.ys r ∧ r.n = 1
  val _ r := .returned r.v
  post _ r := [r.A]
def insNOv (_x : InsNX) (_F : Atom) : List (Nat × Nat × OH) := [(1, 2, .q []), (7, 2, .o (apC 44 4 40) [7020] [7020])]
noncomputable def insN_H (x : Con.X insNC) (F : Atom) : Hints where
  op := hk ((insNOv x F) ++ [])
  inv := (fun _ _ _ => none) x F
  cut := (fun _ _ _ => none) x F
  ord := (fun _ => [])
set_option maxRecDepth 100000 in
theorem insN_vc (x : InsNX) (F : Atom) (hc : Con.cond insNC x) (hr : Con.rdc insNC x F) :
  OpOk Try.prog (opIn Try.f28 (7 : Nat) (2 : Nat)) (apC (44 : TypeId) (4 : Nat) (40 : Nat)) ∧
    true = true ∧ ∃ (x_1 : ApX), [Value.slice none (0 : Nat) (0 : Nat), Value.slice (some { block := x.b2, off := (0 : Nat) }) (1 : Nat) (1 : Nat)] = [Value.slice x_1.r.a x_1.r.n x_1.r.cap, Value.slice x_1.a x_1.m x_1.c] ∧ [Atom.emp] = [x_1.r.A] ∧ (IsRow (44 : Nat) (4 : Nat) x_1.cs x_1.r ∧ x_1.ys.length = x_1.m * (4 : Nat) ∧ (∀ (u : Value), u ∈ x_1.ys → u.oneCell' = true) ∧ (x_1.r.n + x_1.m) * (40 : Nat) ≤ (140737488355328 : Nat) ∧ x_1.r.n + x_1.m ≤ (9223372036854775807 : Nat) ∧ (x_1.a = none → x_1.m = (0 : Nat) ∧ x_1.c = (0 : Nat))) ∧ (∀ (a : Addr), x_1.a = some a → Seg (Atom.pred (rest [((0 : Nat), Atom.cells x.b2 x.ys (44 : Nat)), ((1 : Nat), F)] [(7020 : Nat)])) a x_1.ys) ∧ ∀ (y : Row), IsRow (44 : Nat) (4 : Nat) (x_1.cs ++ x_1.ys) y ∧ y.n = x_1.r.n + x_1.m ∧ (x_1.m = (0 : Nat) → y = x_1.r) → Done insNC x F (Ending.returned (Value.slice y.a y.n y.cap)) [((0 : Nat), Atom.cells x.b2 x.ys (44 : Nat)), ((1 : Nat), F), ((7020 : Nat), y.A)] := by
  obtain ⟨b2, ys⟩ := x
  obtain ⟨hyl, hy1⟩ := hc
  dsimp only at hyl hy1 ⊢
  refine ⟨append_ok (P := Try.prog) 4 40 rfl rfl rfl rfl rfl rfl rfl (by decide), rfl, ⟨⟨none, 0, 0, .emp⟩, [], some ⟨b2, 0, none⟩, 1, 1, ys⟩, rfl, rfl, ?_, ?_, ?_⟩
  · exact ⟨.nil rfl, by simp [hyl], hy1, by dsimp only; omega, by dsimp only; omega, by simp⟩
  · intro a ha
    cases ha
    exact Seg.rest (j := 0) (by simp) (Seg.cells (by simp))
  · rintro y ⟨h1, h2, h3⟩
    exact ⟨y, ⟨h1, by simpa using h2⟩, rfl, Ent.pick [7020, 1] rfl rfl⟩
set_option maxRecDepth 100000 in
theorem insN_ok : FnOk Try.prog 28 insNC :=
  fnOk (N := 95) (by kernel_rfl) Try.func28 rfl (by kernel_rfl) (fun _ => Nat.le_of_ble_eq_true rfl) insN_H [] fun x F hc hr => Eq.mpr (by kernel_rfl) (insN_vc x F hc hr)
end Go.Proofs.Ytmknmibmnidnoaa
