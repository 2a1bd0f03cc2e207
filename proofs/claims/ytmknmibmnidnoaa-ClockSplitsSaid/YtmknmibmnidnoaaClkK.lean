/- Comparing, copying, looking. -/
import Derived.Test.YtmknmibmnidnoaaEngJ
import Derived.Test.YtmknmibmnidnoaaClkJ
set_option linter.all false
namespace Go.Proofs.Ytmknmibmnidnoaa
open Go
structure SameX where
  a : Option Addr
  an : Nat
  ac : Nat
  xs : List Int
  b : Option Addr
  bn : Nat
  bc : Nat
  ys : List Int
def sameC : Con where
  X := SameX
  Y := Unit
  args x := [.slice x.a x.an x.ac, .slice x.b x.bn x.bc]
  pre _ := []
  cond x := IsSrc 1 (ints x.xs) x.a x.an ∧ IsSrc 1 (ints x.ys) x.b x.bn ∧ x.an ≤ 1000000
  rdc x F := Srcd F x.a (ints x.xs) ∧ Srcd F x.b (ints x.ys)
  rel _ _ := True
  val x _ := .returned (.bool (decide (x.xs = x.ys)))
  post _ _ := []
  rmono _ _ _ h hk := ⟨hk.1.sub h, hk.2.sub h⟩
def sameInv (x : SameX) (F : Atom) : Nat → Option Inv := fun
  | 0 => some { X := Nat, P := fun k => k ≤ x.an ∧ x.xs.take k = x.ys.take k, mu := fun k => x.an - k, lv := fun k => [(0, .slice x.a x.an x.ac), (1, .slice x.b x.bn x.bc), (5, .int .i64 k)], st := fun _ => [F] }
  | _ => none
def sameOv (_x : SameX) (_F : Atom) : List (Nat × Nat × OH) := [(6, 2, .qo (ixQ 1)), (6, 3, .q [.ex 0 (.int .i64)]), (6, 6, .qo (ixQ 1)), (6, 7, .q [.ex 0 (.int .i64)])]
theorem ints_get {ns : List Int} {j : Nat} {n : Int} (h : ns[j]? = some n) : (ints ns)[j]? = some (.int .i64 n) := by simp [ints, h]
theorem take_step {xs ys : List Int} {k : Nat} {a b : Int} (h : xs.take k = ys.take k) (ha : xs[k]? = some a) (hb : ys[k]? = some b) (e : a = b) : xs.take (k + 1) = ys.take (k + 1) := by
  rw [List.take_add_one, List.take_add_one, h, ha, hb, e]
noncomputable def same_H (x : Con.X sameC) (F : Atom) : Hints where
  op := hk ((sameOv x F) ++ [])
  inv := sameInv x F
  cut := (fun _ _ _ => none) x F
  ord := (fun _ => [])
set_option maxRecDepth 100000 in
theorem same_vc (x : SameX) (F : Atom) (hc : Con.cond sameC x) (hr : Con.rdc sameC x F) :
  Br ((↑x.an : Int) != (↑x.bn : Int)) (Done sameC x F (Ending.returned (Value.bool false)) [((0 : Nat), F)])
    ((∃ (x_1 : Nat), (x_1 ≤ x.an ∧ List.take x_1 x.xs = List.take x_1 x.ys) ∧ (Value.slice x.a x.an x.ac = Value.slice x.a x.an x.ac ∧ Value.slice x.b x.bn x.bc = Value.slice x.b x.bn x.bc ∧ Value.int IntKind.i64 (0 : Int) = Value.int IntKind.i64 (↑x_1 : Int) ∧ True) ∧ Ent [((0 : Nat), F)] [((0 : Nat), F)]) ∧
      ∀ (x_1 : Nat) (js : Nat → Value),
        x_1 ≤ x.an ∧ List.take x_1 x.xs = List.take x_1 x.ys →
          Br (decide ((↑x_1 : Int) < (↑x.an : Int)))
            (true = true ∧
              QOpOk Try.prog (opIn Try.f11 (6 : Nat) (2 : Nat)) (ixQ (1 : Nat)) ∧
                ∃ (x_2 : IxQX),
                  [Value.slice x.a x.an x.ac, Value.int IntKind.i64 (↑x_1 : Int)] = [Value.slice (some { block := x_2.b, off := x_2.o }) x_2.len x_2.cap, Value.int IntKind.i64 x_2.n] ∧
                    ((0 : Int) ≤ x_2.n ∧ x_2.n < (↑x_2.len : Int)) ∧
                      ∃ (n : Int),
                        Look F { block := x_2.b, off := x_2.o + x_2.n.toNat * (1 : Nat) } (Value.int IntKind.i64 n) ∧
                          QOpOk Try.prog (opIn Try.f11 (6 : Nat) (6 : Nat)) (ixQ (1 : Nat)) ∧ ∃ (x_3 : IxQX), [Value.slice x.b x.bn x.bc, Value.int IntKind.i64 (↑x_1 : Int)] = [Value.slice (some { block := x_3.b, off := x_3.o }) x_3.len x_3.cap, Value.int IntKind.i64 x_3.n] ∧ ((0 : Int) ≤ x_3.n ∧ x_3.n < (↑x_3.len : Int)) ∧ ∃ (n_1 : Int), Look F { block := x_3.b, off := x_3.o + x_3.n.toNat * (1 : Nat) } (Value.int IntKind.i64 n_1) ∧ Br (n != n_1) (Done sameC x F (Ending.returned (Value.bool false)) [((0 : Nat), F)]) (((-9223372036854775808 : Int) ≤ (↑x_1 : Int) + (1 : Int) ∧ (↑x_1 : Int) + (1 : Int) ≤ (9223372036854775807 : Int)) ∧ ∃ (y : Nat), (y ≤ x.an ∧ List.take y x.xs = List.take y x.ys) ∧ (Value.slice x.a x.an x.ac = Value.slice x.a x.an x.ac ∧ Value.slice x.b x.bn x.bc = Value.slice x.b x.bn x.bc ∧ Value.int IntKind.i64 ((↑x_1 : Int) + (1 : Int)) = Value.int IntKind.i64 (↑y : Int) ∧ True) ∧ Ent [((0 : Nat), F)] [((0 : Nat), F)] ∧ x.an - y < x.an - x_1))
            (Done sameC x F (Ending.returned (Value.bool true)) [((0 : Nat), F)])) := by
  obtain ⟨a, an, ac, xs, b, bn, bc, ys⟩ := x
  obtain ⟨ha, hb, hn⟩ := hc
  obtain ⟨hra, hrb⟩ := hr
  dsimp only at ha hb hn hra hrb ⊢
  have la : xs.length = an := by have := ha.len; rw [ints_length] at this; omega
  have lb : ys.length = bn := by have := hb.len; rw [ints_length] at this; omega
  refine br_intro (fun he => ⟨(), trivial, ?_, Ent.pick [0] rfl rfl⟩) (fun he => ⟨⟨0, ⟨Nat.zero_le _, rfl⟩, ⟨rfl, rfl, rfl, trivial⟩, Ent.pick [0] rfl rfl⟩, ?_⟩)
  · have he : an ≠ bn := by intro h; subst h; simp at he
    have : xs ≠ ys := by intro h; subst h; omega
    simp only [sameC, decide_eq_false this]
  have he : an = bn := by
    rcases Nat.decEq an bn with h | h
    · simp at he; omega
    · exact h
  subst he
  rintro k js ⟨hk, ht⟩
  refine br_decide (fun hlt => ?_) (fun hge => ⟨(), trivial, ?_, Ent.pick [0] rfl rfl⟩)
  · obtain ⟨b1, o1, rfl⟩ := ha.some (by omega)
    obtain ⟨b2, o2, rfl⟩ := hb.some (by omega)
    have hx : xs[k]? = some xs[k] := List.getElem?_eq_getElem (by omega)
    have hy : ys[k]? = some ys[k] := List.getElem?_eq_getElem (by omega)
    have e1 : ∀ o : Nat, o + (k : Int).toNat * 1 = o + k := fun o => by omega
    refine ⟨rfl, ixq_ok 1 rfl rfl rfl rfl, ⟨b1, o1, an, ac, k⟩, rfl, by dsimp only; omega, xs[k], ?_, ixq_ok 1 rfl rfl rfl rfl, ⟨b2, o2, an, bc, k⟩, rfl, by dsimp only; omega, ys[k], ?_, br_intro (fun hne => ⟨(), trivial, ?_, Ent.pick [0] rfl rfl⟩) (fun hq => ⟨by omega, k + 1, ⟨by omega, ?_⟩, ⟨rfl, rfl, rfl, trivial⟩, Ent.pick [0] rfl rfl, by omega⟩)⟩
    · dsimp only; rw [e1]; exact hra.look (ints_get hx)
    · dsimp only; rw [e1]; exact hrb.look (ints_get hy)
    · have : xs ≠ ys := by
        intro h; subst h
        simp at hne
      simp only [sameC, decide_eq_false this]
    · exact take_step ht hx hy (by simpa using hq)
  · have : xs = ys := by
      rw [← List.take_of_length_le (show xs.length ≤ k by omega), ← List.take_of_length_le (show ys.length ≤ k by omega)]; exact ht
    simp only [sameC, decide_eq_true this]
set_option maxRecDepth 100000 in
theorem same_ok : FnOk Try.prog 11 sameC :=
  fnOk (N := 26) (by kernel_rfl) Try.func11 rfl (by kernel_rfl) (fun _ => Nat.le_of_ble_eq_true rfl) same_H [] fun x F hc hr => Eq.mpr (by kernel_rfl) (same_vc x F hc hr)
end Go.Proofs.Ytmknmibmnidnoaa
