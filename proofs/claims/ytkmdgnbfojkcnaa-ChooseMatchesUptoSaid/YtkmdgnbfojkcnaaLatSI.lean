/- The reference's SameInts at two readings of one list. -/
import Derived.Test.YtkmdgnbfojkcnaaLatO
namespace Go.Proofs.Ytkmdgnbfojkcnaa
open Go
theorem br_no {t : Bool} {A B : Prop} (h : t = false) (b : B) : Br t A B := br_intro (fun e => by rw [h] at e; cases e) (fun _ => b)
theorem int_get {F : Atom} {a : Option Addr} {n cap : Nat} {xs : List Int} (h : IntsIn F (.slice a n cap) xs) {i : Nat} {u : Int} (hu : xs[i]? = some u) : ∃ b o, a = some ⟨b, o, none⟩ ∧ Look F ⟨b, o + (i : Int).toNat * 1, none⟩ (.int .i64 u) := by
  obtain ⟨h1, h2, -, -, h5⟩ := IntsIn.srcd h
  have hi := (List.getElem?_eq_some_iff.1 hu).1
  obtain ⟨b, o, rfl⟩ := h1.some (by omega)
  refine ⟨b, o, rfl, ?_⟩
  have : o + (i : Int).toNat * 1 = o + i := by omega
  rw [this]
  exact h2.look (ints_get hu)
def neqP : QCon where
  X := ByteArray × ByteArray
  args x := [.agg #[.string x.1, .string x.2], .agg #[.string x.1, .string x.2]]
  cond _ := True
  val _ := .bool false
structure SiX where
  s1 : Sl
  s2 : Sl
  xs : List Int
def siC : Con where
  X := SiX
  Y := Unit
  args x := [.slice x.s1.a x.s1.n x.s1.cap, .slice x.s2.a x.s2.n x.s2.cap]
  pre _ := []
  cond _ := True
  rdc x F := IntsIn F (.slice x.s1.a x.s1.n x.s1.cap) x.xs ∧ IntsIn F (.slice x.s2.a x.s2.n x.s2.cap) x.xs
  rel _ _ := True
  val _ _ := .returned (.bool true)
  post _ _ := []
  rmono _ _ _ h hk := ⟨hk.1.sub h, hk.2.sub h⟩
def siInv (x : SiX) (F : Atom) : Nat → Option Inv := fun
  | 0 => some { X := Nat, P := fun k => k ≤ x.xs.length, mu := fun k => x.xs.length - k, lv := fun k => [(0, .slice x.s1.a x.s1.n x.s1.cap), (1, .slice x.s2.a x.s2.n x.s2.cap), (5, .int .i64 k)], st := fun _ => [F] }
  | _ => none
def siOv (_x : SiX) (_F : Atom) : List (Nat × Nat × OH) := [(6, 2, .qo (ixQ 1)), (6, 3, .q [.ex 0 (.int .i64)]), (6, 6, .qo (ixQ 1)), (6, 7, .q [.ex 0 (.int .i64)])]
noncomputable def si_H (x : Con.X siC) (F : Atom) : Hints where
  op := hk ((siOv x F) ++ [])
  inv := siInv x F
  cut := (fun _ _ _ => none) x F
  ord := (fun _ => [])
open Go.Value (int slice string bool pointer agg tuple func) in
open Go.IntKind (i64) in
set_option maxRecDepth 100000 in
theorem si_vc (x : SiX) (F : Atom) (hc : Con.cond siC x) (hr : Con.rdc siC x F) :
  Br ((↑x.s1.n : Int) != (↑x.s2.n : Int)) (Done siC x F (Ending.returned (bool false)) [(0, F)])
 ((∃ (x_1 : Nat), x_1 ≤ x.xs.length ∧ (slice x.s1.a x.s1.n x.s1.cap = slice x.s1.a x.s1.n x.s1.cap ∧ slice x.s2.a x.s2.n x.s2.cap = slice x.s2.a x.s2.n x.s2.cap ∧ int i64 (0 : Int) = int i64 (↑x_1 : Int) ∧ True) ∧ Ent [(0, F)] [(0, F)]) ∧
 ∀ (x_1 : Nat) (js : Nat → Value),
 x_1 ≤ x.xs.length →
 Br (decide ((↑x_1 : Int) < (↑x.s1.n : Int)))
 (true = true ∧
 QOpOk Try.prog (opIn Try.f30 6 2) (ixQ 1) ∧
 ∃ (x_2 : IxQX),
 [slice x.s1.a x.s1.n x.s1.cap, int i64 (↑x_1 : Int)] = [slice (some ⟨x_2.b, x_2.o, none⟩) x_2.len x_2.cap, int i64 x_2.n] ∧
 ((0 : Int) ≤ x_2.n ∧ x_2.n < (↑x_2.len : Int)) ∧
 ∃ (n : Int),
 Look F ⟨x_2.b, x_2.o + x_2.n.toNat * 1, none⟩ (int i64 n) ∧
 QOpOk Try.prog (opIn Try.f30 6 6) (ixQ 1) ∧ ∃ (x_3 : IxQX), [slice x.s2.a x.s2.n x.s2.cap, int i64 (↑x_1 : Int)] = [slice (some ⟨x_3.b, x_3.o, none⟩) x_3.len x_3.cap, int i64 x_3.n] ∧ ((0 : Int) ≤ x_3.n ∧ x_3.n < (↑x_3.len : Int)) ∧ ∃ (n_1 : Int), Look F ⟨x_3.b, x_3.o + x_3.n.toNat * 1, none⟩ (int i64 n_1) ∧ Br (n != n_1) (Done siC x F (Ending.returned (bool false)) [(0, F)]) (((-9223372036854775808 : Int) ≤ (↑x_1 : Int) + (1 : Int) ∧ (↑x_1 : Int) + (1 : Int) ≤ (9223372036854775807 : Int)) ∧ ∃ (y : Nat), y ≤ x.xs.length ∧ (slice x.s1.a x.s1.n x.s1.cap = slice x.s1.a x.s1.n x.s1.cap ∧ slice x.s2.a x.s2.n x.s2.cap = slice x.s2.a x.s2.n x.s2.cap ∧ int i64 ((↑x_1 : Int) + (1 : Int)) = int i64 (↑y : Int) ∧ True) ∧ Ent [(0, F)] [(0, F)] ∧ x.xs.length - y < x.xs.length - x_1))
 (Done siC x F (Ending.returned (bool true)) [(0, F)])) := by
  obtain ⟨⟨a1, n1, c1⟩, ⟨a2, n2, c2⟩, xs⟩ := x
  obtain ⟨h1, h2⟩ := hr
  dsimp only at h1 h2
  obtain ⟨e1, -, l1⟩ := SlIn.num h1
  obtain ⟨e2, -, l2⟩ := SlIn.num h2
  refine br_no (by simp; omega) ⟨⟨0, Nat.zero_le _, ⟨rfl, rfl, rfl, trivial⟩, Ent.pick [0] rfl rfl⟩, ?_⟩
  rintro k js hk
  dsimp only at hk ⊢
  refine br_decide (fun hlt => ?_) (fun hge => ⟨(), trivial, rfl, Ent.pick [0] rfl rfl⟩)
  obtain ⟨u, hu⟩ : ∃ u, xs[k]? = some u := ⟨_, List.getElem?_eq_getElem (by omega)⟩
  obtain ⟨b1, o1, rfl, k1⟩ := int_get h1 hu
  obtain ⟨b2, o2, rfl, k2⟩ := int_get h2 hu
  exact ⟨rfl, ixq_ok 1 rfl rfl rfl rfl, ⟨b1, o1, n1, c1, k⟩, rfl, by dsimp only; omega, u, k1, ixq_ok 1 rfl rfl rfl rfl, ⟨b2, o2, n2, c2, k⟩, rfl, by dsimp only; omega, u, k2, br_no (by simp) ⟨by omega, k + 1, by omega, ⟨rfl, rfl, rfl, trivial⟩, Ent.pick [0] rfl rfl, by omega⟩⟩
set_option maxRecDepth 100000 in
theorem si_ok : FnOk Try.prog 30 siC :=
  fnOk (N := 26) (by kernel_rfl) Try.func30 rfl (by kernel_rfl) (fun _ => Nat.le_of_ble_eq_true rfl) si_H [] fun x F hc hr => Eq.mpr (by kernel_rfl) (si_vc x F hc hr)
end Go.Proofs.Ytkmdgnbfojkcnaa
