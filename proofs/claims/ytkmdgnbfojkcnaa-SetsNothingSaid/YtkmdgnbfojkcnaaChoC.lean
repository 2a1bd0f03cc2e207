/- slices.DeleteFunc at ints, asked by a function that only reads. -/
import Derived.Test.YtkmdgnbfojkcnaaChoB
set_option linter.all false
namespace Go.Proofs.Ytkmdgnbfojkcnaa
open Go
set_option maxHeartbeats 1000000
def rest0 (g : Int → Bool) (xs : List Int) : List Int := xs.filter fun t => !g t
theorem rest0_take {g : Int → Bool} {xs : List Int} {j : Nat} {t : Int} (h : xs[j]? = some t) : rest0 g (xs.take (j + 1)) = rest0 g (xs.take j) ++ (bif g t then [] else [t]) := by
  rw [List.take_add_one, h]
  unfold rest0
  rw [List.filter_append]
  cases hg : g t <;> simp [hg]
theorem rest0_all {g : Int → Bool} {xs : List Int} (no : ∀ u ∈ xs, g u = false) : rest0 g xs = xs := by
  unfold rest0
  rw [List.filter_eq_self]
  intro u hu
  rw [no u hu]; rfl
theorem fixV_cases (g : Int → Bool) : ∀ (xs : List Int) (i : Nat), (fixV g xs i = -1 ∧ ∀ u ∈ xs, g u = false) ∨ ∃ k u, fixV g xs i = ((i + k : Nat) : Int) ∧ xs[k]? = some u ∧ g u = true ∧ ∀ v ∈ xs.take k, g v = false
  | [], i => .inl ⟨rfl, fun u hu => by simp at hu⟩
  | x :: r, i => by
    rw [fixV]
    cases hx : g x with
    | true => exact .inr ⟨0, x, by rw [cond_true]; rfl, rfl, hx, fun v hv => by simp at hv⟩
    | false =>
      rw [cond_false]
      rcases fixV_cases g r (i + 1) with ⟨h1, h2⟩ | ⟨k, u, h1, h2, h3, h4⟩
      · refine .inl ⟨h1, fun u hu => ?_⟩
        rcases List.mem_cons.1 hu with rfl | hu
        · exact hx
        · exact h2 u hu
      · refine .inr ⟨k + 1, u, by rw [h1]; congr 1; omega, by simpa using h2, h3, fun v hv => ?_⟩
        rw [List.take_succ_cons] at hv
        rcases List.mem_cons.1 hv with rfl | hv
        · exact hx
        · exact h4 v hv
structure DlX (f : FuncId) (m : Nat) where
  L : Clo f m
  xs : List Int
  rb : Nat
  cap : Nat
  sp : List Value
def dlC (f : FuncId) (m : Nat) : Con where
  X := DlX f m
  Y := Row
  args x := [.slice (some ⟨x.rb, 0, none⟩) x.xs.length x.cap, x.L.v]
  pre x := [.cells x.rb (ints x.xs ++ x.sp) 3]
  cond x := (ints x.xs ++ x.sp).length = x.cap ∧ x.xs.length ≤ x.cap ∧ x.xs.length * 8 ≤ 140737488351232 ∧ ∀ u ∈ x.xs, x.L.ok u
  rdc x F := x.L.rd F
  rel x y := IsRow 3 1 (ints (rest0 x.L.g x.xs)) y
  val _ y := .returned (.slice y.a y.n y.cap)
  post _ y := [y.A]
  rmono x A B h hk := x.L.mono A B h hk
structure DlI where
  j : Nat
  vs : List Value
structure IsDl {f : FuncId} {m : Nat} (x : DlX f m) (i : DlI) : Prop where
  le : i.j ≤ x.xs.length
  lt : (rest0 x.L.g (x.xs.take i.j)).length < i.j
  len : i.vs.length = x.cap
  tak : i.vs.take (rest0 x.L.g (x.xs.take i.j)).length = ints (rest0 x.L.g (x.xs.take i.j))
  drp : i.vs.drop i.j = (ints x.xs ++ x.sp).drop i.j
def dlInv {f : FuncId} {m : Nat} (x : DlX f m) (F : Atom) : Nat → Option Inv := fun
  | 0 => some { X := DlI, P := fun i => IsDl x i, mu := fun i => x.xs.length - i.j, lv := fun i => [(0, .slice (some ⟨x.rb, 0, none⟩) x.xs.length x.cap), (1, x.L.v), (5, .int .i64 ((rest0 x.L.g (x.xs.take i.j)).length : Nat)), (6, .int .i64 i.j)], st := fun i => [.cells x.rb i.vs 3, F] }
  | _ => none
def dlOv {f : FuncId} {m : Nat} (x : DlX f m) (_F : Atom) : List (Nat × Nat × OH) := [(1, 2, .c (ixC f m) [] []), (7, 3, .q [.ex 0 (.int .i64)]), (8, 2, .c x.L.con [] []), (9, 4, .w [.ex 0 .any]), (11, 3, .o (clC [.int .i64 0]) [0] [0])]
noncomputable def ixu_H (x : Con.X (ixC 123 2)) (F : Atom) : Hints where
  op := hk (((@ixOv 123 2) x F) ++ [])
  inv := (@ixInv 123 2) x F
  cut := (fun _ _ _ => none) x F
  ord := (fun _ => [])
open Go.Value (int slice string bool pointer agg tuple func) in
open Go.IntKind (i64) in
set_option maxRecDepth 100000 in
theorem ixu_vc (x : IxX (123 : FuncId) (2 : Nat)) (F : Atom) (hc : Con.cond (ixC 123 2) x) (hr : Con.rdc (ixC 123 2) x F) :
  (∃ (x_1 : Nat), (x_1 ≤ x.n ∧ fixV x.L.g x.xs 0 = fixV x.L.g (List.drop x_1 x.xs) x_1) ∧ (slice x.a x.n x.cap = slice x.a x.n x.cap ∧ func (Fn.func 123) { toList := [] } { toList := [pointer (some ⟨x.L.c1, 0, none⟩), pointer (some ⟨x.L.c2, 0, none⟩)] } = func (Fn.func 123) { toList := [] } { toList := [pointer (some ⟨x.L.c1, 0, none⟩), pointer (some ⟨x.L.c2, 0, none⟩)] } ∧ int i64 (↑x.n : Int) = int i64 (↑x.n : Int) ∧ int i64 (0 : Int) = int i64 (↑x_1 : Int) ∧ True) ∧ Ent [(0, F)] [(0, F)]) ∧
 ∀ (x_1 : Nat) (js : Nat → Value),
 x_1 ≤ x.n ∧ fixV x.L.g x.xs 0 = fixV x.L.g (List.drop x_1 x.xs) x_1 →
 Br (decide ((↑x_1 : Int) < (↑x.n : Int)))
 (QOpOk Try.prog (opIn Try.f102 4 3) (ixQ 1) ∧
 ∃ (x_2 : IxQX),
 [slice x.a x.n x.cap, int i64 (↑x_1 : Int)] = [slice (some ⟨x_2.b, x_2.o, none⟩) x_2.len x_2.cap, int i64 x_2.n] ∧
 ((0 : Int) ≤ x_2.n ∧ x_2.n < (↑x_2.len : Int)) ∧
 ∃ (n : Int),
 Look F ⟨x_2.b, x_2.o + x_2.n.toNat * 1, none⟩ (int i64 n) ∧
 FnOk Try.prog 123 x.L.con ∧
 true = true ∧
 ∃ (x_3 : Int),
 [int i64 n, pointer (some ⟨x.L.c1, 0, none⟩), pointer (some ⟨x.L.c2, 0, none⟩)] = [int i64 x_3, pointer (some ⟨x.L.c1, 0, none⟩), pointer (some ⟨x.L.c2, 0, none⟩)] ∧
 ([] : List Atom) = [] ∧
 x.L.ok x_3 ∧
 x.L.7 (Atom.pred (rest [(0, F)] [])) ∧
 ∀ (y : Unit),
 True →
 Br (x.L.g x_3) (Done (ixC (123 : FuncId) 2) x F (Ending.returned (int i64 (↑x_1 : Int))) [(0, F)])
 (((-9223372036854775808 : Int) ≤ (↑x_1 : Int) + (1 : Int) ∧ (↑x_1 : Int) + (1 : Int) ≤ (9223372036854775807 : Int)) ∧ ∃ (y : Nat), (y ≤ x.n ∧ fixV x.L.g x.xs 0 = fixV x.L.g (List.drop y x.xs) y) ∧ (slice x.a x.n x.cap = slice x.a x.n x.cap ∧ func (Fn.func 123) { toList := [] } { toList := [pointer (some ⟨x.L.c1, 0, none⟩), pointer (some ⟨x.L.c2, 0, none⟩)] } = func (Fn.func 123) { toList := [] } { toList := [pointer (some ⟨x.L.c1, 0, none⟩), pointer (some ⟨x.L.c2, 0, none⟩)] } ∧ int i64 (↑x.n : Int) = int i64 (↑x.n : Int) ∧ int i64 ((↑x_1 : Int) + (1 : Int)) = int i64 (↑y : Int) ∧ True) ∧ Ent [(0, F)] [(0, F)] ∧ x.n - y < x.n - x_1))
 (Done (ixC (123 : FuncId) 2) x F (Ending.returned (int i64 (-1 : Int))) [(0, F)]) := by
  obtain ⟨L, a, n, cap, xs⟩ := x
  obtain ⟨hsrc, hle, hok⟩ := hc
  obtain ⟨hr1, hr2⟩ := hr
  dsimp only at hsrc hle hok hr1 hr2
  have hlen : xs.length = n := by have := hsrc.len; rw [ints_length] at this; omega
  refine ⟨⟨0, ⟨Nat.zero_le _, rfl⟩, ⟨rfl, rfl, rfl, rfl, trivial⟩, Ent.pick [0] rfl rfl⟩, ?_⟩
  rintro k js ⟨h1, h2⟩
  dsimp only at h1 h2 ⊢
  refine br_decide (fun hlt => ?_) (fun hge => ?_)
  · obtain ⟨b1, o1, rfl⟩ := hsrc.some (by omega)
    obtain ⟨u, hu⟩ : ∃ u, xs[k]? = some u := ⟨_, List.getElem?_eq_getElem (by omega)⟩
    have e1 : o1 + (k : Int).toNat * 1 = o1 + k := by omega
    rw [drop_get hu, fixV] at h2
    refine ⟨ixq_ok 1 rfl rfl rfl rfl, ⟨b1, o1, n, cap, k⟩, rfl, by dsimp only; omega, u, by dsimp only; rw [e1]; exact hr1.look (ints_get hu), L.good, rfl, u, rfl, rfl, hok u (List.mem_of_getElem? hu), L.mono _ _ (sub_rest 0 (by simp) rfl) hr2, fun _ _ => br_intro (fun hg => ⟨(), trivial, retI ?_, Ent.pick [0] rfl rfl⟩) (fun hg => ⟨by omega, k + 1, ⟨by omega, ?_⟩, ⟨rfl, rfl, rfl, rfl, trivial⟩, Ent.pick [0] rfl rfl, by omega⟩)⟩
    · rw [h2, hg]; rfl
    · rw [h2, hg]; rfl
  · rw [List.drop_eq_nil_of_le (by omega)] at h2
    exact ⟨(), trivial, retI h2.symm, Ent.pick [0] rfl rfl⟩
set_option maxRecDepth 100000 in
theorem ixu_ok : FnOk Try.prog 102 (ixC 123 2) :=
  fnOk (N := 19) (by kernel_rfl) Try.func102 rfl (by kernel_rfl) (fun _ => Nat.le_of_ble_eq_true rfl) ixu_H [] fun x F hc hr => Eq.mpr (by kernel_rfl) (ixu_vc x F hc hr)
noncomputable def dlu_H (x : Con.X (dlC 123 2)) (F : Atom) : Hints where
  op := hk (((@dlOv 123 2) x F) ++ [])
  inv := (@dlInv 123 2) x F
  cut := (fun _ _ _ => none) x F
  ord := (fun _ => [])
open Go.Value (int slice string bool pointer agg tuple func) in
open Go.IntKind (i64) in
set_option maxRecDepth 100000 in
theorem dlu_vc (x : DlX (123 : FuncId) (2 : Nat)) (F : Atom) (hc : Con.cond (dlC 123 2) x) (hr : Con.rdc (dlC 123 2) x F) :
  FnOk Try.prog 102 (ixC (123 : FuncId) 2) ∧
 true = true ∧
 ∃ (x_1 : IxX (123 : FuncId) 2),
 [slice (some ⟨x.rb, 0, none⟩) x.xs.length x.cap, func (Fn.func 123) { toList := [] } { toList := [pointer (some ⟨x.L.c1, 0, none⟩), pointer (some ⟨x.L.c2, 0, none⟩)] }] = [slice x_1.a x_1.n x_1.cap, func (Fn.func 123) { toList := [] } { toList := [pointer (some ⟨x_1.L.c1, 0, none⟩), pointer (some ⟨x_1.L.c2, 0, none⟩)] }] ∧
 ([] : List Atom) = [] ∧
 (IsSrc 1 (ints x_1.xs) x_1.a x_1.n ∧ x_1.n * 8 ≤ 140737488351232 ∧ ∀ (u : Int), u ∈ x_1.xs → x_1.L.ok u) ∧
 (Srcd (Atom.pred (rest [(0, Atom.cells x.rb (ints x.xs ++ x.sp) 3), (1, F)] [])) x_1.a (ints x_1.xs) ∧ x_1.L.7 (Atom.pred (rest [(0, Atom.cells x.rb (ints x.xs ++ x.sp) 3), (1, F)] []))) ∧
 ∀ (y : Unit),
 True →
 Br (fixV x_1.L.g x_1.xs 0 == (-1 : Int)) (Done (dlC (123 : FuncId) 2) x F (Ending.returned (slice (some ⟨x.rb, 0, none⟩) x.xs.length x.cap)) [(0, Atom.cells x.rb (ints x.xs ++ x.sp) 3), (1, F)])
 (((-9223372036854775808 : Int) ≤ fixV x_1.L.g x_1.xs 0 + (1 : Int) ∧ fixV x_1.L.g x_1.xs 0 + (1 : Int) ≤ (9223372036854775807 : Int)) ∧
 (∃ (x_2 : DlI), IsDl x x_2 ∧ (slice (some ⟨x.rb, 0, none⟩) x.xs.length x.cap = slice (some ⟨x.rb, 0, none⟩) x.xs.length x.cap ∧ func (Fn.func 123) { toList := [] } { toList := [pointer (some ⟨x.L.c1, 0, none⟩), pointer (some ⟨x.L.c2, 0, none⟩)] } = func (Fn.func 123) { toList := [] } { toList := [pointer (some ⟨x.L.c1, 0, none⟩), pointer (some ⟨x.L.c2, 0, none⟩)] } ∧ int i64 (fixV x_1.L.g x_1.xs 0) = int i64 (↑(rest0 x.L.g (List.take x_2.j x.xs)).length : Int) ∧ int i64 (fixV x_1.L.g x_1.xs 0 + (1 : Int)) = int i64 (↑x_2.j : Int) ∧ True) ∧ Ent [(0, Atom.cells x.rb (ints x.xs ++ x.sp) 3), (1, F)] [(0, Atom.cells x.rb x_2.vs 3), (1, F)]) ∧
 ∀ (x_2 : DlI) (js : Nat → Value),
 IsDl x x_2 →
 Br (decide ((↑x_2.j : Int) < (↑x.xs.length : Int)))
 (((0 : Int) ≤ (↑x_2.j : Int) ∧ (↑x_2.j : Int) < (↑x.xs.length : Int)) ∧
 ∃ (n : Int),
 Look (Atom.cells x.rb x_2.vs 3) ⟨x.rb, 0 + (↑x_2.j : Int).toNat * 1, none⟩ (int i64 n) ∧
 FnOk Try.prog 123 x.L.con ∧
 true = true ∧
 ∃ (x_3 : Int),
 [int i64 n, pointer (some ⟨x.L.c1, 0, none⟩), pointer (some ⟨x.L.c2, 0, none⟩)] = [int i64 x_3, pointer (some ⟨x.L.c1, 0, none⟩), pointer (some ⟨x.L.c2, 0, none⟩)] ∧
 ([] : List Atom) = [] ∧
 x.L.ok x_3 ∧
 x.L.7 (Atom.pred (rest [(0, Atom.cells x.rb x_2.vs 3), (1, F)] [])) ∧
 ∀ (y : Unit),
 True →
 Br (!x.L.g x_3)
 (((0 : Int) ≤ (↑(rest0 x.L.g (List.take x_2.j x.xs)).length : Int) ∧ (↑(rest0 x.L.g (List.take x_2.j x.xs)).length : Int) < (↑x.xs.length : Int)) ∧
 (Same ⟨x.rb, 0 + (↑(rest0 x.L.g (List.take x_2.j x.xs)).length : Int).toNat * 1, none⟩ x.rb ∧ 0 + (↑(rest0 x.L.g (List.take x_2.j x.xs)).length : Int).toNat * 1 < x_2.vs.length) ∧
 ((-9223372036854775808 : Int) ≤ (↑(rest0 x.L.g (List.take x_2.j x.xs)).length : Int) + (1 : Int) ∧ (↑(rest0 x.L.g (List.take x_2.j x.xs)).length : Int) + (1 : Int) ≤ (9223372036854775807 : Int)) ∧
 ((-9223372036854775808 : Int) ≤ (↑x_2.j : Int) + (1 : Int) ∧ (↑x_2.j : Int) + (1 : Int) ≤ (9223372036854775807 : Int)) ∧
 ∃ (y : DlI),
 IsDl x y ∧
 (slice (some ⟨x.rb, 0, none⟩) x.xs.length x.cap = slice (some ⟨x.rb, 0, none⟩) x.xs.length x.cap ∧ func (Fn.func 123) { toList := [] } { toList := [pointer (some ⟨x.L.c1, 0, none⟩), pointer (some ⟨x.L.c2, 0, none⟩)] } = func (Fn.func 123) { toList := [] } { toList := [pointer (some ⟨x.L.c1, 0, none⟩), pointer (some ⟨x.L.c2, 0, none⟩)] } ∧ int i64 ((↑(rest0 x.L.g (List.take x_2.j x.xs)).length : Int) + (1 : Int)) = int i64 (↑(rest0 x.L.g (List.take y.j x.xs)).length : Int) ∧ int i64 ((↑x_2.j : Int) + (1 : Int)) = int i64 (↑y.j : Int) ∧ True) ∧
 Ent [(0, Atom.cells x.rb (x_2.vs.set (0 + (↑(rest0 x.L.g (List.take x_2.j x.xs)).length : Int).toNat * 1) (int i64 n)) 3), (1, F)] [(0, Atom.cells x.rb y.vs 3), (1, F)] ∧ x.xs.length - y.j < x.xs.length - x_2.j)
 (((-9223372036854775808 : Int) ≤ (↑x_2.j : Int) + (1 : Int) ∧ (↑x_2.j : Int) + (1 : Int) ≤ (9223372036854775807 : Int)) ∧
 ∃ (y : DlI),
 IsDl x y ∧
 (slice (some ⟨x.rb, 0, none⟩) x.xs.length x.cap = slice (some ⟨x.rb, 0, none⟩) x.xs.length x.cap ∧ func (Fn.func 123) { toList := [] } { toList := [pointer (some ⟨x.L.c1, 0, none⟩), pointer (some ⟨x.L.c2, 0, none⟩)] } = func (Fn.func 123) { toList := [] } { toList := [pointer (some ⟨x.L.c1, 0, none⟩), pointer (some ⟨x.L.c2, 0, none⟩)] } ∧ int i64 (↑(rest0 x.L.g (List.take x_2.j x.xs)).length : Int) = int i64 (↑(rest0 x.L.g (List.take y.j x.xs)).length : Int) ∧ int i64 ((↑x_2.j : Int) + (1 : Int)) = int i64 (↑y.j : Int) ∧ True) ∧
 Ent [(0, Atom.cells x.rb x_2.vs 3), (1, F)] [(0, Atom.cells x.rb y.vs 3), (1, F)] ∧ x.xs.length - y.j < x.xs.length - x_2.j))
 (((0 : Int) ≤ (↑(rest0 x.L.g (List.take x_2.j x.xs)).length : Int) ∧ (↑(rest0 x.L.g (List.take x_2.j x.xs)).length : Int) ≤ (↑x.xs.length : Int) ∧ (↑x.xs.length : Int) ≤ (↑x.cap : Int) ∧ (↑(rest0 x.L.g (List.take x_2.j x.xs)).length : Int) < (↑x.cap : Int)) ∧
 OpOk Try.prog (opIn Try.f81 11 3) (clC [int i64 (0 : Int)]) ∧
 true = true ∧
 ∃ (x_3 : ClX),
 [slice (some ⟨x.rb, 0 + (↑(rest0 x.L.g (List.take x_2.j x.xs)).length : Int).toNat * 1, none⟩) ((↑x.xs.length : Int).toNat - (↑(rest0 x.L.g (List.take x_2.j x.xs)).length : Int).toNat) (x.cap - (↑(rest0 x.L.g (List.take x_2.j x.xs)).length : Int).toNat)] = [slice (some ⟨x_3.b, x_3.o, none⟩) x_3.n x_3.c] ∧
 [Atom.cells x.rb x_2.vs 3] = [Atom.cells x_3.b x_3.vs x_3.t] ∧ x_3.o + x_3.n * 1 ≤ x_3.vs.length ∧ True ∧ ∀ (y : Unit), True → ((0 : Int) ≤ (0 : Int) ∧ (0 : Int) ≤ (↑(rest0 x.L.g (List.take x_2.j x.xs)).length : Int) ∧ (↑(rest0 x.L.g (List.take x_2.j x.xs)).length : Int) ≤ (↑x.cap : Int) ∧ (0 : Int) < (↑x.cap : Int)) ∧ Done (dlC (123 : FuncId) 2) x F (Ending.returned (slice (some ⟨x.rb, 0, none⟩) ((↑(rest0 x.L.g (List.take x_2.j x.xs)).length : Int).toNat - 0) (x.cap - 0))) [(0, Atom.cells x_3.b (List.take x_3.o x_3.vs ++ zeros [int i64 (0 : Int)] x_3.n ++ List.drop (x_3.o + x_3.n * 1) x_3.vs) x_3.t), (1, F)])) := by
  obtain ⟨L, xs, rb, cap, sp⟩ := x
  obtain ⟨hl, hcap, hle, hok⟩ := hc
  replace hr : L.rd F := hr
  dsimp only at hl hcap hle hok
  have hil := ints_length xs
  refine ⟨ixu_ok, rfl, ⟨L, some ⟨rb, 0, none⟩, xs.length, cap, xs⟩, rfl, rfl, ⟨.blk rb 0 _ (by rw [hil]; exact (Nat.mul_one _).symm), hle, hok⟩, ⟨fun ad e => ?_, L.mono _ _ (sub_rest 1 (by simp) rfl) hr⟩, fun _ _ => ?_⟩
  · cases e
    exact Seg.rest (j := 0) (by simp) (Seg.cells fun j u h => by rw [Nat.zero_add, List.getElem?_append_left (List.getElem?_eq_some_iff.1 h).1]; exact h)
  dsimp only
  rcases fixV_cases L.g xs 0 with ⟨h1, h2⟩ | ⟨k, u, h1, h2, h3, h4⟩
  · refine br_t (by rw [h1]; rfl) ⟨⟨some ⟨rb, 0, none⟩, xs.length, cap, .cells rb (ints xs ++ sp) 3⟩, ?_, rfl, Ent.pick [0, 1] rfl rfl⟩
    show IsRow 3 1 (ints (rest0 L.g xs)) _
    rw [rest0_all h2]
    exact .blk rb xs.length cap sp (by rw [hil]; omega) (by rw [hl]; omega) hcap
  · have hk := (List.getElem?_eq_some_iff.1 h2).1
    have est : rest0 L.g (xs.take (k + 1)) = xs.take k := by rw [rest0_take h2, h3, rest0_all h4]; simp
    have eln : (xs.take k).length = k := by simp; omega
    rw [Nat.zero_add] at h1
    rw [h1]
    refine br_intro (fun e => ?_) (fun _ => ⟨by omega, ⟨⟨k + 1, ints xs ++ sp⟩, ⟨hk, ?_, hl, ?_, rfl⟩, ⟨rfl, rfl, ?_, rfl, trivial⟩, Ent.pick [0, 1] rfl rfl⟩, ?_⟩)
    · exfalso
      simp at e
    · dsimp only; rw [est, eln]; omega
    · dsimp only
      rw [est, eln, List.take_append_of_le_length (by rw [hil]; omega)]
      unfold ints
      rw [List.map_take]
    · dsimp only; rw [est, eln]
    rintro ⟨j, vs⟩ js ⟨hj, hjlt, hvl, htak, hdrp⟩
    dsimp only at hj hjlt hvl htak hdrp ⊢
    generalize hst : rest0 L.g (xs.take j) = st at *
    refine br_decide (fun hjl => ?_) (fun hjl => ?_)
    · obtain ⟨v, hv⟩ : ∃ v, xs[j]? = some v := ⟨xs[j], List.getElem?_eq_getElem (by omega)⟩
      have hvj : vs[j]? = some (.int .i64 v) := by
        have e := congrArg (fun l => l[0]?) hdrp
        simp only [List.getElem?_drop, Nat.add_zero] at e
        rw [e, List.getElem?_append_left (by rw [hil]; omega)]
        exact ints_get hv
      refine ⟨⟨by omega, by omega⟩, v, Look.cells (by rw [show 0 + (j : Int).toNat * 1 = j by omega]; exact hvj), L.good, rfl, v, rfl, rfl, hok v (List.mem_of_getElem? hv), L.mono _ _ (sub_rest 1 (by simp) rfl) hr, fun _ _ => br_intro (fun hg => ?_) (fun hg => ?_)⟩
      · have hg : L.g v = false := by simpa using hg
        have est2 : rest0 L.g (xs.take (j + 1)) = st ++ [v] := by rw [rest0_take hv, hg, hst]; rfl
        have e1 : 0 + ((st.length : Nat) : Int).toNat * 1 = st.length := by omega
        rw [e1]
        refine ⟨⟨by omega, by omega⟩, ⟨⟨rfl, rfl⟩, by omega⟩, ⟨by omega, by omega⟩, ⟨by omega, by omega⟩, ⟨j + 1, _⟩, ⟨by dsimp only; omega, ?_, ?_, ?_, ?_⟩, ⟨rfl, rfl, ?_, rfl, trivial⟩, Ent.pick [0, 1] rfl rfl, by dsimp only; omega⟩
        · dsimp only; rw [est2]; simp; omega
        · dsimp only; rw [List.length_set]; exact hvl
        · dsimp only
          rw [est2, List.length_append, List.length_singleton, ints_append, ← htak, List.take_add_one, List.getElem?_set_self (by omega), List.take_set_of_le (by omega)]
          rfl
        · dsimp only
          rw [List.drop_set_of_lt (by omega), ← List.drop_drop, hdrp, List.drop_drop]
        · dsimp only; rw [est2]; simp
      · have hg : L.g v = true := by simpa using hg
        have est2 : rest0 L.g (xs.take (j + 1)) = st := by rw [rest0_take hv, hg, hst]; simp
        refine ⟨⟨by omega, by omega⟩, ⟨j + 1, vs⟩, ⟨by dsimp only; omega, ?_, hvl, ?_, ?_⟩, ⟨rfl, rfl, ?_, rfl, trivial⟩, Ent.pick [0, 1] rfl rfl, by dsimp only; omega⟩
        · dsimp only; rw [est2]; omega
        · dsimp only; rw [est2]; exact htak
        · dsimp only; rw [← List.drop_drop, hdrp, List.drop_drop]
        · dsimp only; rw [est2]
    · have ej : j = xs.length := by omega
      subst ej
      rw [List.take_of_length_le (Nat.le_refl _)] at hst
      refine ⟨⟨by omega, by omega, by omega, by omega⟩, clear_ok (P := Try.prog) [.int .i64 0] rfl rfl rfl rfl rfl (by decide) (by decide), rfl, ⟨rb, vs, 3, 0 + ((st.length : Nat) : Int).toNat * 1, (xs.length : Int).toNat - ((st.length : Nat) : Int).toNat, cap - ((st.length : Nat) : Int).toNat⟩, rfl, rfl, by dsimp only; omega, trivial, fun _ _ => ⟨⟨by omega, by omega, by omega, by omega⟩, ⟨some ⟨rb, 0, none⟩, st.length, cap, _⟩, ?_, rfl, Ent.pick [0, 1] rfl rfl⟩⟩
      show IsRow 3 1 (ints (rest0 L.g xs)) _
      have e1 : 0 + ((st.length : Nat) : Int).toNat * 1 = st.length := by omega
      dsimp only
      rw [e1, hst, htak, List.append_assoc]
      have hsl := ints_length st
      exact .blk rb st.length cap _ (by rw [hsl]; omega) (by simp only [List.length_append, List.length_drop, zeros_length, hsl, List.length_singleton]; omega) (by omega)
set_option maxRecDepth 100000 in
theorem dlu_ok : FnOk Try.prog 81 (dlC 123 2) :=
  fnOk (N := 42) (by kernel_rfl) Try.func81 rfl (by kernel_rfl) (fun _ => Nat.le_of_ble_eq_true rfl) dlu_H [] fun x F hc hr => Eq.mpr (by kernel_rfl) (dlu_vc x F hc hr)
noncomputable def ixv_H (x : Con.X (ixC 82 1)) (F : Atom) : Hints where
  op := hk (((@ixOv 82 1) x F) ++ [])
  inv := (@ixInv 82 1) x F
  cut := (fun _ _ _ => none) x F
  ord := (fun _ => [])
open Go.Value (int slice string bool pointer agg tuple func) in
open Go.IntKind (i64) in
set_option maxRecDepth 100000 in
theorem ixv_vc (x : IxX (82 : FuncId) (1 : Nat)) (F : Atom) (hc : Con.cond (ixC 82 1) x) (hr : Con.rdc (ixC 82 1) x F) :
  (∃ (x_1 : Nat), (x_1 ≤ x.n ∧ fixV x.L.g x.xs 0 = fixV x.L.g (List.drop x_1 x.xs) x_1) ∧ (slice x.a x.n x.cap = slice x.a x.n x.cap ∧ func (Fn.func 82) { toList := [] } { toList := [pointer (some ⟨x.L.c1, 0, none⟩)] } = func (Fn.func 82) { toList := [] } { toList := [pointer (some ⟨x.L.c1, 0, none⟩)] } ∧ int i64 (↑x.n : Int) = int i64 (↑x.n : Int) ∧ int i64 (0 : Int) = int i64 (↑x_1 : Int) ∧ True) ∧ Ent [(0, F)] [(0, F)]) ∧
 ∀ (x_1 : Nat) (js : Nat → Value),
 x_1 ≤ x.n ∧ fixV x.L.g x.xs 0 = fixV x.L.g (List.drop x_1 x.xs) x_1 →
 Br (decide ((↑x_1 : Int) < (↑x.n : Int)))
 (QOpOk Try.prog (opIn Try.f102 4 3) (ixQ 1) ∧
 ∃ (x_2 : IxQX),
 [slice x.a x.n x.cap, int i64 (↑x_1 : Int)] = [slice (some ⟨x_2.b, x_2.o, none⟩) x_2.len x_2.cap, int i64 x_2.n] ∧
 ((0 : Int) ≤ x_2.n ∧ x_2.n < (↑x_2.len : Int)) ∧
 ∃ (n : Int),
 Look F ⟨x_2.b, x_2.o + x_2.n.toNat * 1, none⟩ (int i64 n) ∧
 FnOk Try.prog 82 x.L.con ∧
 true = true ∧
 ∃ (x_3 : Int),
 [int i64 n, pointer (some ⟨x.L.c1, 0, none⟩)] = [int i64 x_3, pointer (some ⟨x.L.c1, 0, none⟩)] ∧
 ([] : List Atom) = [] ∧ x.L.ok x_3 ∧ x.L.7 (Atom.pred (rest [(0, F)] [])) ∧ ∀ (y : Unit), True → Br (x.L.g x_3) (Done (ixC (82 : FuncId) 1) x F (Ending.returned (int i64 (↑x_1 : Int))) [(0, F)]) (((-9223372036854775808 : Int) ≤ (↑x_1 : Int) + (1 : Int) ∧ (↑x_1 : Int) + (1 : Int) ≤ (9223372036854775807 : Int)) ∧ ∃ (y : Nat), (y ≤ x.n ∧ fixV x.L.g x.xs 0 = fixV x.L.g (List.drop y x.xs) y) ∧ (slice x.a x.n x.cap = slice x.a x.n x.cap ∧ func (Fn.func 82) { toList := [] } { toList := [pointer (some ⟨x.L.c1, 0, none⟩)] } = func (Fn.func 82) { toList := [] } { toList := [pointer (some ⟨x.L.c1, 0, none⟩)] } ∧ int i64 (↑x.n : Int) = int i64 (↑x.n : Int) ∧ int i64 ((↑x_1 : Int) + (1 : Int)) = int i64 (↑y : Int) ∧ True) ∧ Ent [(0, F)] [(0, F)] ∧ x.n - y < x.n - x_1))
 (Done (ixC (82 : FuncId) 1) x F (Ending.returned (int i64 (-1 : Int))) [(0, F)]) := by
  obtain ⟨L, a, n, cap, xs⟩ := x
  obtain ⟨hsrc, hle, hok⟩ := hc
  obtain ⟨hr1, hr2⟩ := hr
  dsimp only at hsrc hle hok hr1 hr2
  have hlen : xs.length = n := by have := hsrc.len; rw [ints_length] at this; omega
  refine ⟨⟨0, ⟨Nat.zero_le _, rfl⟩, ⟨rfl, rfl, rfl, rfl, trivial⟩, Ent.pick [0] rfl rfl⟩, ?_⟩
  rintro k js ⟨h1, h2⟩
  dsimp only at h1 h2 ⊢
  refine br_decide (fun hlt => ?_) (fun hge => ?_)
  · obtain ⟨b1, o1, rfl⟩ := hsrc.some (by omega)
    obtain ⟨u, hu⟩ : ∃ u, xs[k]? = some u := ⟨_, List.getElem?_eq_getElem (by omega)⟩
    have e1 : o1 + (k : Int).toNat * 1 = o1 + k := by omega
    rw [drop_get hu, fixV] at h2
    refine ⟨ixq_ok 1 rfl rfl rfl rfl, ⟨b1, o1, n, cap, k⟩, rfl, by dsimp only; omega, u, by dsimp only; rw [e1]; exact hr1.look (ints_get hu), L.good, rfl, u, rfl, rfl, hok u (List.mem_of_getElem? hu), L.mono _ _ (sub_rest 0 (by simp) rfl) hr2, fun _ _ => br_intro (fun hg => ⟨(), trivial, retI ?_, Ent.pick [0] rfl rfl⟩) (fun hg => ⟨by omega, k + 1, ⟨by omega, ?_⟩, ⟨rfl, rfl, rfl, rfl, trivial⟩, Ent.pick [0] rfl rfl, by omega⟩)⟩
    · rw [h2, hg]; rfl
    · rw [h2, hg]; rfl
  · rw [List.drop_eq_nil_of_le (by omega)] at h2
    exact ⟨(), trivial, retI h2.symm, Ent.pick [0] rfl rfl⟩
set_option maxRecDepth 100000 in
theorem ixv_ok : FnOk Try.prog 102 (ixC 82 1) :=
  fnOk (N := 19) (by kernel_rfl) Try.func102 rfl (by kernel_rfl) (fun _ => Nat.le_of_ble_eq_true rfl) ixv_H [] fun x F hc hr => Eq.mpr (by kernel_rfl) (ixv_vc x F hc hr)
noncomputable def dlv_H (x : Con.X (dlC 82 1)) (F : Atom) : Hints where
  op := hk (((@dlOv 82 1) x F) ++ [])
  inv := (@dlInv 82 1) x F
  cut := (fun _ _ _ => none) x F
  ord := (fun _ => [])
open Go.Value (int slice string bool pointer agg tuple func) in
open Go.IntKind (i64) in
set_option maxRecDepth 100000 in
theorem dlv_vc (x : DlX (82 : FuncId) (1 : Nat)) (F : Atom) (hc : Con.cond (dlC 82 1) x) (hr : Con.rdc (dlC 82 1) x F) :
  FnOk Try.prog 102 (ixC (82 : FuncId) 1) ∧
 true = true ∧
 ∃ (x_1 : IxX (82 : FuncId) 1),
 [slice (some ⟨x.rb, 0, none⟩) x.xs.length x.cap, func (Fn.func 82) { toList := [] } { toList := [pointer (some ⟨x.L.c1, 0, none⟩)] }] = [slice x_1.a x_1.n x_1.cap, func (Fn.func 82) { toList := [] } { toList := [pointer (some ⟨x_1.L.c1, 0, none⟩)] }] ∧
 ([] : List Atom) = [] ∧
 (IsSrc 1 (ints x_1.xs) x_1.a x_1.n ∧ x_1.n * 8 ≤ 140737488351232 ∧ ∀ (u : Int), u ∈ x_1.xs → x_1.L.ok u) ∧
 (Srcd (Atom.pred (rest [(0, Atom.cells x.rb (ints x.xs ++ x.sp) 3), (1, F)] [])) x_1.a (ints x_1.xs) ∧ x_1.L.7 (Atom.pred (rest [(0, Atom.cells x.rb (ints x.xs ++ x.sp) 3), (1, F)] []))) ∧
 ∀ (y : Unit),
 True →
 Br (fixV x_1.L.g x_1.xs 0 == (-1 : Int)) (Done (dlC (82 : FuncId) 1) x F (Ending.returned (slice (some ⟨x.rb, 0, none⟩) x.xs.length x.cap)) [(0, Atom.cells x.rb (ints x.xs ++ x.sp) 3), (1, F)])
 (((-9223372036854775808 : Int) ≤ fixV x_1.L.g x_1.xs 0 + (1 : Int) ∧ fixV x_1.L.g x_1.xs 0 + (1 : Int) ≤ (9223372036854775807 : Int)) ∧
 (∃ (x_2 : DlI), IsDl x x_2 ∧ (slice (some ⟨x.rb, 0, none⟩) x.xs.length x.cap = slice (some ⟨x.rb, 0, none⟩) x.xs.length x.cap ∧ func (Fn.func 82) { toList := [] } { toList := [pointer (some ⟨x.L.c1, 0, none⟩)] } = func (Fn.func 82) { toList := [] } { toList := [pointer (some ⟨x.L.c1, 0, none⟩)] } ∧ int i64 (fixV x_1.L.g x_1.xs 0) = int i64 (↑(rest0 x.L.g (List.take x_2.j x.xs)).length : Int) ∧ int i64 (fixV x_1.L.g x_1.xs 0 + (1 : Int)) = int i64 (↑x_2.j : Int) ∧ True) ∧ Ent [(0, Atom.cells x.rb (ints x.xs ++ x.sp) 3), (1, F)] [(0, Atom.cells x.rb x_2.vs 3), (1, F)]) ∧
 ∀ (x_2 : DlI) (js : Nat → Value),
 IsDl x x_2 →
 Br (decide ((↑x_2.j : Int) < (↑x.xs.length : Int)))
 (((0 : Int) ≤ (↑x_2.j : Int) ∧ (↑x_2.j : Int) < (↑x.xs.length : Int)) ∧
 ∃ (n : Int),
 Look (Atom.cells x.rb x_2.vs 3) ⟨x.rb, 0 + (↑x_2.j : Int).toNat * 1, none⟩ (int i64 n) ∧
 FnOk Try.prog 82 x.L.con ∧
 true = true ∧
 ∃ (x_3 : Int),
 [int i64 n, pointer (some ⟨x.L.c1, 0, none⟩)] = [int i64 x_3, pointer (some ⟨x.L.c1, 0, none⟩)] ∧
 ([] : List Atom) = [] ∧
 x.L.ok x_3 ∧
 x.L.7 (Atom.pred (rest [(0, Atom.cells x.rb x_2.vs 3), (1, F)] [])) ∧
 ∀ (y : Unit),
 True →
 Br (!x.L.g x_3)
 (((0 : Int) ≤ (↑(rest0 x.L.g (List.take x_2.j x.xs)).length : Int) ∧ (↑(rest0 x.L.g (List.take x_2.j x.xs)).length : Int) < (↑x.xs.length : Int)) ∧
 (Same ⟨x.rb, 0 + (↑(rest0 x.L.g (List.take x_2.j x.xs)).length : Int).toNat * 1, none⟩ x.rb ∧ 0 + (↑(rest0 x.L.g (List.take x_2.j x.xs)).length : Int).toNat * 1 < x_2.vs.length) ∧
 ((-9223372036854775808 : Int) ≤ (↑(rest0 x.L.g (List.take x_2.j x.xs)).length : Int) + (1 : Int) ∧ (↑(rest0 x.L.g (List.take x_2.j x.xs)).length : Int) + (1 : Int) ≤ (9223372036854775807 : Int)) ∧
 ((-9223372036854775808 : Int) ≤ (↑x_2.j : Int) + (1 : Int) ∧ (↑x_2.j : Int) + (1 : Int) ≤ (9223372036854775807 : Int)) ∧
 ∃ (y : DlI),
 IsDl x y ∧
 (slice (some ⟨x.rb, 0, none⟩) x.xs.length x.cap = slice (some ⟨x.rb, 0, none⟩) x.xs.length x.cap ∧ func (Fn.func 82) { toList := [] } { toList := [pointer (some ⟨x.L.c1, 0, none⟩)] } = func (Fn.func 82) { toList := [] } { toList := [pointer (some ⟨x.L.c1, 0, none⟩)] } ∧ int i64 ((↑(rest0 x.L.g (List.take x_2.j x.xs)).length : Int) + (1 : Int)) = int i64 (↑(rest0 x.L.g (List.take y.j x.xs)).length : Int) ∧ int i64 ((↑x_2.j : Int) + (1 : Int)) = int i64 (↑y.j : Int) ∧ True) ∧
 Ent [(0, Atom.cells x.rb (x_2.vs.set (0 + (↑(rest0 x.L.g (List.take x_2.j x.xs)).length : Int).toNat * 1) (int i64 n)) 3), (1, F)] [(0, Atom.cells x.rb y.vs 3), (1, F)] ∧ x.xs.length - y.j < x.xs.length - x_2.j)
 (((-9223372036854775808 : Int) ≤ (↑x_2.j : Int) + (1 : Int) ∧ (↑x_2.j : Int) + (1 : Int) ≤ (9223372036854775807 : Int)) ∧
 ∃ (y : DlI), IsDl x y ∧ (slice (some ⟨x.rb, 0, none⟩) x.xs.length x.cap = slice (some ⟨x.rb, 0, none⟩) x.xs.length x.cap ∧ func (Fn.func 82) { toList := [] } { toList := [pointer (some ⟨x.L.c1, 0, none⟩)] } = func (Fn.func 82) { toList := [] } { toList := [pointer (some ⟨x.L.c1, 0, none⟩)] } ∧ int i64 (↑(rest0 x.L.g (List.take x_2.j x.xs)).length : Int) = int i64 (↑(rest0 x.L.g (List.take y.j x.xs)).length : Int) ∧ int i64 ((↑x_2.j : Int) + (1 : Int)) = int i64 (↑y.j : Int) ∧ True) ∧ Ent [(0, Atom.cells x.rb x_2.vs 3), (1, F)] [(0, Atom.cells x.rb y.vs 3), (1, F)] ∧ x.xs.length - y.j < x.xs.length - x_2.j))
 (((0 : Int) ≤ (↑(rest0 x.L.g (List.take x_2.j x.xs)).length : Int) ∧ (↑(rest0 x.L.g (List.take x_2.j x.xs)).length : Int) ≤ (↑x.xs.length : Int) ∧ (↑x.xs.length : Int) ≤ (↑x.cap : Int) ∧ (↑(rest0 x.L.g (List.take x_2.j x.xs)).length : Int) < (↑x.cap : Int)) ∧
 OpOk Try.prog (opIn Try.f81 11 3) (clC [int i64 (0 : Int)]) ∧
 true = true ∧
 ∃ (x_3 : ClX),
 [slice (some ⟨x.rb, 0 + (↑(rest0 x.L.g (List.take x_2.j x.xs)).length : Int).toNat * 1, none⟩) ((↑x.xs.length : Int).toNat - (↑(rest0 x.L.g (List.take x_2.j x.xs)).length : Int).toNat) (x.cap - (↑(rest0 x.L.g (List.take x_2.j x.xs)).length : Int).toNat)] = [slice (some ⟨x_3.b, x_3.o, none⟩) x_3.n x_3.c] ∧
 [Atom.cells x.rb x_2.vs 3] = [Atom.cells x_3.b x_3.vs x_3.t] ∧ x_3.o + x_3.n * 1 ≤ x_3.vs.length ∧ True ∧ ∀ (y : Unit), True → ((0 : Int) ≤ (0 : Int) ∧ (0 : Int) ≤ (↑(rest0 x.L.g (List.take x_2.j x.xs)).length : Int) ∧ (↑(rest0 x.L.g (List.take x_2.j x.xs)).length : Int) ≤ (↑x.cap : Int) ∧ (0 : Int) < (↑x.cap : Int)) ∧ Done (dlC (82 : FuncId) 1) x F (Ending.returned (slice (some ⟨x.rb, 0, none⟩) ((↑(rest0 x.L.g (List.take x_2.j x.xs)).length : Int).toNat - 0) (x.cap - 0))) [(0, Atom.cells x_3.b (List.take x_3.o x_3.vs ++ zeros [int i64 (0 : Int)] x_3.n ++ List.drop (x_3.o + x_3.n * 1) x_3.vs) x_3.t), (1, F)])) := by
  obtain ⟨L, xs, rb, cap, sp⟩ := x
  obtain ⟨hl, hcap, hle, hok⟩ := hc
  replace hr : L.rd F := hr
  dsimp only at hl hcap hle hok
  have hil := ints_length xs
  refine ⟨ixv_ok, rfl, ⟨L, some ⟨rb, 0, none⟩, xs.length, cap, xs⟩, rfl, rfl, ⟨.blk rb 0 _ (by rw [hil]; exact (Nat.mul_one _).symm), hle, hok⟩, ⟨fun ad e => ?_, L.mono _ _ (sub_rest 1 (by simp) rfl) hr⟩, fun _ _ => ?_⟩
  · cases e
    exact Seg.rest (j := 0) (by simp) (Seg.cells fun j u h => by rw [Nat.zero_add, List.getElem?_append_left (List.getElem?_eq_some_iff.1 h).1]; exact h)
  dsimp only
  rcases fixV_cases L.g xs 0 with ⟨h1, h2⟩ | ⟨k, u, h1, h2, h3, h4⟩
  · refine br_t (by rw [h1]; rfl) ⟨⟨some ⟨rb, 0, none⟩, xs.length, cap, .cells rb (ints xs ++ sp) 3⟩, ?_, rfl, Ent.pick [0, 1] rfl rfl⟩
    show IsRow 3 1 (ints (rest0 L.g xs)) _
    rw [rest0_all h2]
    exact .blk rb xs.length cap sp (by rw [hil]; omega) (by rw [hl]; omega) hcap
  · have hk := (List.getElem?_eq_some_iff.1 h2).1
    have est : rest0 L.g (xs.take (k + 1)) = xs.take k := by rw [rest0_take h2, h3, rest0_all h4]; simp
    have eln : (xs.take k).length = k := by simp; omega
    rw [Nat.zero_add] at h1
    rw [h1]
    refine br_intro (fun e => ?_) (fun _ => ⟨by omega, ⟨⟨k + 1, ints xs ++ sp⟩, ⟨hk, ?_, hl, ?_, rfl⟩, ⟨rfl, rfl, ?_, rfl, trivial⟩, Ent.pick [0, 1] rfl rfl⟩, ?_⟩)
    · exfalso
      simp at e
    · dsimp only; rw [est, eln]; omega
    · dsimp only
      rw [est, eln, List.take_append_of_le_length (by rw [hil]; omega)]
      unfold ints
      rw [List.map_take]
    · dsimp only; rw [est, eln]
    rintro ⟨j, vs⟩ js ⟨hj, hjlt, hvl, htak, hdrp⟩
    dsimp only at hj hjlt hvl htak hdrp ⊢
    generalize hst : rest0 L.g (xs.take j) = st at *
    refine br_decide (fun hjl => ?_) (fun hjl => ?_)
    · obtain ⟨v, hv⟩ : ∃ v, xs[j]? = some v := ⟨xs[j], List.getElem?_eq_getElem (by omega)⟩
      have hvj : vs[j]? = some (.int .i64 v) := by
        have e := congrArg (fun l => l[0]?) hdrp
        simp only [List.getElem?_drop, Nat.add_zero] at e
        rw [e, List.getElem?_append_left (by rw [hil]; omega)]
        exact ints_get hv
      refine ⟨⟨by omega, by omega⟩, v, Look.cells (by rw [show 0 + (j : Int).toNat * 1 = j by omega]; exact hvj), L.good, rfl, v, rfl, rfl, hok v (List.mem_of_getElem? hv), L.mono _ _ (sub_rest 1 (by simp) rfl) hr, fun _ _ => br_intro (fun hg => ?_) (fun hg => ?_)⟩
      · have hg : L.g v = false := by simpa using hg
        have est2 : rest0 L.g (xs.take (j + 1)) = st ++ [v] := by rw [rest0_take hv, hg, hst]; rfl
        have e1 : 0 + ((st.length : Nat) : Int).toNat * 1 = st.length := by omega
        rw [e1]
        refine ⟨⟨by omega, by omega⟩, ⟨⟨rfl, rfl⟩, by omega⟩, ⟨by omega, by omega⟩, ⟨by omega, by omega⟩, ⟨j + 1, _⟩, ⟨by dsimp only; omega, ?_, ?_, ?_, ?_⟩, ⟨rfl, rfl, ?_, rfl, trivial⟩, Ent.pick [0, 1] rfl rfl, by dsimp only; omega⟩
        · dsimp only; rw [est2]; simp; omega
        · dsimp only; rw [List.length_set]; exact hvl
        · dsimp only
          rw [est2, List.length_append, List.length_singleton, ints_append, ← htak, List.take_add_one, List.getElem?_set_self (by omega), List.take_set_of_le (by omega)]
          rfl
        · dsimp only
          rw [List.drop_set_of_lt (by omega), ← List.drop_drop, hdrp, List.drop_drop]
        · dsimp only; rw [est2]; simp
      · have hg : L.g v = true := by simpa using hg
        have est2 : rest0 L.g (xs.take (j + 1)) = st := by rw [rest0_take hv, hg, hst]; simp
        refine ⟨⟨by omega, by omega⟩, ⟨j + 1, vs⟩, ⟨by dsimp only; omega, ?_, hvl, ?_, ?_⟩, ⟨rfl, rfl, ?_, rfl, trivial⟩, Ent.pick [0, 1] rfl rfl, by dsimp only; omega⟩
        · dsimp only; rw [est2]; omega
        · dsimp only; rw [est2]; exact htak
        · dsimp only; rw [← List.drop_drop, hdrp, List.drop_drop]
        · dsimp only; rw [est2]
    · have ej : j = xs.length := by omega
      subst ej
      rw [List.take_of_length_le (Nat.le_refl _)] at hst
      refine ⟨⟨by omega, by omega, by omega, by omega⟩, clear_ok (P := Try.prog) [.int .i64 0] rfl rfl rfl rfl rfl (by decide) (by decide), rfl, ⟨rb, vs, 3, 0 + ((st.length : Nat) : Int).toNat * 1, (xs.length : Int).toNat - ((st.length : Nat) : Int).toNat, cap - ((st.length : Nat) : Int).toNat⟩, rfl, rfl, by dsimp only; omega, trivial, fun _ _ => ⟨⟨by omega, by omega, by omega, by omega⟩, ⟨some ⟨rb, 0, none⟩, st.length, cap, _⟩, ?_, rfl, Ent.pick [0, 1] rfl rfl⟩⟩
      show IsRow 3 1 (ints (rest0 L.g xs)) _
      have e1 : 0 + ((st.length : Nat) : Int).toNat * 1 = st.length := by omega
      dsimp only
      rw [e1, hst, htak, List.append_assoc]
      have hsl := ints_length st
      exact .blk rb st.length cap _ (by rw [hsl]; omega) (by simp only [List.length_append, List.length_drop, zeros_length, hsl, List.length_singleton]; omega) (by omega)
set_option maxRecDepth 100000 in
theorem dlv_ok : FnOk Try.prog 81 (dlC 82 1) :=
  fnOk (N := 42) (by kernel_rfl) Try.func81 rfl (by kernel_rfl) (fun _ => Nat.le_of_ble_eq_true rfl) dlv_H [] fun x F hc hr => Eq.mpr (by kernel_rfl) (dlv_vc x F hc hr)
structure DnX (f : FuncId) (m : Nat) where
  L : Clo f m
def dnC (f : FuncId) (m : Nat) : Con where
  X := DnX f m
  Y := Unit
  args x := [.slice none 0 0, x.L.v]
  pre _ := [.emp]
  cond _ := True
  rdc x F := x.L.rd F
  rel _ _ := True
  val _ _ := .returned (.slice none 0 0)
  post _ _ := [.emp]
  rmono x A B h hk := x.L.mono A B h hk
def dnOv {f : FuncId} {m : Nat} (_x : DnX f m) (_F : Atom) : List (Nat × Nat × OH) := [(1, 2, .c (ixC f m) [] [])]
def dnInv {f : FuncId} {m : Nat} (x : DnX f m) (F : Atom) : Nat → Option Inv := fun
  | 0 => some { X := Unit, P := fun _ => True, mu := fun _ => 0, lv := fun _ => [(0, .slice none 0 0), (1, x.L.v), (5, .int .i64 0), (6, .int .i64 0)], st := fun _ => [.emp, F] }
  | _ => none
/-- slices.DeleteFunc at an owned list of ints: what the function doesn't name stays. -/
structure DelX (f : FuncId) (m : Nat) where
  L : Clo f m
  xs : List Int
  r : Row
def delC (f : FuncId) (m : Nat) : Con where
  X := DelX f m
  Y := Row
  args x := [.slice x.r.a x.r.n x.r.cap, x.L.v]
  pre x := [x.r.A]
  cond x := IsRow 3 1 (ints x.xs) x.r ∧ x.r.n * 8 ≤ 140737488351232 ∧ ∀ u ∈ x.xs, x.L.ok u
  rdc x F := x.L.rd F
  rel x y := IsRow 3 1 (ints (rest0 x.L.g x.xs)) y
  val _ y := .returned (.slice y.a y.n y.cap)
  post _ y := [y.A]
  rmono x A B h hk := x.L.mono A B h hk
noncomputable def dnu_H (x : Con.X (dnC 123 2)) (F : Atom) : Hints where
  op := hk (((@dnOv 123 2) x F) ++ [])
  inv := (@dnInv 123 2) x F
  cut := (fun _ _ _ => none) x F
  ord := (fun _ => [])
open Go.Value (int slice string bool pointer agg tuple func) in
open Go.IntKind (i64) in
set_option maxRecDepth 100000 in
theorem dnu_vc (x : DnX (123 : FuncId) (2 : Nat)) (F : Atom) (hc : Con.cond (dnC 123 2) x) (hr : Con.rdc (dnC 123 2) x F) :
  FnOk Try.prog 102 (ixC (123 : FuncId) 2) ∧
 true = true ∧
 ∃ (x_1 : IxX (123 : FuncId) 2),
 [slice none 0 0, func (Fn.func 123) { toList := [] } { toList := [pointer (some ⟨x.L.c1, 0, none⟩), pointer (some ⟨x.L.c2, 0, none⟩)] }] = [slice x_1.a x_1.n x_1.cap, func (Fn.func 123) { toList := [] } { toList := [pointer (some ⟨x_1.L.c1, 0, none⟩), pointer (some ⟨x_1.L.c2, 0, none⟩)] }] ∧
 ([] : List Atom) = [] ∧
 (IsSrc 1 (ints x_1.xs) x_1.a x_1.n ∧ x_1.n * 8 ≤ 140737488351232 ∧ ∀ (u : Int), u ∈ x_1.xs → x_1.L.ok u) ∧
 (Srcd (Atom.pred (rest [(0, Atom.emp), (1, F)] [])) x_1.a (ints x_1.xs) ∧ x_1.L.7 (Atom.pred (rest [(0, Atom.emp), (1, F)] []))) ∧
 ∀ (y : Unit),
 True →
 Br (fixV x_1.L.g x_1.xs 0 == (-1 : Int)) (Done (dnC (123 : FuncId) 2) x F (Ending.returned (slice none 0 0)) [(0, Atom.emp), (1, F)])
 (((-9223372036854775808 : Int) ≤ fixV x_1.L.g x_1.xs 0 + (1 : Int) ∧ fixV x_1.L.g x_1.xs 0 + (1 : Int) ≤ (9223372036854775807 : Int)) ∧ (∃ (x_2 : Unit), True ∧ (slice none 0 0 = slice none 0 0 ∧ func (Fn.func 123) { toList := [] } { toList := [pointer (some ⟨x.L.c1, 0, none⟩), pointer (some ⟨x.L.c2, 0, none⟩)] } = func (Fn.func 123) { toList := [] } { toList := [pointer (some ⟨x.L.c1, 0, none⟩), pointer (some ⟨x.L.c2, 0, none⟩)] } ∧ int i64 (fixV x_1.L.g x_1.xs 0) = int i64 (0 : Int) ∧ int i64 (fixV x_1.L.g x_1.xs 0 + (1 : Int)) = int i64 (0 : Int) ∧ True) ∧ Ent [(0, Atom.emp), (1, F)] [(0, Atom.emp), (1, F)]) ∧ ∀ (x : Unit) (js : Nat → Value), True → False) := by
  replace hr : x.L.rd F := hr
  exact ⟨ixu_ok, rfl, ⟨x.L, none, 0, 0, []⟩, rfl, rfl, ⟨.nil rfl, Nat.zero_le _, fun u hu => by simp at hu⟩, ⟨(fun _ e => nomatch e), x.L.mono _ _ (sub_rest 1 (by simp) rfl) hr⟩, fun _ _ => br_t rfl ⟨(), trivial, rfl, Ent.pick [0, 1] rfl rfl⟩⟩
set_option maxRecDepth 100000 in
theorem dnu_ok : FnOk Try.prog 81 (dnC 123 2) :=
  fnOk (N := 42) (by kernel_rfl) Try.func81 rfl (by kernel_rfl) (fun _ => Nat.le_of_ble_eq_true rfl) dnu_H [] fun x F hc hr => Eq.mpr (by kernel_rfl) (dnu_vc x F hc hr)
theorem delu_ok : FnOk Try.prog 81 (delC 123 2) := by
  refine ⟨fun x F I w hc hr hs => ?_⟩
  obtain ⟨L, xs, r⟩ := x
  obtain ⟨hrow, hle, hok⟩ := hc
  dsimp only at hrow hle hok
  have hlen := hrow.len
  rw [ints_length, Nat.mul_one] at hlen
  cases hrow with
  | nil h =>
    have : xs = [] := List.eq_nil_of_length_eq_zero hlen
    subst this
    refine (dnu_ok.h ⟨L⟩ F I w trivial hr hs).mono ?_
    rintro e w' ⟨_, J, _, rfl, h1, h2, h3⟩
    exact ⟨nilRow, J, .nil rfl, rfl, h1, h2, h3⟩
  | blk rb n cap sp hl hsz hn =>
    dsimp only at hlen hle
    subst hlen
    exact dlu_ok.h ⟨L, xs, rb, cap, sp⟩ F I w ⟨by rw [hsz, Nat.mul_one], hn, hle, hok⟩ hr hs
noncomputable def dnv_H (x : Con.X (dnC 82 1)) (F : Atom) : Hints where
  op := hk (((@dnOv 82 1) x F) ++ [])
  inv := (@dnInv 82 1) x F
  cut := (fun _ _ _ => none) x F
  ord := (fun _ => [])
open Go.Value (int slice string bool pointer agg tuple func) in
open Go.IntKind (i64) in
set_option maxRecDepth 100000 in
theorem dnv_vc (x : DnX (82 : FuncId) (1 : Nat)) (F : Atom) (hc : Con.cond (dnC 82 1) x) (hr : Con.rdc (dnC 82 1) x F) :
  FnOk Try.prog 102 (ixC (82 : FuncId) 1) ∧
 true = true ∧
 ∃ (x_1 : IxX (82 : FuncId) 1),
 [slice none 0 0, func (Fn.func 82) { toList := [] } { toList := [pointer (some ⟨x.L.c1, 0, none⟩)] }] = [slice x_1.a x_1.n x_1.cap, func (Fn.func 82) { toList := [] } { toList := [pointer (some ⟨x_1.L.c1, 0, none⟩)] }] ∧
 ([] : List Atom) = [] ∧
 (IsSrc 1 (ints x_1.xs) x_1.a x_1.n ∧ x_1.n * 8 ≤ 140737488351232 ∧ ∀ (u : Int), u ∈ x_1.xs → x_1.L.ok u) ∧
 (Srcd (Atom.pred (rest [(0, Atom.emp), (1, F)] [])) x_1.a (ints x_1.xs) ∧ x_1.L.7 (Atom.pred (rest [(0, Atom.emp), (1, F)] []))) ∧
 ∀ (y : Unit),
 True →
 Br (fixV x_1.L.g x_1.xs 0 == (-1 : Int)) (Done (dnC (82 : FuncId) 1) x F (Ending.returned (slice none 0 0)) [(0, Atom.emp), (1, F)])
 (((-9223372036854775808 : Int) ≤ fixV x_1.L.g x_1.xs 0 + (1 : Int) ∧ fixV x_1.L.g x_1.xs 0 + (1 : Int) ≤ (9223372036854775807 : Int)) ∧ (∃ (x_2 : Unit), True ∧ (slice none 0 0 = slice none 0 0 ∧ func (Fn.func 82) { toList := [] } { toList := [pointer (some ⟨x.L.c1, 0, none⟩)] } = func (Fn.func 82) { toList := [] } { toList := [pointer (some ⟨x.L.c1, 0, none⟩)] } ∧ int i64 (fixV x_1.L.g x_1.xs 0) = int i64 (0 : Int) ∧ int i64 (fixV x_1.L.g x_1.xs 0 + (1 : Int)) = int i64 (0 : Int) ∧ True) ∧ Ent [(0, Atom.emp), (1, F)] [(0, Atom.emp), (1, F)]) ∧ ∀ (x : Unit) (js : Nat → Value), True → False) := by
  replace hr : x.L.rd F := hr
  exact ⟨ixv_ok, rfl, ⟨x.L, none, 0, 0, []⟩, rfl, rfl, ⟨.nil rfl, Nat.zero_le _, fun u hu => by simp at hu⟩, ⟨(fun _ e => nomatch e), x.L.mono _ _ (sub_rest 1 (by simp) rfl) hr⟩, fun _ _ => br_t rfl ⟨(), trivial, rfl, Ent.pick [0, 1] rfl rfl⟩⟩
set_option maxRecDepth 100000 in
theorem dnv_ok : FnOk Try.prog 81 (dnC 82 1) :=
  fnOk (N := 42) (by kernel_rfl) Try.func81 rfl (by kernel_rfl) (fun _ => Nat.le_of_ble_eq_true rfl) dnv_H [] fun x F hc hr => Eq.mpr (by kernel_rfl) (dnv_vc x F hc hr)
theorem delv_ok : FnOk Try.prog 81 (delC 82 1) := by
  refine ⟨fun x F I w hc hr hs => ?_⟩
  obtain ⟨L, xs, r⟩ := x
  obtain ⟨hrow, hle, hok⟩ := hc
  dsimp only at hrow hle hok
  have hlen := hrow.len
  rw [ints_length, Nat.mul_one] at hlen
  cases hrow with
  | nil h =>
    have : xs = [] := List.eq_nil_of_length_eq_zero hlen
    subst this
    refine (dnv_ok.h ⟨L⟩ F I w trivial hr hs).mono ?_
    rintro e w' ⟨_, J, _, rfl, h1, h2, h3⟩
    exact ⟨nilRow, J, .nil rfl, rfl, h1, h2, h3⟩
  | blk rb n cap sp hl hsz hn =>
    dsimp only at hlen hle
    subst hlen
    exact dlv_ok.h ⟨L, xs, rb, cap, sp⟩ F I w ⟨by rw [hsz, Nat.mul_one], hn, hle, hok⟩ hr hs
end Go.Proofs.Ytkmdgnbfojkcnaa
