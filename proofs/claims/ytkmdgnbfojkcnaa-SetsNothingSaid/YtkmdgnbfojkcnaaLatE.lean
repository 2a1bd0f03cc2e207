/- Slices' functions: IndexFunc, ContainsFunc, Index, Contains, Clone. -/
import Derived.Test.YtkmdgnbfojkcnaaEngM
import Derived.Test.YtkmdgnbfojkcnaaEngN
set_option linter.all false
namespace Go.Proofs.Ytkmdgnbfojkcnaa
open Go
set_option maxHeartbeats 1000000
def capsM (m c1 c2 c3 c4 : Nat) : List Value := ([.pointer (some ⟨c1, 0, none⟩), .pointer (some ⟨c2, 0, none⟩), .pointer (some ⟨c3, 0, none⟩), .pointer (some ⟨c4, 0, none⟩)] : List Value).take m
def goC (caps : List Value) (g : Int → Bool) (ok : Int → Prop) (rd : Atom → Prop) (mono : ∀ A B, Sub A B → rd A → rd B) : Con where
  X := Int
  Y := Unit
  args a := .int .i64 a :: caps
  pre _ := []
  cond a := ok a
  rdc _ F := rd F
  rel _ _ := True
  val a _ := .returned (.bool (g a))
  post _ _ := []
  rmono _ A B h hk := mono A B h hk
/-- A function value that answers a question of a number, and only reads: function 'f', 'm' captured places. -/
structure Clo (f : FuncId) (m : Nat) where
  c1 : Nat
  c2 : Nat
  c3 : Nat
  c4 : Nat
  g : Int → Bool
  ok : Int → Prop
  rd : Atom → Prop
  mono : ∀ A B, Sub A B → rd A → rd B
  good : FnOk Try.prog f (goC (capsM m c1 c2 c3 c4) g ok rd mono)
def Clo.con {f : FuncId} {m : Nat} (L : Clo f m) : Con := goC (capsM m L.c1 L.c2 L.c3 L.c4) L.g L.ok L.rd L.mono
def Clo.v {f : FuncId} {m : Nat} (L : Clo f m) : Value := .func (.func f) #[] ⟨capsM m L.c1 L.c2 L.c3 L.c4⟩
def fixV (g : Int → Bool) : List Int → Nat → Int
  | [], _ => -1
  | x :: r, i => bif g x then i else fixV g r (i + 1)
theorem fixV_any (g : Int → Bool) (xs : List Int) : ∀ i, decide (fixV g xs i ≥ 0) = xs.any g := by
  induction xs with
  | nil => intro i; rfl
  | cons x r ih =>
    intro i
    rw [fixV, List.any_cons]
    cases hg : g x with
    | true => rw [cond_true, Bool.true_or]; exact decide_eq_true (by omega)
    | false => rw [cond_false, Bool.false_or]; exact ih _
def ints (ns : List Int) : List Value := ns.map fun n => .int .i64 n
theorem ints_length (ns : List Int) : (ints ns).length = ns.length := by simp [ints]
theorem ints_get {ns : List Int} {i : Nat} {n : Int} (h : ns[i]? = some n) : (ints ns)[i]? = some (.int .i64 n) := by unfold ints; rw [List.getElem?_map, h]; rfl
theorem ints_one {ns : List Int} {u : Value} (h : u ∈ ints ns) : u.oneCell' = true := by
  obtain ⟨n, _, rfl⟩ := List.mem_map.1 h; rfl
theorem ints_append (a b : List Int) : ints (a ++ b) = ints a ++ ints b := by simp [ints]
theorem drop_get {xs : List Int} {k : Nat} {u : Int} (h : xs[k]? = some u) : xs.drop k = u :: xs.drop (k + 1) := by
  obtain ⟨hk, rfl⟩ := List.getElem?_eq_some_iff.1 h
  exact List.drop_eq_getElem_cons hk
theorem retI {p q : Int} (h : p = q) : Ending.returned (.int .i64 p) = .returned (.int .i64 q) := congrArg (fun q => Ending.returned (Value.int .i64 q)) h
theorem retB {p q : Bool} (h : p = q) : Ending.returned (.bool p) = .returned (.bool q) := congrArg (fun q => Ending.returned (Value.bool q)) h
structure IxX (f : FuncId) (m : Nat) where
  L : Clo f m
  a : Option Addr
  n : Nat
  cap : Nat
  xs : List Int
def ixC (f : FuncId) (m : Nat) : Con where
  X := IxX f m
  Y := Unit
  args x := [.slice x.a x.n x.cap, x.L.v]
  pre _ := []
  cond x := IsSrc 1 (ints x.xs) x.a x.n ∧ x.n * 8 ≤ 140737488351232 ∧ ∀ u ∈ x.xs, x.L.ok u
  rdc x F := Srcd F x.a (ints x.xs) ∧ x.L.rd F
  rel _ _ := True
  val x _ := .returned (.int .i64 (fixV x.L.g x.xs 0))
  post _ _ := []
  rmono x A B h hk := ⟨hk.1.sub h, x.L.mono A B h hk.2⟩
def ixInv {f : FuncId} {m : Nat} (x : IxX f m) (F : Atom) : Nat → Option Inv := fun
  | 0 => some { X := Nat, P := fun k => k ≤ x.n ∧ fixV x.L.g x.xs 0 = fixV x.L.g (x.xs.drop k) k, mu := fun k => x.n - k, lv := fun k => [(0, .slice x.a x.n x.cap), (1, x.L.v), (7, .int .i64 x.n), (8, .int .i64 k)], st := fun _ => [F] }
  | _ => none
def ixOv {f : FuncId} {m : Nat} (x : IxX f m) (_F : Atom) : List (Nat × Nat × OH) := [(4, 3, .qo (ixQ 1)), (4, 4, .q [.ex 0 (.int .i64)]), (4, 5, .c x.L.con [] [])]
def cfC (f : FuncId) (m : Nat) : Con where
  X := IxX f m
  Y := Unit
  args x := [.slice x.a x.n x.cap, x.L.v]
  pre _ := []
  cond x := IsSrc 1 (ints x.xs) x.a x.n ∧ x.n * 8 ≤ 140737488351232 ∧ ∀ u ∈ x.xs, x.L.ok u
  rdc x F := Srcd F x.a (ints x.xs) ∧ x.L.rd F
  rel _ _ := True
  val x _ := .returned (.bool (x.xs.any x.L.g))
  post _ _ := []
  rmono x A B h hk := ⟨hk.1.sub h, x.L.mono A B h hk.2⟩
def cfOv {f : FuncId} {m : Nat} (_x : IxX f m) (_F : Atom) : List (Nat × Nat × OH) := [(1, 2, .c (ixC f m) [] [])]
noncomputable def ixa_H (x : Con.X (ixC 63 1)) (F : Atom) : Hints where
  op := hk (((@ixOv 63 1) x F) ++ [])
  inv := (@ixInv 63 1) x F
  cut := (fun _ _ _ => none) x F
  ord := (fun _ => [])
open Go.Value (int slice string bool pointer agg tuple func) in
open Go.IntKind (i64) in
set_option maxRecDepth 100000 in
theorem ixa_vc (x : IxX (63 : FuncId) (1 : Nat)) (F : Atom) (hc : Con.cond (ixC 63 1) x) (hr : Con.rdc (ixC 63 1) x F) :
  (∃ (x_1 : Nat), (x_1 ≤ x.n ∧ fixV x.L.g x.xs 0 = fixV x.L.g (List.drop x_1 x.xs) x_1) ∧ (slice x.a x.n x.cap = slice x.a x.n x.cap ∧ func (Fn.func 63) { toList := [] } { toList := [pointer (some ⟨x.L.c1, 0, none⟩)] } = func (Fn.func 63) { toList := [] } { toList := [pointer (some ⟨x.L.c1, 0, none⟩)] } ∧ int i64 (↑x.n : Int) = int i64 (↑x.n : Int) ∧ int i64 (0 : Int) = int i64 (↑x_1 : Int) ∧ True) ∧ Ent [(0, F)] [(0, F)]) ∧
 ∀ (x_1 : Nat) (js : Nat → Value),
 x_1 ≤ x.n ∧ fixV x.L.g x.xs 0 = fixV x.L.g (List.drop x_1 x.xs) x_1 →
 Br (decide ((↑x_1 : Int) < (↑x.n : Int)))
 (QOpOk Try.prog (opIn Try.f102 4 3) (ixQ 1) ∧
 ∃ (x_2 : IxQX),
 [slice x.a x.n x.cap, int i64 (↑x_1 : Int)] = [slice (some ⟨x_2.b, x_2.o, none⟩) x_2.len x_2.cap, int i64 x_2.n] ∧
 ((0 : Int) ≤ x_2.n ∧ x_2.n < (↑x_2.len : Int)) ∧
 ∃ (n : Int),
 Look F ⟨x_2.b, x_2.o + x_2.n.toNat * 1, none⟩ (int i64 n) ∧
 FnOk Try.prog 63 x.L.con ∧
 true = true ∧
 ∃ (x_3 : Int),
 [int i64 n, pointer (some ⟨x.L.c1, 0, none⟩)] = [int i64 x_3, pointer (some ⟨x.L.c1, 0, none⟩)] ∧
 ([] : List Atom) = [] ∧ x.L.ok x_3 ∧ x.L.7 (Atom.pred (rest [(0, F)] [])) ∧ ∀ (y : Unit), True → Br (x.L.g x_3) (Done (ixC (63 : FuncId) 1) x F (Ending.returned (int i64 (↑x_1 : Int))) [(0, F)]) (((-9223372036854775808 : Int) ≤ (↑x_1 : Int) + (1 : Int) ∧ (↑x_1 : Int) + (1 : Int) ≤ (9223372036854775807 : Int)) ∧ ∃ (y : Nat), (y ≤ x.n ∧ fixV x.L.g x.xs 0 = fixV x.L.g (List.drop y x.xs) y) ∧ (slice x.a x.n x.cap = slice x.a x.n x.cap ∧ func (Fn.func 63) { toList := [] } { toList := [pointer (some ⟨x.L.c1, 0, none⟩)] } = func (Fn.func 63) { toList := [] } { toList := [pointer (some ⟨x.L.c1, 0, none⟩)] } ∧ int i64 (↑x.n : Int) = int i64 (↑x.n : Int) ∧ int i64 ((↑x_1 : Int) + (1 : Int)) = int i64 (↑y : Int) ∧ True) ∧ Ent [(0, F)] [(0, F)] ∧ x.n - y < x.n - x_1))
 (Done (ixC (63 : FuncId) 1) x F (Ending.returned (int i64 (-1 : Int))) [(0, F)]) := by
  obtain ⟨L, a, n, cap, xs⟩ := x
  obtain ⟨hsrc, hle, hok⟩ := hc
  obtain ⟨hr1, hr2⟩ := hr
  dsimp only at hsrc hle hok hr1 hr2
  have hlen : xs.length = n := by have := hsrc.len; rw [ints_length] at this; omega
  refine ⟨⟨0, ⟨Nat.zero_le _, rfl⟩, ⟨rfl, rfl, rfl, rfl, trivial⟩, Ent.pick [0] rfl rfl⟩, ?_⟩
  rintro k js ⟨h1, h2⟩
  dsimp only at h1 h2 ⊢
  refine br_decide (fun hlt => ?_) (fun hge => ?_)
  · obtain ⟨b1, o1, rfl⟩ := hsrc.some (by omega)
    obtain ⟨u, hu⟩ : ∃ u, xs[k]? = some u := ⟨_, List.getElem?_eq_getElem (by omega)⟩
    have e1 : o1 + (k : Int).toNat * 1 = o1 + k := by omega
    rw [drop_get hu, fixV] at h2
    refine ⟨ixq_ok 1 rfl rfl rfl rfl, ⟨b1, o1, n, cap, k⟩, rfl, by dsimp only; omega, u, by dsimp only; rw [e1]; exact hr1.look (ints_get hu), L.good, rfl, u, rfl, rfl, hok u (List.mem_of_getElem? hu), L.mono _ _ (sub_rest 0 (by simp) rfl) hr2, fun _ _ => br_intro (fun hg => ⟨(), trivial, retI ?_, Ent.pick [0] rfl rfl⟩) (fun hg => ⟨by omega, k + 1, ⟨by omega, ?_⟩, ⟨rfl, rfl, rfl, rfl, trivial⟩, Ent.pick [0] rfl rfl, by omega⟩)⟩
    · rw [h2, hg]; rfl
    · rw [h2, hg]; rfl
  · rw [List.drop_eq_nil_of_le (by omega)] at h2
    exact ⟨(), trivial, retI h2.symm, Ent.pick [0] rfl rfl⟩
set_option maxRecDepth 100000 in
theorem ixa_ok : FnOk Try.prog 102 (ixC 63 1) :=
  fnOk (N := 19) (by kernel_rfl) Try.func102 rfl (by kernel_rfl) (fun _ => Nat.le_of_ble_eq_true rfl) ixa_H [] fun x F hc hr => Eq.mpr (by kernel_rfl) (ixa_vc x F hc hr)
noncomputable def cfa_H (x : Con.X (cfC 63 1)) (F : Atom) : Hints where
  op := hk (((@cfOv 63 1) x F) ++ [])
  inv := (fun _ _ _ => none) x F
  cut := (fun _ _ _ => none) x F
  ord := (fun _ => [])
open Go.Value (int slice string bool pointer agg tuple func) in
open Go.IntKind (i64) in
set_option maxRecDepth 100000 in
theorem cfa_vc (x : IxX (63 : FuncId) (1 : Nat)) (F : Atom) (hc : Con.cond (cfC 63 1) x) (hr : Con.rdc (cfC 63 1) x F) :
  FnOk Try.prog 102 (ixC (63 : FuncId) 1) ∧ true = true ∧ ∃ (x_1 : IxX (63 : FuncId) 1), [slice x.a x.n x.cap, func (Fn.func 63) { toList := [] } { toList := [pointer (some ⟨x.L.c1, 0, none⟩)] }] = [slice x_1.a x_1.n x_1.cap, func (Fn.func 63) { toList := [] } { toList := [pointer (some ⟨x_1.L.c1, 0, none⟩)] }] ∧ ([] : List Atom) = [] ∧ (IsSrc 1 (ints x_1.xs) x_1.a x_1.n ∧ x_1.n * 8 ≤ 140737488351232 ∧ ∀ (u : Int), u ∈ x_1.xs → x_1.L.ok u) ∧ (Srcd (Atom.pred (rest [(0, F)] [])) x_1.a (ints x_1.xs) ∧ x_1.L.7 (Atom.pred (rest [(0, F)] []))) ∧ ∀ (y : Unit), True → Done (cfC (63 : FuncId) 1) x F (Ending.returned (bool (decide (fixV x_1.L.g x_1.xs 0 ≥ (0 : Int))))) [(0, F)] := by
  have s : Sub F (.pred (rest [(0, F)] [])) := sub_rest 0 (by simp) rfl
  exact ⟨ixa_ok, rfl, ⟨x.L, x.a, x.n, x.cap, x.xs⟩, rfl, rfl, hc, ⟨hr.1.sub s, x.L.mono _ _ s hr.2⟩, fun _ _ => ⟨(), trivial, retB (fixV_any _ _ 0), Ent.pick [0] rfl rfl⟩⟩
set_option maxRecDepth 100000 in
theorem cfa_ok : FnOk Try.prog 62 (cfC 63 1) :=
  fnOk (N := 9) (by kernel_rfl) Try.func62 rfl (by kernel_rfl) (fun _ => Nat.le_of_ble_eq_true rfl) cfa_H [] fun x F hc hr => Eq.mpr (by kernel_rfl) (cfa_vc x F hc hr)
noncomputable def ixb_H (x : Con.X (ixC 64 2)) (F : Atom) : Hints where
  op := hk (((@ixOv 64 2) x F) ++ [])
  inv := (@ixInv 64 2) x F
  cut := (fun _ _ _ => none) x F
  ord := (fun _ => [])
open Go.Value (int slice string bool pointer agg tuple func) in
open Go.IntKind (i64) in
set_option maxRecDepth 100000 in
theorem ixb_vc (x : IxX (64 : FuncId) (2 : Nat)) (F : Atom) (hc : Con.cond (ixC 64 2) x) (hr : Con.rdc (ixC 64 2) x F) :
  (∃ (x_1 : Nat), (x_1 ≤ x.n ∧ fixV x.L.g x.xs 0 = fixV x.L.g (List.drop x_1 x.xs) x_1) ∧ (slice x.a x.n x.cap = slice x.a x.n x.cap ∧ func (Fn.func 64) { toList := [] } { toList := [pointer (some ⟨x.L.c1, 0, none⟩), pointer (some ⟨x.L.c2, 0, none⟩)] } = func (Fn.func 64) { toList := [] } { toList := [pointer (some ⟨x.L.c1, 0, none⟩), pointer (some ⟨x.L.c2, 0, none⟩)] } ∧ int i64 (↑x.n : Int) = int i64 (↑x.n : Int) ∧ int i64 (0 : Int) = int i64 (↑x_1 : Int) ∧ True) ∧ Ent [(0, F)] [(0, F)]) ∧
 ∀ (x_1 : Nat) (js : Nat → Value),
 x_1 ≤ x.n ∧ fixV x.L.g x.xs 0 = fixV x.L.g (List.drop x_1 x.xs) x_1 →
 Br (decide ((↑x_1 : Int) < (↑x.n : Int)))
 (QOpOk Try.prog (opIn Try.f102 4 3) (ixQ 1) ∧
 ∃ (x_2 : IxQX),
 [slice x.a x.n x.cap, int i64 (↑x_1 : Int)] = [slice (some ⟨x_2.b, x_2.o, none⟩) x_2.len x_2.cap, int i64 x_2.n] ∧
 ((0 : Int) ≤ x_2.n ∧ x_2.n < (↑x_2.len : Int)) ∧
 ∃ (n : Int),
 Look F ⟨x_2.b, x_2.o + x_2.n.toNat * 1, none⟩ (int i64 n) ∧
 FnOk Try.prog 64 x.L.con ∧
 true = true ∧
 ∃ (x_3 : Int),
 [int i64 n, pointer (some ⟨x.L.c1, 0, none⟩), pointer (some ⟨x.L.c2, 0, none⟩)] = [int i64 x_3, pointer (some ⟨x.L.c1, 0, none⟩), pointer (some ⟨x.L.c2, 0, none⟩)] ∧
 ([] : List Atom) = [] ∧
 x.L.ok x_3 ∧
 x.L.7 (Atom.pred (rest [(0, F)] [])) ∧
 ∀ (y : Unit),
 True →
 Br (x.L.g x_3) (Done (ixC (64 : FuncId) 2) x F (Ending.returned (int i64 (↑x_1 : Int))) [(0, F)])
 (((-9223372036854775808 : Int) ≤ (↑x_1 : Int) + (1 : Int) ∧ (↑x_1 : Int) + (1 : Int) ≤ (9223372036854775807 : Int)) ∧ ∃ (y : Nat), (y ≤ x.n ∧ fixV x.L.g x.xs 0 = fixV x.L.g (List.drop y x.xs) y) ∧ (slice x.a x.n x.cap = slice x.a x.n x.cap ∧ func (Fn.func 64) { toList := [] } { toList := [pointer (some ⟨x.L.c1, 0, none⟩), pointer (some ⟨x.L.c2, 0, none⟩)] } = func (Fn.func 64) { toList := [] } { toList := [pointer (some ⟨x.L.c1, 0, none⟩), pointer (some ⟨x.L.c2, 0, none⟩)] } ∧ int i64 (↑x.n : Int) = int i64 (↑x.n : Int) ∧ int i64 ((↑x_1 : Int) + (1 : Int)) = int i64 (↑y : Int) ∧ True) ∧ Ent [(0, F)] [(0, F)] ∧ x.n - y < x.n - x_1))
 (Done (ixC (64 : FuncId) 2) x F (Ending.returned (int i64 (-1 : Int))) [(0, F)]) := by
  obtain ⟨L, a, n, cap, xs⟩ := x
  obtain ⟨hsrc, hle, hok⟩ := hc
  obtain ⟨hr1, hr2⟩ := hr
  dsimp only at hsrc hle hok hr1 hr2
  have hlen : xs.length = n := by have := hsrc.len; rw [ints_length] at this; omega
  refine ⟨⟨0, ⟨Nat.zero_le _, rfl⟩, ⟨rfl, rfl, rfl, rfl, trivial⟩, Ent.pick [0] rfl rfl⟩, ?_⟩
  rintro k js ⟨h1, h2⟩
  dsimp only at h1 h2 ⊢
  refine br_decide (fun hlt => ?_) (fun hge => ?_)
  · obtain ⟨b1, o1, rfl⟩ := hsrc.some (by omega)
    obtain ⟨u, hu⟩ : ∃ u, xs[k]? = some u := ⟨_, List.getElem?_eq_getElem (by omega)⟩
    have e1 : o1 + (k : Int).toNat * 1 = o1 + k := by omega
    rw [drop_get hu, fixV] at h2
    refine ⟨ixq_ok 1 rfl rfl rfl rfl, ⟨b1, o1, n, cap, k⟩, rfl, by dsimp only; omega, u, by dsimp only; rw [e1]; exact hr1.look (ints_get hu), L.good, rfl, u, rfl, rfl, hok u (List.mem_of_getElem? hu), L.mono _ _ (sub_rest 0 (by simp) rfl) hr2, fun _ _ => br_intro (fun hg => ⟨(), trivial, retI ?_, Ent.pick [0] rfl rfl⟩) (fun hg => ⟨by omega, k + 1, ⟨by omega, ?_⟩, ⟨rfl, rfl, rfl, rfl, trivial⟩, Ent.pick [0] rfl rfl, by omega⟩)⟩
    · rw [h2, hg]; rfl
    · rw [h2, hg]; rfl
  · rw [List.drop_eq_nil_of_le (by omega)] at h2
    exact ⟨(), trivial, retI h2.symm, Ent.pick [0] rfl rfl⟩
set_option maxRecDepth 100000 in
theorem ixb_ok : FnOk Try.prog 102 (ixC 64 2) :=
  fnOk (N := 19) (by kernel_rfl) Try.func102 rfl (by kernel_rfl) (fun _ => Nat.le_of_ble_eq_true rfl) ixb_H [] fun x F hc hr => Eq.mpr (by kernel_rfl) (ixb_vc x F hc hr)
noncomputable def cfb_H (x : Con.X (cfC 64 2)) (F : Atom) : Hints where
  op := hk (((@cfOv 64 2) x F) ++ [])
  inv := (fun _ _ _ => none) x F
  cut := (fun _ _ _ => none) x F
  ord := (fun _ => [])
open Go.Value (int slice string bool pointer agg tuple func) in
open Go.IntKind (i64) in
set_option maxRecDepth 100000 in
theorem cfb_vc (x : IxX (64 : FuncId) (2 : Nat)) (F : Atom) (hc : Con.cond (cfC 64 2) x) (hr : Con.rdc (cfC 64 2) x F) :
  FnOk Try.prog 102 (ixC (64 : FuncId) 2) ∧ true = true ∧ ∃ (x_1 : IxX (64 : FuncId) 2), [slice x.a x.n x.cap, func (Fn.func 64) { toList := [] } { toList := [pointer (some ⟨x.L.c1, 0, none⟩), pointer (some ⟨x.L.c2, 0, none⟩)] }] = [slice x_1.a x_1.n x_1.cap, func (Fn.func 64) { toList := [] } { toList := [pointer (some ⟨x_1.L.c1, 0, none⟩), pointer (some ⟨x_1.L.c2, 0, none⟩)] }] ∧ ([] : List Atom) = [] ∧ (IsSrc 1 (ints x_1.xs) x_1.a x_1.n ∧ x_1.n * 8 ≤ 140737488351232 ∧ ∀ (u : Int), u ∈ x_1.xs → x_1.L.ok u) ∧ (Srcd (Atom.pred (rest [(0, F)] [])) x_1.a (ints x_1.xs) ∧ x_1.L.7 (Atom.pred (rest [(0, F)] []))) ∧ ∀ (y : Unit), True → Done (cfC (64 : FuncId) 2) x F (Ending.returned (bool (decide (fixV x_1.L.g x_1.xs 0 ≥ (0 : Int))))) [(0, F)] := by
  have s : Sub F (.pred (rest [(0, F)] [])) := sub_rest 0 (by simp) rfl
  exact ⟨ixb_ok, rfl, ⟨x.L, x.a, x.n, x.cap, x.xs⟩, rfl, rfl, hc, ⟨hr.1.sub s, x.L.mono _ _ s hr.2⟩, fun _ _ => ⟨(), trivial, retB (fixV_any _ _ 0), Ent.pick [0] rfl rfl⟩⟩
set_option maxRecDepth 100000 in
theorem cfb_ok : FnOk Try.prog 62 (cfC 64 2) :=
  fnOk (N := 9) (by kernel_rfl) Try.func62 rfl (by kernel_rfl) (fun _ => Nat.le_of_ble_eq_true rfl) cfb_H [] fun x F hc hr => Eq.mpr (by kernel_rfl) (cfb_vc x F hc hr)
noncomputable def ixc_H (x : Con.X (ixC 65 2)) (F : Atom) : Hints where
  op := hk (((@ixOv 65 2) x F) ++ [])
  inv := (@ixInv 65 2) x F
  cut := (fun _ _ _ => none) x F
  ord := (fun _ => [])
open Go.Value (int slice string bool pointer agg tuple func) in
open Go.IntKind (i64) in
set_option maxRecDepth 100000 in
theorem ixc_vc (x : IxX (65 : FuncId) (2 : Nat)) (F : Atom) (hc : Con.cond (ixC 65 2) x) (hr : Con.rdc (ixC 65 2) x F) :
  (∃ (x_1 : Nat), (x_1 ≤ x.n ∧ fixV x.L.g x.xs 0 = fixV x.L.g (List.drop x_1 x.xs) x_1) ∧ (slice x.a x.n x.cap = slice x.a x.n x.cap ∧ func (Fn.func 65) { toList := [] } { toList := [pointer (some ⟨x.L.c1, 0, none⟩), pointer (some ⟨x.L.c2, 0, none⟩)] } = func (Fn.func 65) { toList := [] } { toList := [pointer (some ⟨x.L.c1, 0, none⟩), pointer (some ⟨x.L.c2, 0, none⟩)] } ∧ int i64 (↑x.n : Int) = int i64 (↑x.n : Int) ∧ int i64 (0 : Int) = int i64 (↑x_1 : Int) ∧ True) ∧ Ent [(0, F)] [(0, F)]) ∧
 ∀ (x_1 : Nat) (js : Nat → Value),
 x_1 ≤ x.n ∧ fixV x.L.g x.xs 0 = fixV x.L.g (List.drop x_1 x.xs) x_1 →
 Br (decide ((↑x_1 : Int) < (↑x.n : Int)))
 (QOpOk Try.prog (opIn Try.f102 4 3) (ixQ 1) ∧
 ∃ (x_2 : IxQX),
 [slice x.a x.n x.cap, int i64 (↑x_1 : Int)] = [slice (some ⟨x_2.b, x_2.o, none⟩) x_2.len x_2.cap, int i64 x_2.n] ∧
 ((0 : Int) ≤ x_2.n ∧ x_2.n < (↑x_2.len : Int)) ∧
 ∃ (n : Int),
 Look F ⟨x_2.b, x_2.o + x_2.n.toNat * 1, none⟩ (int i64 n) ∧
 FnOk Try.prog 65 x.L.con ∧
 true = true ∧
 ∃ (x_3 : Int),
 [int i64 n, pointer (some ⟨x.L.c1, 0, none⟩), pointer (some ⟨x.L.c2, 0, none⟩)] = [int i64 x_3, pointer (some ⟨x.L.c1, 0, none⟩), pointer (some ⟨x.L.c2, 0, none⟩)] ∧
 ([] : List Atom) = [] ∧
 x.L.ok x_3 ∧
 x.L.7 (Atom.pred (rest [(0, F)] [])) ∧
 ∀ (y : Unit),
 True →
 Br (x.L.g x_3) (Done (ixC (65 : FuncId) 2) x F (Ending.returned (int i64 (↑x_1 : Int))) [(0, F)])
 (((-9223372036854775808 : Int) ≤ (↑x_1 : Int) + (1 : Int) ∧ (↑x_1 : Int) + (1 : Int) ≤ (9223372036854775807 : Int)) ∧ ∃ (y : Nat), (y ≤ x.n ∧ fixV x.L.g x.xs 0 = fixV x.L.g (List.drop y x.xs) y) ∧ (slice x.a x.n x.cap = slice x.a x.n x.cap ∧ func (Fn.func 65) { toList := [] } { toList := [pointer (some ⟨x.L.c1, 0, none⟩), pointer (some ⟨x.L.c2, 0, none⟩)] } = func (Fn.func 65) { toList := [] } { toList := [pointer (some ⟨x.L.c1, 0, none⟩), pointer (some ⟨x.L.c2, 0, none⟩)] } ∧ int i64 (↑x.n : Int) = int i64 (↑x.n : Int) ∧ int i64 ((↑x_1 : Int) + (1 : Int)) = int i64 (↑y : Int) ∧ True) ∧ Ent [(0, F)] [(0, F)] ∧ x.n - y < x.n - x_1))
 (Done (ixC (65 : FuncId) 2) x F (Ending.returned (int i64 (-1 : Int))) [(0, F)]) := by
  obtain ⟨L, a, n, cap, xs⟩ := x
  obtain ⟨hsrc, hle, hok⟩ := hc
  obtain ⟨hr1, hr2⟩ := hr
  dsimp only at hsrc hle hok hr1 hr2
  have hlen : xs.length = n := by have := hsrc.len; rw [ints_length] at this; omega
  refine ⟨⟨0, ⟨Nat.zero_le _, rfl⟩, ⟨rfl, rfl, rfl, rfl, trivial⟩, Ent.pick [0] rfl rfl⟩, ?_⟩
  rintro k js ⟨h1, h2⟩
  dsimp only at h1 h2 ⊢
  refine br_decide (fun hlt => ?_) (fun hge => ?_)
  · obtain ⟨b1, o1, rfl⟩ := hsrc.some (by omega)
    obtain ⟨u, hu⟩ : ∃ u, xs[k]? = some u := ⟨_, List.getElem?_eq_getElem (by omega)⟩
    have e1 : o1 + (k : Int).toNat * 1 = o1 + k := by omega
    rw [drop_get hu, fixV] at h2
    refine ⟨ixq_ok 1 rfl rfl rfl rfl, ⟨b1, o1, n, cap, k⟩, rfl, by dsimp only; omega, u, by dsimp only; rw [e1]; exact hr1.look (ints_get hu), L.good, rfl, u, rfl, rfl, hok u (List.mem_of_getElem? hu), L.mono _ _ (sub_rest 0 (by simp) rfl) hr2, fun _ _ => br_intro (fun hg => ⟨(), trivial, retI ?_, Ent.pick [0] rfl rfl⟩) (fun hg => ⟨by omega, k + 1, ⟨by omega, ?_⟩, ⟨rfl, rfl, rfl, rfl, trivial⟩, Ent.pick [0] rfl rfl, by omega⟩)⟩
    · rw [h2, hg]; rfl
    · rw [h2, hg]; rfl
  · rw [List.drop_eq_nil_of_le (by omega)] at h2
    exact ⟨(), trivial, retI h2.symm, Ent.pick [0] rfl rfl⟩
set_option maxRecDepth 100000 in
theorem ixc_ok : FnOk Try.prog 102 (ixC 65 2) :=
  fnOk (N := 19) (by kernel_rfl) Try.func102 rfl (by kernel_rfl) (fun _ => Nat.le_of_ble_eq_true rfl) ixc_H [] fun x F hc hr => Eq.mpr (by kernel_rfl) (ixc_vc x F hc hr)
noncomputable def cfc_H (x : Con.X (cfC 65 2)) (F : Atom) : Hints where
  op := hk (((@cfOv 65 2) x F) ++ [])
  inv := (fun _ _ _ => none) x F
  cut := (fun _ _ _ => none) x F
  ord := (fun _ => [])
open Go.Value (int slice string bool pointer agg tuple func) in
open Go.IntKind (i64) in
set_option maxRecDepth 100000 in
theorem cfc_vc (x : IxX (65 : FuncId) (2 : Nat)) (F : Atom) (hc : Con.cond (cfC 65 2) x) (hr : Con.rdc (cfC 65 2) x F) :
  FnOk Try.prog 102 (ixC (65 : FuncId) 2) ∧ true = true ∧ ∃ (x_1 : IxX (65 : FuncId) 2), [slice x.a x.n x.cap, func (Fn.func 65) { toList := [] } { toList := [pointer (some ⟨x.L.c1, 0, none⟩), pointer (some ⟨x.L.c2, 0, none⟩)] }] = [slice x_1.a x_1.n x_1.cap, func (Fn.func 65) { toList := [] } { toList := [pointer (some ⟨x_1.L.c1, 0, none⟩), pointer (some ⟨x_1.L.c2, 0, none⟩)] }] ∧ ([] : List Atom) = [] ∧ (IsSrc 1 (ints x_1.xs) x_1.a x_1.n ∧ x_1.n * 8 ≤ 140737488351232 ∧ ∀ (u : Int), u ∈ x_1.xs → x_1.L.ok u) ∧ (Srcd (Atom.pred (rest [(0, F)] [])) x_1.a (ints x_1.xs) ∧ x_1.L.7 (Atom.pred (rest [(0, F)] []))) ∧ ∀ (y : Unit), True → Done (cfC (65 : FuncId) 2) x F (Ending.returned (bool (decide (fixV x_1.L.g x_1.xs 0 ≥ (0 : Int))))) [(0, F)] := by
  have s : Sub F (.pred (rest [(0, F)] [])) := sub_rest 0 (by simp) rfl
  exact ⟨ixc_ok, rfl, ⟨x.L, x.a, x.n, x.cap, x.xs⟩, rfl, rfl, hc, ⟨hr.1.sub s, x.L.mono _ _ s hr.2⟩, fun _ _ => ⟨(), trivial, retB (fixV_any _ _ 0), Ent.pick [0] rfl rfl⟩⟩
set_option maxRecDepth 100000 in
theorem cfc_ok : FnOk Try.prog 62 (cfC 65 2) :=
  fnOk (N := 9) (by kernel_rfl) Try.func62 rfl (by kernel_rfl) (fun _ => Nat.le_of_ble_eq_true rfl) cfc_H [] fun x F hc hr => Eq.mpr (by kernel_rfl) (cfc_vc x F hc hr)
noncomputable def ixd_H (x : Con.X (ixC 67 2)) (F : Atom) : Hints where
  op := hk (((@ixOv 67 2) x F) ++ [])
  inv := (@ixInv 67 2) x F
  cut := (fun _ _ _ => none) x F
  ord := (fun _ => [])
open Go.Value (int slice string bool pointer agg tuple func) in
open Go.IntKind (i64) in
set_option maxRecDepth 100000 in
theorem ixd_vc (x : IxX (67 : FuncId) (2 : Nat)) (F : Atom) (hc : Con.cond (ixC 67 2) x) (hr : Con.rdc (ixC 67 2) x F) :
  (∃ (x_1 : Nat), (x_1 ≤ x.n ∧ fixV x.L.g x.xs 0 = fixV x.L.g (List.drop x_1 x.xs) x_1) ∧ (slice x.a x.n x.cap = slice x.a x.n x.cap ∧ func (Fn.func 67) { toList := [] } { toList := [pointer (some ⟨x.L.c1, 0, none⟩), pointer (some ⟨x.L.c2, 0, none⟩)] } = func (Fn.func 67) { toList := [] } { toList := [pointer (some ⟨x.L.c1, 0, none⟩), pointer (some ⟨x.L.c2, 0, none⟩)] } ∧ int i64 (↑x.n : Int) = int i64 (↑x.n : Int) ∧ int i64 (0 : Int) = int i64 (↑x_1 : Int) ∧ True) ∧ Ent [(0, F)] [(0, F)]) ∧
 ∀ (x_1 : Nat) (js : Nat → Value),
 x_1 ≤ x.n ∧ fixV x.L.g x.xs 0 = fixV x.L.g (List.drop x_1 x.xs) x_1 →
 Br (decide ((↑x_1 : Int) < (↑x.n : Int)))
 (QOpOk Try.prog (opIn Try.f102 4 3) (ixQ 1) ∧
 ∃ (x_2 : IxQX),
 [slice x.a x.n x.cap, int i64 (↑x_1 : Int)] = [slice (some ⟨x_2.b, x_2.o, none⟩) x_2.len x_2.cap, int i64 x_2.n] ∧
 ((0 : Int) ≤ x_2.n ∧ x_2.n < (↑x_2.len : Int)) ∧
 ∃ (n : Int),
 Look F ⟨x_2.b, x_2.o + x_2.n.toNat * 1, none⟩ (int i64 n) ∧
 FnOk Try.prog 67 x.L.con ∧
 true = true ∧
 ∃ (x_3 : Int),
 [int i64 n, pointer (some ⟨x.L.c1, 0, none⟩), pointer (some ⟨x.L.c2, 0, none⟩)] = [int i64 x_3, pointer (some ⟨x.L.c1, 0, none⟩), pointer (some ⟨x.L.c2, 0, none⟩)] ∧
 ([] : List Atom) = [] ∧
 x.L.ok x_3 ∧
 x.L.7 (Atom.pred (rest [(0, F)] [])) ∧
 ∀ (y : Unit),
 True →
 Br (x.L.g x_3) (Done (ixC (67 : FuncId) 2) x F (Ending.returned (int i64 (↑x_1 : Int))) [(0, F)])
 (((-9223372036854775808 : Int) ≤ (↑x_1 : Int) + (1 : Int) ∧ (↑x_1 : Int) + (1 : Int) ≤ (9223372036854775807 : Int)) ∧ ∃ (y : Nat), (y ≤ x.n ∧ fixV x.L.g x.xs 0 = fixV x.L.g (List.drop y x.xs) y) ∧ (slice x.a x.n x.cap = slice x.a x.n x.cap ∧ func (Fn.func 67) { toList := [] } { toList := [pointer (some ⟨x.L.c1, 0, none⟩), pointer (some ⟨x.L.c2, 0, none⟩)] } = func (Fn.func 67) { toList := [] } { toList := [pointer (some ⟨x.L.c1, 0, none⟩), pointer (some ⟨x.L.c2, 0, none⟩)] } ∧ int i64 (↑x.n : Int) = int i64 (↑x.n : Int) ∧ int i64 ((↑x_1 : Int) + (1 : Int)) = int i64 (↑y : Int) ∧ True) ∧ Ent [(0, F)] [(0, F)] ∧ x.n - y < x.n - x_1))
 (Done (ixC (67 : FuncId) 2) x F (Ending.returned (int i64 (-1 : Int))) [(0, F)]) := by
  obtain ⟨L, a, n, cap, xs⟩ := x
  obtain ⟨hsrc, hle, hok⟩ := hc
  obtain ⟨hr1, hr2⟩ := hr
  dsimp only at hsrc hle hok hr1 hr2
  have hlen : xs.length = n := by have := hsrc.len; rw [ints_length] at this; omega
  refine ⟨⟨0, ⟨Nat.zero_le _, rfl⟩, ⟨rfl, rfl, rfl, rfl, trivial⟩, Ent.pick [0] rfl rfl⟩, ?_⟩
  rintro k js ⟨h1, h2⟩
  dsimp only at h1 h2 ⊢
  refine br_decide (fun hlt => ?_) (fun hge => ?_)
  · obtain ⟨b1, o1, rfl⟩ := hsrc.some (by omega)
    obtain ⟨u, hu⟩ : ∃ u, xs[k]? = some u := ⟨_, List.getElem?_eq_getElem (by omega)⟩
    have e1 : o1 + (k : Int).toNat * 1 = o1 + k := by omega
    rw [drop_get hu, fixV] at h2
    refine ⟨ixq_ok 1 rfl rfl rfl rfl, ⟨b1, o1, n, cap, k⟩, rfl, by dsimp only; omega, u, by dsimp only; rw [e1]; exact hr1.look (ints_get hu), L.good, rfl, u, rfl, rfl, hok u (List.mem_of_getElem? hu), L.mono _ _ (sub_rest 0 (by simp) rfl) hr2, fun _ _ => br_intro (fun hg => ⟨(), trivial, retI ?_, Ent.pick [0] rfl rfl⟩) (fun hg => ⟨by omega, k + 1, ⟨by omega, ?_⟩, ⟨rfl, rfl, rfl, rfl, trivial⟩, Ent.pick [0] rfl rfl, by omega⟩)⟩
    · rw [h2, hg]; rfl
    · rw [h2, hg]; rfl
  · rw [List.drop_eq_nil_of_le (by omega)] at h2
    exact ⟨(), trivial, retI h2.symm, Ent.pick [0] rfl rfl⟩
set_option maxRecDepth 100000 in
theorem ixd_ok : FnOk Try.prog 102 (ixC 67 2) :=
  fnOk (N := 19) (by kernel_rfl) Try.func102 rfl (by kernel_rfl) (fun _ => Nat.le_of_ble_eq_true rfl) ixd_H [] fun x F hc hr => Eq.mpr (by kernel_rfl) (ixd_vc x F hc hr)
noncomputable def cfd_H (x : Con.X (cfC 67 2)) (F : Atom) : Hints where
  op := hk (((@cfOv 67 2) x F) ++ [])
  inv := (fun _ _ _ => none) x F
  cut := (fun _ _ _ => none) x F
  ord := (fun _ => [])
open Go.Value (int slice string bool pointer agg tuple func) in
open Go.IntKind (i64) in
set_option maxRecDepth 100000 in
theorem cfd_vc (x : IxX (67 : FuncId) (2 : Nat)) (F : Atom) (hc : Con.cond (cfC 67 2) x) (hr : Con.rdc (cfC 67 2) x F) :
  FnOk Try.prog 102 (ixC (67 : FuncId) 2) ∧ true = true ∧ ∃ (x_1 : IxX (67 : FuncId) 2), [slice x.a x.n x.cap, func (Fn.func 67) { toList := [] } { toList := [pointer (some ⟨x.L.c1, 0, none⟩), pointer (some ⟨x.L.c2, 0, none⟩)] }] = [slice x_1.a x_1.n x_1.cap, func (Fn.func 67) { toList := [] } { toList := [pointer (some ⟨x_1.L.c1, 0, none⟩), pointer (some ⟨x_1.L.c2, 0, none⟩)] }] ∧ ([] : List Atom) = [] ∧ (IsSrc 1 (ints x_1.xs) x_1.a x_1.n ∧ x_1.n * 8 ≤ 140737488351232 ∧ ∀ (u : Int), u ∈ x_1.xs → x_1.L.ok u) ∧ (Srcd (Atom.pred (rest [(0, F)] [])) x_1.a (ints x_1.xs) ∧ x_1.L.7 (Atom.pred (rest [(0, F)] []))) ∧ ∀ (y : Unit), True → Done (cfC (67 : FuncId) 2) x F (Ending.returned (bool (decide (fixV x_1.L.g x_1.xs 0 ≥ (0 : Int))))) [(0, F)] := by
  have s : Sub F (.pred (rest [(0, F)] [])) := sub_rest 0 (by simp) rfl
  exact ⟨ixd_ok, rfl, ⟨x.L, x.a, x.n, x.cap, x.xs⟩, rfl, rfl, hc, ⟨hr.1.sub s, x.L.mono _ _ s hr.2⟩, fun _ _ => ⟨(), trivial, retB (fixV_any _ _ 0), Ent.pick [0] rfl rfl⟩⟩
set_option maxRecDepth 100000 in
theorem cfd_ok : FnOk Try.prog 62 (cfC 67 2) :=
  fnOk (N := 9) (by kernel_rfl) Try.func62 rfl (by kernel_rfl) (fun _ => Nat.le_of_ble_eq_true rfl) cfd_H [] fun x F hc hr => Eq.mpr (by kernel_rfl) (cfd_vc x F hc hr)
noncomputable def ixe_H (x : Con.X (ixC 120 4)) (F : Atom) : Hints where
  op := hk (((@ixOv 120 4) x F) ++ [])
  inv := (@ixInv 120 4) x F
  cut := (fun _ _ _ => none) x F
  ord := (fun _ => [])
open Go.Value (int slice string bool pointer agg tuple func) in
open Go.IntKind (i64) in
set_option maxRecDepth 100000 in
theorem ixe_vc (x : IxX (120 : FuncId) (4 : Nat)) (F : Atom) (hc : Con.cond (ixC 120 4) x) (hr : Con.rdc (ixC 120 4) x F) :
  (∃ (x_1 : Nat), (x_1 ≤ x.n ∧ fixV x.L.g x.xs 0 = fixV x.L.g (List.drop x_1 x.xs) x_1) ∧ (slice x.a x.n x.cap = slice x.a x.n x.cap ∧ func (Fn.func 120) { toList := [] } { toList := [pointer (some ⟨x.L.c1, 0, none⟩), pointer (some ⟨x.L.c2, 0, none⟩), pointer (some ⟨x.L.c3, 0, none⟩), pointer (some ⟨x.L.c4, 0, none⟩)] } = func (Fn.func 120) { toList := [] } { toList := [pointer (some ⟨x.L.c1, 0, none⟩), pointer (some ⟨x.L.c2, 0, none⟩), pointer (some ⟨x.L.c3, 0, none⟩), pointer (some ⟨x.L.c4, 0, none⟩)] } ∧ int i64 (↑x.n : Int) = int i64 (↑x.n : Int) ∧ int i64 (0 : Int) = int i64 (↑x_1 : Int) ∧ True) ∧ Ent [(0, F)] [(0, F)]) ∧
 ∀ (x_1 : Nat) (js : Nat → Value),
 x_1 ≤ x.n ∧ fixV x.L.g x.xs 0 = fixV x.L.g (List.drop x_1 x.xs) x_1 →
 Br (decide ((↑x_1 : Int) < (↑x.n : Int)))
 (QOpOk Try.prog (opIn Try.f102 4 3) (ixQ 1) ∧
 ∃ (x_2 : IxQX),
 [slice x.a x.n x.cap, int i64 (↑x_1 : Int)] = [slice (some ⟨x_2.b, x_2.o, none⟩) x_2.len x_2.cap, int i64 x_2.n] ∧
 ((0 : Int) ≤ x_2.n ∧ x_2.n < (↑x_2.len : Int)) ∧
 ∃ (n : Int),
 Look F ⟨x_2.b, x_2.o + x_2.n.toNat * 1, none⟩ (int i64 n) ∧
 FnOk Try.prog 120 x.L.con ∧
 true = true ∧
 ∃ (x_3 : Int),
 [int i64 n, pointer (some ⟨x.L.c1, 0, none⟩), pointer (some ⟨x.L.c2, 0, none⟩), pointer (some ⟨x.L.c3, 0, none⟩), pointer (some ⟨x.L.c4, 0, none⟩)] = [int i64 x_3, pointer (some ⟨x.L.c1, 0, none⟩), pointer (some ⟨x.L.c2, 0, none⟩), pointer (some ⟨x.L.c3, 0, none⟩), pointer (some ⟨x.L.c4, 0, none⟩)] ∧
 ([] : List Atom) = [] ∧
 x.L.ok x_3 ∧
 x.L.7 (Atom.pred (rest [(0, F)] [])) ∧
 ∀ (y : Unit),
 True →
 Br (x.L.g x_3) (Done (ixC (120 : FuncId) 4) x F (Ending.returned (int i64 (↑x_1 : Int))) [(0, F)])
 (((-9223372036854775808 : Int) ≤ (↑x_1 : Int) + (1 : Int) ∧ (↑x_1 : Int) + (1 : Int) ≤ (9223372036854775807 : Int)) ∧
 ∃ (y : Nat),
 (y ≤ x.n ∧ fixV x.L.g x.xs 0 = fixV x.L.g (List.drop y x.xs) y) ∧
 (slice x.a x.n x.cap = slice x.a x.n x.cap ∧ func (Fn.func 120) { toList := [] } { toList := [pointer (some ⟨x.L.c1, 0, none⟩), pointer (some ⟨x.L.c2, 0, none⟩), pointer (some ⟨x.L.c3, 0, none⟩), pointer (some ⟨x.L.c4, 0, none⟩)] } = func (Fn.func 120) { toList := [] } { toList := [pointer (some ⟨x.L.c1, 0, none⟩), pointer (some ⟨x.L.c2, 0, none⟩), pointer (some ⟨x.L.c3, 0, none⟩), pointer (some ⟨x.L.c4, 0, none⟩)] } ∧ int i64 (↑x.n : Int) = int i64 (↑x.n : Int) ∧ int i64 ((↑x_1 : Int) + (1 : Int)) = int i64 (↑y : Int) ∧ True) ∧ Ent [(0, F)] [(0, F)] ∧ x.n - y < x.n - x_1))
 (Done (ixC (120 : FuncId) 4) x F (Ending.returned (int i64 (-1 : Int))) [(0, F)]) := by
  obtain ⟨L, a, n, cap, xs⟩ := x
  obtain ⟨hsrc, hle, hok⟩ := hc
  obtain ⟨hr1, hr2⟩ := hr
  dsimp only at hsrc hle hok hr1 hr2
  have hlen : xs.length = n := by have := hsrc.len; rw [ints_length] at this; omega
  refine ⟨⟨0, ⟨Nat.zero_le _, rfl⟩, ⟨rfl, rfl, rfl, rfl, trivial⟩, Ent.pick [0] rfl rfl⟩, ?_⟩
  rintro k js ⟨h1, h2⟩
  dsimp only at h1 h2 ⊢
  refine br_decide (fun hlt => ?_) (fun hge => ?_)
  · obtain ⟨b1, o1, rfl⟩ := hsrc.some (by omega)
    obtain ⟨u, hu⟩ : ∃ u, xs[k]? = some u := ⟨_, List.getElem?_eq_getElem (by omega)⟩
    have e1 : o1 + (k : Int).toNat * 1 = o1 + k := by omega
    rw [drop_get hu, fixV] at h2
    refine ⟨ixq_ok 1 rfl rfl rfl rfl, ⟨b1, o1, n, cap, k⟩, rfl, by dsimp only; omega, u, by dsimp only; rw [e1]; exact hr1.look (ints_get hu), L.good, rfl, u, rfl, rfl, hok u (List.mem_of_getElem? hu), L.mono _ _ (sub_rest 0 (by simp) rfl) hr2, fun _ _ => br_intro (fun hg => ⟨(), trivial, retI ?_, Ent.pick [0] rfl rfl⟩) (fun hg => ⟨by omega, k + 1, ⟨by omega, ?_⟩, ⟨rfl, rfl, rfl, rfl, trivial⟩, Ent.pick [0] rfl rfl, by omega⟩)⟩
    · rw [h2, hg]; rfl
    · rw [h2, hg]; rfl
  · rw [List.drop_eq_nil_of_le (by omega)] at h2
    exact ⟨(), trivial, retI h2.symm, Ent.pick [0] rfl rfl⟩
set_option maxRecDepth 100000 in
theorem ixe_ok : FnOk Try.prog 102 (ixC 120 4) :=
  fnOk (N := 19) (by kernel_rfl) Try.func102 rfl (by kernel_rfl) (fun _ => Nat.le_of_ble_eq_true rfl) ixe_H [] fun x F hc hr => Eq.mpr (by kernel_rfl) (ixe_vc x F hc hr)
noncomputable def cfe_H (x : Con.X (cfC 120 4)) (F : Atom) : Hints where
  op := hk (((@cfOv 120 4) x F) ++ [])
  inv := (fun _ _ _ => none) x F
  cut := (fun _ _ _ => none) x F
  ord := (fun _ => [])
open Go.Value (int slice string bool pointer agg tuple func) in
open Go.IntKind (i64) in
set_option maxRecDepth 100000 in
theorem cfe_vc (x : IxX (120 : FuncId) (4 : Nat)) (F : Atom) (hc : Con.cond (cfC 120 4) x) (hr : Con.rdc (cfC 120 4) x F) :
  FnOk Try.prog 102 (ixC (120 : FuncId) 4) ∧
 true = true ∧
 ∃ (x_1 : IxX (120 : FuncId) 4),
 [slice x.a x.n x.cap, func (Fn.func 120) { toList := [] } { toList := [pointer (some ⟨x.L.c1, 0, none⟩), pointer (some ⟨x.L.c2, 0, none⟩), pointer (some ⟨x.L.c3, 0, none⟩), pointer (some ⟨x.L.c4, 0, none⟩)] }] = [slice x_1.a x_1.n x_1.cap, func (Fn.func 120) { toList := [] } { toList := [pointer (some ⟨x_1.L.c1, 0, none⟩), pointer (some ⟨x_1.L.c2, 0, none⟩), pointer (some ⟨x_1.L.c3, 0, none⟩), pointer (some ⟨x_1.L.c4, 0, none⟩)] }] ∧
 ([] : List Atom) = [] ∧ (IsSrc 1 (ints x_1.xs) x_1.a x_1.n ∧ x_1.n * 8 ≤ 140737488351232 ∧ ∀ (u : Int), u ∈ x_1.xs → x_1.L.ok u) ∧ (Srcd (Atom.pred (rest [(0, F)] [])) x_1.a (ints x_1.xs) ∧ x_1.L.7 (Atom.pred (rest [(0, F)] []))) ∧ ∀ (y : Unit), True → Done (cfC (120 : FuncId) 4) x F (Ending.returned (bool (decide (fixV x_1.L.g x_1.xs 0 ≥ (0 : Int))))) [(0, F)] := by
  have s : Sub F (.pred (rest [(0, F)] [])) := sub_rest 0 (by simp) rfl
  exact ⟨ixe_ok, rfl, ⟨x.L, x.a, x.n, x.cap, x.xs⟩, rfl, rfl, hc, ⟨hr.1.sub s, x.L.mono _ _ s hr.2⟩, fun _ _ => ⟨(), trivial, retB (fixV_any _ _ 0), Ent.pick [0] rfl rfl⟩⟩
set_option maxRecDepth 100000 in
theorem cfe_ok : FnOk Try.prog 62 (cfC 120 4) :=
  fnOk (N := 9) (by kernel_rfl) Try.func62 rfl (by kernel_rfl) (fun _ => Nat.le_of_ble_eq_true rfl) cfe_H [] fun x F hc hr => Eq.mpr (by kernel_rfl) (cfe_vc x F hc hr)
structure InX where
  a : Option Addr
  n : Nat
  cap : Nat
  xs : List Int
  v : Int
def idC : Con where
  X := InX
  Y := Unit
  args x := [.slice x.a x.n x.cap, .int .i64 x.v]
  pre _ := []
  cond x := IsSrc 1 (ints x.xs) x.a x.n ∧ x.n * 8 ≤ 140737488351232
  rdc x F := Srcd F x.a (ints x.xs)
  rel _ _ := True
  val x _ := .returned (.int .i64 (fixV (fun u => x.v == u) x.xs 0))
  post _ _ := []
  rmono _ _ _ h hk := hk.sub h
def idInv (x : InX) (F : Atom) : Nat → Option Inv := fun
  | 0 => some { X := Nat, P := fun k => k ≤ x.n ∧ fixV (fun u => x.v == u) x.xs 0 = fixV (fun u => x.v == u) (x.xs.drop k) k, mu := fun k => x.n - k, lv := fun k => [(0, .slice x.a x.n x.cap), (1, .int .i64 x.v), (7, .int .i64 x.n), (8, .int .i64 k)], st := fun _ => [F] }
  | _ => none
def idOv (_x : InX) (_F : Atom) : List (Nat × Nat × OH) := [(4, 3, .qo (ixQ 1)), (4, 4, .q [.ex 0 (.int .i64)])]
noncomputable def id_H (x : Con.X idC) (F : Atom) : Hints where
  op := hk ((idOv x F) ++ [])
  inv := idInv x F
  cut := (fun _ _ _ => none) x F
  ord := (fun _ => [])
open Go.Value (int slice string bool pointer agg tuple func) in
open Go.IntKind (i64) in
set_option maxRecDepth 100000 in
theorem id_vc (x : InX) (F : Atom) (hc : Con.cond idC x) (hr : Con.rdc idC x F) :
  (∃ (x_1 : Nat), (x_1 ≤ x.n ∧ fixV (fun (u : Int) => x.v == u) x.xs 0 = fixV (fun (u : Int) => x.v == u) (List.drop x_1 x.xs) x_1) ∧ (slice x.a x.n x.cap = slice x.a x.n x.cap ∧ int i64 x.v = int i64 x.v ∧ int i64 (↑x.n : Int) = int i64 (↑x.n : Int) ∧ int i64 (0 : Int) = int i64 (↑x_1 : Int) ∧ True) ∧ Ent [(0, F)] [(0, F)]) ∧
 ∀ (x_1 : Nat) (js : Nat → Value),
 x_1 ≤ x.n ∧ fixV (fun (u : Int) => x.v == u) x.xs 0 = fixV (fun (u : Int) => x.v == u) (List.drop x_1 x.xs) x_1 →
 Br (decide ((↑x_1 : Int) < (↑x.n : Int)))
 (QOpOk Try.prog (opIn Try.f103 4 3) (ixQ 1) ∧
 ∃ (x_2 : IxQX),
 [slice x.a x.n x.cap, int i64 (↑x_1 : Int)] = [slice (some ⟨x_2.b, x_2.o, none⟩) x_2.len x_2.cap, int i64 x_2.n] ∧
 ((0 : Int) ≤ x_2.n ∧ x_2.n < (↑x_2.len : Int)) ∧ ∃ (n : Int), Look F ⟨x_2.b, x_2.o + x_2.n.toNat * 1, none⟩ (int i64 n) ∧ Br (x.v == n) (Done idC x F (Ending.returned (int i64 (↑x_1 : Int))) [(0, F)]) (((-9223372036854775808 : Int) ≤ (↑x_1 : Int) + (1 : Int) ∧ (↑x_1 : Int) + (1 : Int) ≤ (9223372036854775807 : Int)) ∧ ∃ (y : Nat), (y ≤ x.n ∧ fixV (fun (u : Int) => x.v == u) x.xs 0 = fixV (fun (u : Int) => x.v == u) (List.drop y x.xs) y) ∧ (slice x.a x.n x.cap = slice x.a x.n x.cap ∧ int i64 x.v = int i64 x.v ∧ int i64 (↑x.n : Int) = int i64 (↑x.n : Int) ∧ int i64 ((↑x_1 : Int) + (1 : Int)) = int i64 (↑y : Int) ∧ True) ∧ Ent [(0, F)] [(0, F)] ∧ x.n - y < x.n - x_1))
 (Done idC x F (Ending.returned (int i64 (-1 : Int))) [(0, F)]) := by
  obtain ⟨a, n, cap, xs, v⟩ := x
  obtain ⟨hsrc, hle⟩ := hc
  dsimp only at hsrc hle
  replace hr : Srcd F a (ints xs) := hr
  have hlen : xs.length = n := by have := hsrc.len; rw [ints_length] at this; omega
  refine ⟨⟨0, ⟨Nat.zero_le _, rfl⟩, ⟨rfl, rfl, rfl, rfl, trivial⟩, Ent.pick [0] rfl rfl⟩, ?_⟩
  rintro k js ⟨h1, h2⟩
  dsimp only at h1 h2 ⊢
  refine br_decide (fun hlt => ?_) (fun hge => ?_)
  · obtain ⟨b1, o1, rfl⟩ := hsrc.some (by omega)
    obtain ⟨u, hu⟩ : ∃ u, xs[k]? = some u := ⟨_, List.getElem?_eq_getElem (by omega)⟩
    have e1 : o1 + (k : Int).toNat * 1 = o1 + k := by omega
    rw [drop_get hu, fixV] at h2
    refine ⟨ixq_ok 1 rfl rfl rfl rfl, ⟨b1, o1, n, cap, k⟩, rfl, by dsimp only; omega, u, by dsimp only; rw [e1]; exact hr.look (ints_get hu), br_intro (fun hg => ⟨(), trivial, retI ?_, Ent.pick [0] rfl rfl⟩) (fun hg => ⟨by omega, k + 1, ⟨by omega, ?_⟩, ⟨rfl, rfl, rfl, rfl, trivial⟩, Ent.pick [0] rfl rfl, by omega⟩)⟩
    · dsimp only; rw [h2, hg]; rfl
    · rw [h2, hg]; rfl
  · rw [List.drop_eq_nil_of_le (by omega)] at h2
    exact ⟨(), trivial, retI h2.symm, Ent.pick [0] rfl rfl⟩
set_option maxRecDepth 100000 in
theorem id_ok : FnOk Try.prog 103 idC :=
  fnOk (N := 19) (by kernel_rfl) Try.func103 rfl (by kernel_rfl) (fun _ => Nat.le_of_ble_eq_true rfl) id_H [] fun x F hc hr => Eq.mpr (by kernel_rfl) (id_vc x F hc hr)
def memB (xs : List Int) (v : Int) : Bool := xs.any fun u => v == u
def coC' : Con where
  X := InX
  Y := Unit
  args x := [.slice x.a x.n x.cap, .int .i64 x.v]
  pre _ := []
  cond x := IsSrc 1 (ints x.xs) x.a x.n ∧ x.n * 8 ≤ 140737488351232
  rdc x F := Srcd F x.a (ints x.xs)
  rel _ _ := True
  val x _ := .returned (.bool (memB x.xs x.v))
  post _ _ := []
  rmono _ _ _ h hk := hk.sub h
def conOv (_x : InX) (_F : Atom) : List (Nat × Nat × OH) := [(1, 2, .c idC [] [])]
noncomputable def con_H (x : Con.X coC') (F : Atom) : Hints where
  op := hk ((conOv x F) ++ [])
  inv := (fun _ _ _ => none) x F
  cut := (fun _ _ _ => none) x F
  ord := (fun _ => [])
open Go.Value (int slice string bool pointer agg tuple func) in
open Go.IntKind (i64) in
set_option maxRecDepth 100000 in
theorem con_vc (x : InX) (F : Atom) (hc : Con.cond coC' x) (hr : Con.rdc coC' x F) :
  FnOk Try.prog 103 idC ∧ true = true ∧ ∃ (x_1 : InX), [slice x.a x.n x.cap, int i64 x.v] = [slice x_1.a x_1.n x_1.cap, int i64 x_1.v] ∧ ([] : List Atom) = [] ∧ (IsSrc 1 (ints x_1.xs) x_1.a x_1.n ∧ x_1.n * 8 ≤ 140737488351232) ∧ Srcd (Atom.pred (rest [(0, F)] [])) x_1.a (ints x_1.xs) ∧ ∀ (y : Unit), True → Done coC' x F (Ending.returned (bool (decide (fixV (fun (u : Int) => x_1.v == u) x_1.xs 0 ≥ (0 : Int))))) [(0, F)] := by
  have s : Sub F (.pred (rest [(0, F)] [])) := sub_rest 0 (by simp) rfl
  exact ⟨id_ok, rfl, ⟨x.a, x.n, x.cap, x.xs, x.v⟩, rfl, rfl, hc, Srcd.sub s hr, fun _ _ => ⟨(), trivial, retB (fixV_any _ _ 0), Ent.pick [0] rfl rfl⟩⟩
set_option maxRecDepth 100000 in
theorem con_ok : FnOk Try.prog 66 coC' :=
  fnOk (N := 9) (by kernel_rfl) Try.func66 rfl (by kernel_rfl) (fun _ => Nat.le_of_ble_eq_true rfl) con_H [] fun x F hc hr => Eq.mpr (by kernel_rfl) (con_vc x F hc hr)
def amC : Con where
  X := InX
  Y := Unit
  args x := [.int .i64 x.v, .slice x.a x.n x.cap]
  pre _ := []
  cond x := IsSrc 1 (ints x.xs) x.a x.n ∧ x.n * 8 ≤ 140737488351232
  rdc x F := Srcd F x.a (ints x.xs)
  rel _ _ := True
  val x _ := .returned (.bool (memB x.xs x.v))
  post _ _ := []
  rmono _ _ _ h hk := hk.sub h
def amInv (x : InX) (F : Atom) : Nat → Option Inv := fun
  | 0 => some { X := Nat, P := fun k => k ≤ x.n ∧ memB x.xs x.v = memB (x.xs.drop k) x.v, mu := fun k => x.n - k, lv := fun k => [(0, .int .i64 x.v), (1, .slice x.a x.n x.cap), (5, .int .i64 k)], st := fun _ => [F] }
  | _ => none
def amOv (_x : InX) (_F : Atom) : List (Nat × Nat × OH) := [(4, 2, .qo (ixQ 1)), (4, 3, .q [.ex 0 (.int .i64)])]
noncomputable def am_H (x : Con.X amC) (F : Atom) : Hints where
  op := hk ((amOv x F) ++ [])
  inv := amInv x F
  cut := (fun _ _ _ => none) x F
  ord := (fun _ => [])
open Go.Value (int slice string bool pointer agg tuple func) in
open Go.IntKind (i64) in
set_option maxRecDepth 100000 in
theorem am_vc (x : InX) (F : Atom) (hc : Con.cond amC x) (hr : Con.rdc amC x F) :
  (∃ (x_1 : Nat), (x_1 ≤ x.n ∧ memB x.xs x.v = memB (List.drop x_1 x.xs) x.v) ∧ (int i64 x.v = int i64 x.v ∧ slice x.a x.n x.cap = slice x.a x.n x.cap ∧ int i64 (0 : Int) = int i64 (↑x_1 : Int) ∧ True) ∧ Ent [(0, F)] [(0, F)]) ∧
 ∀ (x_1 : Nat) (js : Nat → Value),
 x_1 ≤ x.n ∧ memB x.xs x.v = memB (List.drop x_1 x.xs) x.v →
 Br (decide ((↑x_1 : Int) < (↑x.n : Int))) (QOpOk Try.prog (opIn Try.f35 4 2) (ixQ 1) ∧ ∃ (x_2 : IxQX), [slice x.a x.n x.cap, int i64 (↑x_1 : Int)] = [slice (some ⟨x_2.b, x_2.o, none⟩) x_2.len x_2.cap, int i64 x_2.n] ∧ ((0 : Int) ≤ x_2.n ∧ x_2.n < (↑x_2.len : Int)) ∧ ∃ (n : Int), Look F ⟨x_2.b, x_2.o + x_2.n.toNat * 1, none⟩ (int i64 n) ∧ Br (n == x.v) (Done amC x F (Ending.returned (bool true)) [(0, F)]) (((-9223372036854775808 : Int) ≤ (↑x_1 : Int) + (1 : Int) ∧ (↑x_1 : Int) + (1 : Int) ≤ (9223372036854775807 : Int)) ∧ ∃ (y : Nat), (y ≤ x.n ∧ memB x.xs x.v = memB (List.drop y x.xs) x.v) ∧ (int i64 x.v = int i64 x.v ∧ slice x.a x.n x.cap = slice x.a x.n x.cap ∧ int i64 ((↑x_1 : Int) + (1 : Int)) = int i64 (↑y : Int) ∧ True) ∧ Ent [(0, F)] [(0, F)] ∧ x.n - y < x.n - x_1))
 (Done amC x F (Ending.returned (bool false)) [(0, F)]) := by
  obtain ⟨a, n, cap, xs, v⟩ := x
  obtain ⟨hsrc, hle⟩ := hc
  dsimp only at hsrc hle
  replace hr : Srcd F a (ints xs) := hr
  have hlen : xs.length = n := by have := hsrc.len; rw [ints_length] at this; omega
  refine ⟨⟨0, ⟨Nat.zero_le _, rfl⟩, ⟨rfl, rfl, rfl, trivial⟩, Ent.pick [0] rfl rfl⟩, ?_⟩
  rintro k js ⟨h1, h2⟩
  dsimp only at h1 h2 ⊢
  refine br_decide (fun hlt => ?_) (fun hge => ?_)
  · obtain ⟨b1, o1, rfl⟩ := hsrc.some (by omega)
    obtain ⟨u, hu⟩ : ∃ u, xs[k]? = some u := ⟨_, List.getElem?_eq_getElem (by omega)⟩
    have e1 : o1 + (k : Int).toNat * 1 = o1 + k := by omega
    rw [drop_get hu] at h2
    have e2 : memB (u :: xs.drop (k + 1)) v = ((v == u) || memB (xs.drop (k + 1)) v) := by unfold memB; rw [List.any_cons]
    rw [e2] at h2
    refine ⟨ixq_ok 1 rfl rfl rfl rfl, ⟨b1, o1, n, cap, k⟩, rfl, by dsimp only; omega, u, by dsimp only; rw [e1]; exact hr.look (ints_get hu), br_intro (fun hg => ⟨(), trivial, retB ?_, Ent.pick [0] rfl rfl⟩) (fun hg => ⟨by omega, k + 1, ⟨by omega, ?_⟩, ⟨rfl, rfl, rfl, trivial⟩, Ent.pick [0] rfl rfl, by omega⟩)⟩
    · have : (v == u) = true := by have := beq_iff_eq.1 hg; subst this; exact beq_self_eq_true _
      dsimp only; rw [h2, this]; rfl
    · have : (v == u) = false := by
        cases hvu : v == u with
        | false => rfl
        | true => have := beq_iff_eq.1 hvu; subst this; rw [beq_self_eq_true] at hg; cases hg
      rw [h2, this]; rfl
  · rw [List.drop_eq_nil_of_le (by omega)] at h2
    exact ⟨(), trivial, retB h2.symm, Ent.pick [0] rfl rfl⟩
set_option maxRecDepth 100000 in
theorem am_ok : FnOk Try.prog 35 amC :=
  fnOk (N := 18) (by kernel_rfl) Try.func35 rfl (by kernel_rfl) (fun _ => Nat.le_of_ble_eq_true rfl) am_H [] fun x F hc hr => Eq.mpr (by kernel_rfl) (am_vc x F hc hr)
structure ClnX where
  a : Addr
  n : Nat
  cap : Nat
  ys : List Value
def clnNC : Con where
  X := Unit
  Y := Unit
  args _ := [.slice none 0 0]
  pre _ := []
  cond _ := True
  rdc _ _ := True
  rel _ _ := True
  val _ _ := .returned (.slice none 0 0)
  post _ _ := []
def clnBC (e k Bw : Nat) : Con where
  X := ClnX
  Y := Row
  args x := [.slice (some x.a) x.n x.cap]
  pre _ := []
  cond x := x.ys.length = x.n * k ∧ (∀ u ∈ x.ys, u.oneCell' = true) ∧ x.n * Bw ≤ 140737488351232
  rdc x F := Seg F x.a x.ys
  rel x r := IsRow e k x.ys r ∧ r.n = x.n
  val _ r := .returned (.slice r.a r.n r.cap)
  post _ r := [r.A]
  rmono _ _ _ h hk := hk.sub h
structure ClrX where
  a : Option Addr
  n : Nat
  cap : Nat
  ys : List Value
def clnRC (e k Bw : Nat) : Con where
  X := ClrX
  Y := Row
  args x := [.slice x.a x.n x.cap]
  pre _ := []
  cond x := IsSrc k x.ys x.a x.n ∧ (∀ u ∈ x.ys, u.oneCell' = true) ∧ x.n * Bw ≤ 140737488351232 ∧ (x.a = none → x.cap = 0)
  rdc x F := Srcd F x.a x.ys
  rel x r := IsRow e k x.ys r ∧ r.n = x.n
  val _ r := .returned (.slice r.a r.n r.cap)
  post _ r := [r.A]
  rmono _ _ _ h hk := hk.sub h
theorem cln_of {f : FuncId} {e k Bw : Nat} (hn : FnOk Try.prog f clnNC) (hb : FnOk Try.prog f (clnBC e k Bw)) : FnOk Try.prog f (clnRC e k Bw) := by
  refine ⟨fun x F I w hc hr hs => ?_⟩
  obtain ⟨a, n, cap, ys⟩ := x
  obtain ⟨hsrc, h1, hle, hcap⟩ := hc
  dsimp only at hsrc h1 hle hcap
  cases hsrc with
  | nil h =>
    have := hcap rfl
    subst this
    refine (hn.h () F I w trivial trivial hs).mono ?_
    rintro e w' ⟨_, J, _, rfl, hle, hsat, henv⟩
    exact ⟨⟨none, 0, 0, .emp⟩, J, ⟨.nil h, rfl⟩, rfl, hle, hsat.pick [77, 0] rfl rfl, henv⟩
  | blk b o n h =>
    refine (hb.h ⟨⟨b, o, none⟩, n, cap, ys⟩ F I w ⟨h, h1, hle⟩ (hr _ rfl) hs).mono ?_
    rintro e w' ⟨y, J, ⟨h1, h2⟩, rfl, hle, hsat, henv⟩
    exact ⟨y, J, ⟨h1, h2⟩, rfl, hle, hsat, henv⟩
  | zero a h =>
    refine (hb.h ⟨a, 0, cap, ys⟩ F I w ⟨by dsimp only; rw [h, Nat.zero_mul]; rfl, h1, hle⟩ (hr _ rfl) hs).mono ?_
    rintro e w' ⟨y, J, ⟨h1, h2⟩, rfl, hle, hsat, henv⟩
    exact ⟨y, J, ⟨h1, h2⟩, rfl, hle, hsat, henv⟩
def clnIOv (_x : ClnX) (_F : Atom) : List (Nat × Nat × OH) := [(3, 2, .o (apC 3 1 8) [4000] [4000])]
noncomputable def clnNI_H (x : Con.X clnNC) (F : Atom) : Hints where
  op := hk (((fun _ _ => []) x F) ++ [])
  inv := (fun _ _ _ => none) x F
  cut := (fun _ _ _ => none) x F
  ord := (fun _ => [])
open Go.Value (int slice string bool pointer agg tuple func) in
open Go.IntKind (i64) in
set_option maxRecDepth 100000 in
theorem clnNI_vc (x : PUnit) (F : Atom) (hc : Con.cond clnNC x) (hr : Con.rdc clnNC x F) :
  Done clnNC x F (Ending.returned (slice none 0 0)) [(0, F)] := by
  exact ⟨(), trivial, rfl, Ent.pick [0] rfl rfl⟩
set_option maxRecDepth 100000 in
theorem clnNI_ok : FnOk Try.prog 68 clnNC :=
  fnOk (N := 8) (by kernel_rfl) Try.func68 rfl (by kernel_rfl) (fun _ => Nat.le_of_ble_eq_true rfl) clnNI_H [] fun x F hc hr => Eq.mpr (by kernel_rfl) (clnNI_vc x F hc hr)
noncomputable def clnBI_H (x : Con.X (clnBC 3 1 8)) (F : Atom) : Hints where
  op := hk ((clnIOv x F) ++ [(3, 0, OH.n (4000 : Nat))])
  inv := (fun _ _ _ => none) x F
  cut := (fun _ _ _ => none) x F
  ord := (fun _ => [])
open Go.Value (int slice string bool pointer agg tuple func) in
open Go.IntKind (i64) in
set_option maxRecDepth 100000 in
theorem clnBI_vc (x : ClnX) (F : Atom) (hc : Con.cond (clnBC 3 1 8) x) (hr : Con.rdc (clnBC 3 1 8) x F) :
  ∀ (b : Nat),
 OpOk Try.prog (opIn Try.f68 3 2) (apC (3 : TypeId) 1 8) ∧
 true = true ∧ ∃ (x_1 : ApX), [slice (some ⟨b, 0, none⟩) 0 0, slice (some x.a) x.n x.cap] = [slice x_1.r.a x_1.r.n x_1.r.cap, slice x_1.a x_1.m x_1.c] ∧ [Atom.cells b [] 3] = [x_1.r.A] ∧ (IsRow 3 1 x_1.cs x_1.r ∧ x_1.ys.length = x_1.m * 1 ∧ (∀ (u : Value), u ∈ x_1.ys → u.oneCell' = true) ∧ (x_1.r.n + x_1.m) * 8 ≤ 140737488355328 ∧ x_1.r.n + x_1.m ≤ 9223372036854775807 ∧ (x_1.a = none → x_1.m = 0 ∧ x_1.c = 0)) ∧ (∀ (a : Addr), x_1.a = some a → Seg (Atom.pred (rest [(0, F), (4000, Atom.cells b [] 3)] [4000])) a x_1.ys) ∧ ∀ (y : Row), IsRow 3 1 (x_1.cs ++ x_1.ys) y ∧ y.n = x_1.r.n + x_1.m ∧ (x_1.m = 0 → y = x_1.r) → Done (clnBC 3 1 8) x F (Ending.returned (slice y.a y.n y.cap)) [(0, F), (4000, y.A)] := by
  obtain ⟨a, n, cap, ys⟩ := x
  obtain ⟨hyl, hy1, hn⟩ := hc
  dsimp only at hyl hy1 hn ⊢
  refine fun b => ⟨append_ok (P := Try.prog) 1 8 rfl rfl rfl rfl rfl rfl rfl (by decide), rfl, ⟨⟨some ⟨b, 0, none⟩, 0, 0, .cells b [] 3⟩, [], some a, n, cap, ys⟩, rfl, rfl, ⟨.blk b 0 0 [] rfl rfl (Nat.le_refl 0), hyl, hy1, by dsimp only; omega, by dsimp only; omega, by simp⟩, ?_, ?_⟩
  · intro ad h
    cases h
    exact Seg.rest (j := 0) (by simp) hr
  · rintro y ⟨h1, h2, -⟩
    exact ⟨y, ⟨h1, by simpa using h2⟩, rfl, Ent.pick [4000, 0] rfl rfl⟩
set_option maxRecDepth 100000 in
theorem clnBI_ok : FnOk Try.prog 68 (clnBC 3 1 8) :=
  fnOk (N := 8) (by kernel_rfl) Try.func68 rfl (by kernel_rfl) (fun _ => Nat.le_of_ble_eq_true rfl) clnBI_H [] fun x F hc hr => Eq.mpr (by kernel_rfl) (clnBI_vc x F hc hr)
theorem clnI_ok : FnOk Try.prog 68 (clnRC 3 1 8) := cln_of clnNI_ok clnBI_ok
def clnSOv (_x : ClnX) (_F : Atom) : List (Nat × Nat × OH) := [(3, 2, .o (apC 61 13 232) [4000] [4000])]
noncomputable def clnNS_H (x : Con.X clnNC) (F : Atom) : Hints where
  op := hk (((fun _ _ => []) x F) ++ [])
  inv := (fun _ _ _ => none) x F
  cut := (fun _ _ _ => none) x F
  ord := (fun _ => [])
open Go.Value (int slice string bool pointer agg tuple func) in
open Go.IntKind (i64) in
set_option maxRecDepth 100000 in
theorem clnNS_vc (x : PUnit) (F : Atom) (hc : Con.cond clnNC x) (hr : Con.rdc clnNC x F) :
  Done clnNC x F (Ending.returned (slice none 0 0)) [(0, F)] := by
  exact ⟨(), trivial, rfl, Ent.pick [0] rfl rfl⟩
set_option maxRecDepth 100000 in
theorem clnNS_ok : FnOk Try.prog 69 clnNC :=
  fnOk (N := 8) (by kernel_rfl) Try.func69 rfl (by kernel_rfl) (fun _ => Nat.le_of_ble_eq_true rfl) clnNS_H [] fun x F hc hr => Eq.mpr (by kernel_rfl) (clnNS_vc x F hc hr)
noncomputable def clnBS_H (x : Con.X (clnBC 61 13 232)) (F : Atom) : Hints where
  op := hk ((clnSOv x F) ++ [(3, 0, OH.n (4000 : Nat))])
  inv := (fun _ _ _ => none) x F
  cut := (fun _ _ _ => none) x F
  ord := (fun _ => [])
open Go.Value (int slice string bool pointer agg tuple func) in
open Go.IntKind (i64) in
set_option maxRecDepth 100000 in
theorem clnBS_vc (x : ClnX) (F : Atom) (hc : Con.cond (clnBC 61 13 232) x) (hr : Con.rdc (clnBC 61 13 232) x F) :
  ∀ (b : Nat),
 OpOk Try.prog (opIn Try.f69 3 2) (apC (61 : TypeId) 13 232) ∧
 true = true ∧ ∃ (x_1 : ApX), [slice (some ⟨b, 0, none⟩) 0 0, slice (some x.a) x.n x.cap] = [slice x_1.r.a x_1.r.n x_1.r.cap, slice x_1.a x_1.m x_1.c] ∧ [Atom.cells b [] 61] = [x_1.r.A] ∧ (IsRow 61 13 x_1.cs x_1.r ∧ x_1.ys.length = x_1.m * 13 ∧ (∀ (u : Value), u ∈ x_1.ys → u.oneCell' = true) ∧ (x_1.r.n + x_1.m) * 232 ≤ 140737488355328 ∧ x_1.r.n + x_1.m ≤ 9223372036854775807 ∧ (x_1.a = none → x_1.m = 0 ∧ x_1.c = 0)) ∧ (∀ (a : Addr), x_1.a = some a → Seg (Atom.pred (rest [(0, F), (4000, Atom.cells b [] 61)] [4000])) a x_1.ys) ∧ ∀ (y : Row), IsRow 61 13 (x_1.cs ++ x_1.ys) y ∧ y.n = x_1.r.n + x_1.m ∧ (x_1.m = 0 → y = x_1.r) → Done (clnBC 61 13 232) x F (Ending.returned (slice y.a y.n y.cap)) [(0, F), (4000, y.A)] := by
  obtain ⟨a, n, cap, ys⟩ := x
  obtain ⟨hyl, hy1, hn⟩ := hc
  dsimp only at hyl hy1 hn ⊢
  refine fun b => ⟨append_ok (P := Try.prog) 13 232 rfl rfl rfl rfl rfl rfl rfl (by decide), rfl, ⟨⟨some ⟨b, 0, none⟩, 0, 0, .cells b [] 61⟩, [], some a, n, cap, ys⟩, rfl, rfl, ⟨.blk b 0 0 [] rfl rfl (Nat.le_refl 0), hyl, hy1, by dsimp only; omega, by dsimp only; omega, by simp⟩, ?_, ?_⟩
  · intro ad h
    cases h
    exact Seg.rest (j := 0) (by simp) hr
  · rintro y ⟨h1, h2, -⟩
    exact ⟨y, ⟨h1, by simpa using h2⟩, rfl, Ent.pick [4000, 0] rfl rfl⟩
set_option maxRecDepth 100000 in
theorem clnBS_ok : FnOk Try.prog 69 (clnBC 61 13 232) :=
  fnOk (N := 8) (by kernel_rfl) Try.func69 rfl (by kernel_rfl) (fun _ => Nat.le_of_ble_eq_true rfl) clnBS_H [] fun x F hc hr => Eq.mpr (by kernel_rfl) (clnBS_vc x F hc hr)
theorem clnS_ok : FnOk Try.prog 69 (clnRC 61 13 232) := cln_of clnNS_ok clnBS_ok
def clnTOv (_x : ClnX) (_F : Atom) : List (Nat × Nat × OH) := [(3, 2, .o (apC 76 6 88) [4000] [4000])]
noncomputable def clnNT_H (x : Con.X clnNC) (F : Atom) : Hints where
  op := hk (((fun _ _ => []) x F) ++ [])
  inv := (fun _ _ _ => none) x F
  cut := (fun _ _ _ => none) x F
  ord := (fun _ => [])
open Go.Value (int slice string bool pointer agg tuple func) in
open Go.IntKind (i64) in
set_option maxRecDepth 100000 in
theorem clnNT_vc (x : PUnit) (F : Atom) (hc : Con.cond clnNC x) (hr : Con.rdc clnNC x F) :
  Done clnNC x F (Ending.returned (slice none 0 0)) [(0, F)] := by
  exact ⟨(), trivial, rfl, Ent.pick [0] rfl rfl⟩
set_option maxRecDepth 100000 in
theorem clnNT_ok : FnOk Try.prog 71 clnNC :=
  fnOk (N := 8) (by kernel_rfl) Try.func71 rfl (by kernel_rfl) (fun _ => Nat.le_of_ble_eq_true rfl) clnNT_H [] fun x F hc hr => Eq.mpr (by kernel_rfl) (clnNT_vc x F hc hr)
noncomputable def clnBT_H (x : Con.X (clnBC 76 6 88)) (F : Atom) : Hints where
  op := hk ((clnTOv x F) ++ [(3, 0, OH.n (4000 : Nat))])
  inv := (fun _ _ _ => none) x F
  cut := (fun _ _ _ => none) x F
  ord := (fun _ => [])
open Go.Value (int slice string bool pointer agg tuple func) in
open Go.IntKind (i64) in
set_option maxRecDepth 100000 in
theorem clnBT_vc (x : ClnX) (F : Atom) (hc : Con.cond (clnBC 76 6 88) x) (hr : Con.rdc (clnBC 76 6 88) x F) :
  ∀ (b : Nat),
 OpOk Try.prog (opIn Try.f71 3 2) (apC (76 : TypeId) 6 88) ∧
 true = true ∧ ∃ (x_1 : ApX), [slice (some ⟨b, 0, none⟩) 0 0, slice (some x.a) x.n x.cap] = [slice x_1.r.a x_1.r.n x_1.r.cap, slice x_1.a x_1.m x_1.c] ∧ [Atom.cells b [] 76] = [x_1.r.A] ∧ (IsRow 76 6 x_1.cs x_1.r ∧ x_1.ys.length = x_1.m * 6 ∧ (∀ (u : Value), u ∈ x_1.ys → u.oneCell' = true) ∧ (x_1.r.n + x_1.m) * 88 ≤ 140737488355328 ∧ x_1.r.n + x_1.m ≤ 9223372036854775807 ∧ (x_1.a = none → x_1.m = 0 ∧ x_1.c = 0)) ∧ (∀ (a : Addr), x_1.a = some a → Seg (Atom.pred (rest [(0, F), (4000, Atom.cells b [] 76)] [4000])) a x_1.ys) ∧ ∀ (y : Row), IsRow 76 6 (x_1.cs ++ x_1.ys) y ∧ y.n = x_1.r.n + x_1.m ∧ (x_1.m = 0 → y = x_1.r) → Done (clnBC 76 6 88) x F (Ending.returned (slice y.a y.n y.cap)) [(0, F), (4000, y.A)] := by
  obtain ⟨a, n, cap, ys⟩ := x
  obtain ⟨hyl, hy1, hn⟩ := hc
  dsimp only at hyl hy1 hn ⊢
  refine fun b => ⟨append_ok (P := Try.prog) 6 88 rfl rfl rfl rfl rfl rfl rfl (by decide), rfl, ⟨⟨some ⟨b, 0, none⟩, 0, 0, .cells b [] 76⟩, [], some a, n, cap, ys⟩, rfl, rfl, ⟨.blk b 0 0 [] rfl rfl (Nat.le_refl 0), hyl, hy1, by dsimp only; omega, by dsimp only; omega, by simp⟩, ?_, ?_⟩
  · intro ad h
    cases h
    exact Seg.rest (j := 0) (by simp) hr
  · rintro y ⟨h1, h2, -⟩
    exact ⟨y, ⟨h1, by simpa using h2⟩, rfl, Ent.pick [4000, 0] rfl rfl⟩
set_option maxRecDepth 100000 in
theorem clnBT_ok : FnOk Try.prog 71 (clnBC 76 6 88) :=
  fnOk (N := 8) (by kernel_rfl) Try.func71 rfl (by kernel_rfl) (fun _ => Nat.le_of_ble_eq_true rfl) clnBT_H [] fun x F hc hr => Eq.mpr (by kernel_rfl) (clnBT_vc x F hc hr)
theorem clnT_ok : FnOk Try.prog 71 (clnRC 76 6 88) := cln_of clnNT_ok clnBT_ok
def clnZOv (_x : ClnX) (_F : Atom) : List (Nat × Nat × OH) := [(3, 2, .o (apC 9 1 16) [4000] [4000])]
noncomputable def clnNZ_H (x : Con.X clnNC) (F : Atom) : Hints where
  op := hk (((fun _ _ => []) x F) ++ [])
  inv := (fun _ _ _ => none) x F
  cut := (fun _ _ _ => none) x F
  ord := (fun _ => [])
open Go.Value (int slice string bool pointer agg tuple func) in
open Go.IntKind (i64) in
set_option maxRecDepth 100000 in
theorem clnNZ_vc (x : PUnit) (F : Atom) (hc : Con.cond clnNC x) (hr : Con.rdc clnNC x F) :
  Done clnNC x F (Ending.returned (slice none 0 0)) [(0, F)] := by
  exact ⟨(), trivial, rfl, Ent.pick [0] rfl rfl⟩
set_option maxRecDepth 100000 in
theorem clnNZ_ok : FnOk Try.prog 72 clnNC :=
  fnOk (N := 8) (by kernel_rfl) Try.func72 rfl (by kernel_rfl) (fun _ => Nat.le_of_ble_eq_true rfl) clnNZ_H [] fun x F hc hr => Eq.mpr (by kernel_rfl) (clnNZ_vc x F hc hr)
noncomputable def clnBZ_H (x : Con.X (clnBC 9 1 16)) (F : Atom) : Hints where
  op := hk ((clnZOv x F) ++ [(3, 0, OH.n (4000 : Nat))])
  inv := (fun _ _ _ => none) x F
  cut := (fun _ _ _ => none) x F
  ord := (fun _ => [])
open Go.Value (int slice string bool pointer agg tuple func) in
open Go.IntKind (i64) in
set_option maxRecDepth 100000 in
theorem clnBZ_vc (x : ClnX) (F : Atom) (hc : Con.cond (clnBC 9 1 16) x) (hr : Con.rdc (clnBC 9 1 16) x F) :
  ∀ (b : Nat),
 OpOk Try.prog (opIn Try.f72 3 2) (apC (9 : TypeId) 1 16) ∧
 true = true ∧ ∃ (x_1 : ApX), [slice (some ⟨b, 0, none⟩) 0 0, slice (some x.a) x.n x.cap] = [slice x_1.r.a x_1.r.n x_1.r.cap, slice x_1.a x_1.m x_1.c] ∧ [Atom.cells b [] 9] = [x_1.r.A] ∧ (IsRow 9 1 x_1.cs x_1.r ∧ x_1.ys.length = x_1.m * 1 ∧ (∀ (u : Value), u ∈ x_1.ys → u.oneCell' = true) ∧ (x_1.r.n + x_1.m) * 16 ≤ 140737488355328 ∧ x_1.r.n + x_1.m ≤ 9223372036854775807 ∧ (x_1.a = none → x_1.m = 0 ∧ x_1.c = 0)) ∧ (∀ (a : Addr), x_1.a = some a → Seg (Atom.pred (rest [(0, F), (4000, Atom.cells b [] 9)] [4000])) a x_1.ys) ∧ ∀ (y : Row), IsRow 9 1 (x_1.cs ++ x_1.ys) y ∧ y.n = x_1.r.n + x_1.m ∧ (x_1.m = 0 → y = x_1.r) → Done (clnBC 9 1 16) x F (Ending.returned (slice y.a y.n y.cap)) [(0, F), (4000, y.A)] := by
  obtain ⟨a, n, cap, ys⟩ := x
  obtain ⟨hyl, hy1, hn⟩ := hc
  dsimp only at hyl hy1 hn ⊢
  refine fun b => ⟨append_ok (P := Try.prog) 1 16 rfl rfl rfl rfl rfl rfl rfl (by decide), rfl, ⟨⟨some ⟨b, 0, none⟩, 0, 0, .cells b [] 9⟩, [], some a, n, cap, ys⟩, rfl, rfl, ⟨.blk b 0 0 [] rfl rfl (Nat.le_refl 0), hyl, hy1, by dsimp only; omega, by dsimp only; omega, by simp⟩, ?_, ?_⟩
  · intro ad h
    cases h
    exact Seg.rest (j := 0) (by simp) hr
  · rintro y ⟨h1, h2, -⟩
    exact ⟨y, ⟨h1, by simpa using h2⟩, rfl, Ent.pick [4000, 0] rfl rfl⟩
set_option maxRecDepth 100000 in
theorem clnBZ_ok : FnOk Try.prog 72 (clnBC 9 1 16) :=
  fnOk (N := 8) (by kernel_rfl) Try.func72 rfl (by kernel_rfl) (fun _ => Nat.le_of_ble_eq_true rfl) clnBZ_H [] fun x F hc hr => Eq.mpr (by kernel_rfl) (clnBZ_vc x F hc hr)
theorem clnZ_ok : FnOk Try.prog 72 (clnRC 9 1 16) := cln_of clnNZ_ok clnBZ_ok
def clnBOv (_x : ClnX) (_F : Atom) : List (Nat × Nat × OH) := [(3, 2, .o (apC 93 1 24) [4000] [4000])]
noncomputable def clnNB_H (x : Con.X clnNC) (F : Atom) : Hints where
  op := hk (((fun _ _ => []) x F) ++ [])
  inv := (fun _ _ _ => none) x F
  cut := (fun _ _ _ => none) x F
  ord := (fun _ => [])
open Go.Value (int slice string bool pointer agg tuple func) in
open Go.IntKind (i64) in
set_option maxRecDepth 100000 in
theorem clnNB_vc (x : PUnit) (F : Atom) (hc : Con.cond clnNC x) (hr : Con.rdc clnNC x F) :
  Done clnNC x F (Ending.returned (slice none 0 0)) [(0, F)] := by
  exact ⟨(), trivial, rfl, Ent.pick [0] rfl rfl⟩
set_option maxRecDepth 100000 in
theorem clnNB_ok : FnOk Try.prog 73 clnNC :=
  fnOk (N := 8) (by kernel_rfl) Try.func73 rfl (by kernel_rfl) (fun _ => Nat.le_of_ble_eq_true rfl) clnNB_H [] fun x F hc hr => Eq.mpr (by kernel_rfl) (clnNB_vc x F hc hr)
noncomputable def clnBB_H (x : Con.X (clnBC 93 1 24)) (F : Atom) : Hints where
  op := hk ((clnBOv x F) ++ [(3, 0, OH.n (4000 : Nat))])
  inv := (fun _ _ _ => none) x F
  cut := (fun _ _ _ => none) x F
  ord := (fun _ => [])
open Go.Value (int slice string bool pointer agg tuple func) in
open Go.IntKind (i64) in
set_option maxRecDepth 100000 in
theorem clnBB_vc (x : ClnX) (F : Atom) (hc : Con.cond (clnBC 93 1 24) x) (hr : Con.rdc (clnBC 93 1 24) x F) :
  ∀ (b : Nat),
 OpOk Try.prog (opIn Try.f73 3 2) (apC (93 : TypeId) 1 24) ∧
 true = true ∧ ∃ (x_1 : ApX), [slice (some ⟨b, 0, none⟩) 0 0, slice (some x.a) x.n x.cap] = [slice x_1.r.a x_1.r.n x_1.r.cap, slice x_1.a x_1.m x_1.c] ∧ [Atom.cells b [] 93] = [x_1.r.A] ∧ (IsRow 93 1 x_1.cs x_1.r ∧ x_1.ys.length = x_1.m * 1 ∧ (∀ (u : Value), u ∈ x_1.ys → u.oneCell' = true) ∧ (x_1.r.n + x_1.m) * 24 ≤ 140737488355328 ∧ x_1.r.n + x_1.m ≤ 9223372036854775807 ∧ (x_1.a = none → x_1.m = 0 ∧ x_1.c = 0)) ∧ (∀ (a : Addr), x_1.a = some a → Seg (Atom.pred (rest [(0, F), (4000, Atom.cells b [] 93)] [4000])) a x_1.ys) ∧ ∀ (y : Row), IsRow 93 1 (x_1.cs ++ x_1.ys) y ∧ y.n = x_1.r.n + x_1.m ∧ (x_1.m = 0 → y = x_1.r) → Done (clnBC 93 1 24) x F (Ending.returned (slice y.a y.n y.cap)) [(0, F), (4000, y.A)] := by
  obtain ⟨a, n, cap, ys⟩ := x
  obtain ⟨hyl, hy1, hn⟩ := hc
  dsimp only at hyl hy1 hn ⊢
  refine fun b => ⟨append_ok (P := Try.prog) 1 24 rfl rfl rfl rfl rfl rfl rfl (by decide), rfl, ⟨⟨some ⟨b, 0, none⟩, 0, 0, .cells b [] 93⟩, [], some a, n, cap, ys⟩, rfl, rfl, ⟨.blk b 0 0 [] rfl rfl (Nat.le_refl 0), hyl, hy1, by dsimp only; omega, by dsimp only; omega, by simp⟩, ?_, ?_⟩
  · intro ad h
    cases h
    exact Seg.rest (j := 0) (by simp) hr
  · rintro y ⟨h1, h2, -⟩
    exact ⟨y, ⟨h1, by simpa using h2⟩, rfl, Ent.pick [4000, 0] rfl rfl⟩
set_option maxRecDepth 100000 in
theorem clnBB_ok : FnOk Try.prog 73 (clnBC 93 1 24) :=
  fnOk (N := 8) (by kernel_rfl) Try.func73 rfl (by kernel_rfl) (fun _ => Nat.le_of_ble_eq_true rfl) clnBB_H [] fun x F hc hr => Eq.mpr (by kernel_rfl) (clnBB_vc x F hc hr)
theorem clnB_ok : FnOk Try.prog 73 (clnRC 93 1 24) := cln_of clnNB_ok clnBB_ok
def clnAOv (_x : ClnX) (_F : Atom) : List (Nat × Nat × OH) := [(3, 2, .o (apC 96 19 304) [4000] [4000])]
noncomputable def clnNA_H (x : Con.X clnNC) (F : Atom) : Hints where
  op := hk (((fun _ _ => []) x F) ++ [])
  inv := (fun _ _ _ => none) x F
  cut := (fun _ _ _ => none) x F
  ord := (fun _ => [])
open Go.Value (int slice string bool pointer agg tuple func) in
open Go.IntKind (i64) in
set_option maxRecDepth 100000 in
theorem clnNA_vc (x : PUnit) (F : Atom) (hc : Con.cond clnNC x) (hr : Con.rdc clnNC x F) :
  Done clnNC x F (Ending.returned (slice none 0 0)) [(0, F)] := by
  exact ⟨(), trivial, rfl, Ent.pick [0] rfl rfl⟩
set_option maxRecDepth 100000 in
theorem clnNA_ok : FnOk Try.prog 74 clnNC :=
  fnOk (N := 8) (by kernel_rfl) Try.func74 rfl (by kernel_rfl) (fun _ => Nat.le_of_ble_eq_true rfl) clnNA_H [] fun x F hc hr => Eq.mpr (by kernel_rfl) (clnNA_vc x F hc hr)
noncomputable def clnBA_H (x : Con.X (clnBC 96 19 304)) (F : Atom) : Hints where
  op := hk ((clnAOv x F) ++ [(3, 0, OH.n (4000 : Nat))])
  inv := (fun _ _ _ => none) x F
  cut := (fun _ _ _ => none) x F
  ord := (fun _ => [])
open Go.Value (int slice string bool pointer agg tuple func) in
open Go.IntKind (i64) in
set_option maxRecDepth 100000 in
theorem clnBA_vc (x : ClnX) (F : Atom) (hc : Con.cond (clnBC 96 19 304) x) (hr : Con.rdc (clnBC 96 19 304) x F) :
  ∀ (b : Nat),
 OpOk Try.prog (opIn Try.f74 3 2) (apC (96 : TypeId) 19 304) ∧
 true = true ∧ ∃ (x_1 : ApX), [slice (some ⟨b, 0, none⟩) 0 0, slice (some x.a) x.n x.cap] = [slice x_1.r.a x_1.r.n x_1.r.cap, slice x_1.a x_1.m x_1.c] ∧ [Atom.cells b [] 96] = [x_1.r.A] ∧ (IsRow 96 19 x_1.cs x_1.r ∧ x_1.ys.length = x_1.m * 19 ∧ (∀ (u : Value), u ∈ x_1.ys → u.oneCell' = true) ∧ (x_1.r.n + x_1.m) * 304 ≤ 140737488355328 ∧ x_1.r.n + x_1.m ≤ 9223372036854775807 ∧ (x_1.a = none → x_1.m = 0 ∧ x_1.c = 0)) ∧ (∀ (a : Addr), x_1.a = some a → Seg (Atom.pred (rest [(0, F), (4000, Atom.cells b [] 96)] [4000])) a x_1.ys) ∧ ∀ (y : Row), IsRow 96 19 (x_1.cs ++ x_1.ys) y ∧ y.n = x_1.r.n + x_1.m ∧ (x_1.m = 0 → y = x_1.r) → Done (clnBC 96 19 304) x F (Ending.returned (slice y.a y.n y.cap)) [(0, F), (4000, y.A)] := by
  obtain ⟨a, n, cap, ys⟩ := x
  obtain ⟨hyl, hy1, hn⟩ := hc
  dsimp only at hyl hy1 hn ⊢
  refine fun b => ⟨append_ok (P := Try.prog) 19 304 rfl rfl rfl rfl rfl rfl rfl (by decide), rfl, ⟨⟨some ⟨b, 0, none⟩, 0, 0, .cells b [] 96⟩, [], some a, n, cap, ys⟩, rfl, rfl, ⟨.blk b 0 0 [] rfl rfl (Nat.le_refl 0), hyl, hy1, by dsimp only; omega, by dsimp only; omega, by simp⟩, ?_, ?_⟩
  · intro ad h
    cases h
    exact Seg.rest (j := 0) (by simp) hr
  · rintro y ⟨h1, h2, -⟩
    exact ⟨y, ⟨h1, by simpa using h2⟩, rfl, Ent.pick [4000, 0] rfl rfl⟩
set_option maxRecDepth 100000 in
theorem clnBA_ok : FnOk Try.prog 74 (clnBC 96 19 304) :=
  fnOk (N := 8) (by kernel_rfl) Try.func74 rfl (by kernel_rfl) (fun _ => Nat.le_of_ble_eq_true rfl) clnBA_H [] fun x F hc hr => Eq.mpr (by kernel_rfl) (clnBA_vc x F hc hr)
theorem clnA_ok : FnOk Try.prog 74 (clnRC 96 19 304) := cln_of clnNA_ok clnBA_ok
def clnDOv (_x : ClnX) (_F : Atom) : List (Nat × Nat × OH) := [(3, 2, .o (apC 98 3 48) [4000] [4000])]
noncomputable def clnND_H (x : Con.X clnNC) (F : Atom) : Hints where
  op := hk (((fun _ _ => []) x F) ++ [])
  inv := (fun _ _ _ => none) x F
  cut := (fun _ _ _ => none) x F
  ord := (fun _ => [])
open Go.Value (int slice string bool pointer agg tuple func) in
open Go.IntKind (i64) in
set_option maxRecDepth 100000 in
theorem clnND_vc (x : PUnit) (F : Atom) (hc : Con.cond clnNC x) (hr : Con.rdc clnNC x F) :
  Done clnNC x F (Ending.returned (slice none 0 0)) [(0, F)] := by
  exact ⟨(), trivial, rfl, Ent.pick [0] rfl rfl⟩
set_option maxRecDepth 100000 in
theorem clnND_ok : FnOk Try.prog 75 clnNC :=
  fnOk (N := 8) (by kernel_rfl) Try.func75 rfl (by kernel_rfl) (fun _ => Nat.le_of_ble_eq_true rfl) clnND_H [] fun x F hc hr => Eq.mpr (by kernel_rfl) (clnND_vc x F hc hr)
noncomputable def clnBD_H (x : Con.X (clnBC 98 3 48)) (F : Atom) : Hints where
  op := hk ((clnDOv x F) ++ [(3, 0, OH.n (4000 : Nat))])
  inv := (fun _ _ _ => none) x F
  cut := (fun _ _ _ => none) x F
  ord := (fun _ => [])
open Go.Value (int slice string bool pointer agg tuple func) in
open Go.IntKind (i64) in
set_option maxRecDepth 100000 in
theorem clnBD_vc (x : ClnX) (F : Atom) (hc : Con.cond (clnBC 98 3 48) x) (hr : Con.rdc (clnBC 98 3 48) x F) :
  ∀ (b : Nat),
 OpOk Try.prog (opIn Try.f75 3 2) (apC (98 : TypeId) 3 48) ∧
 true = true ∧ ∃ (x_1 : ApX), [slice (some ⟨b, 0, none⟩) 0 0, slice (some x.a) x.n x.cap] = [slice x_1.r.a x_1.r.n x_1.r.cap, slice x_1.a x_1.m x_1.c] ∧ [Atom.cells b [] 98] = [x_1.r.A] ∧ (IsRow 98 3 x_1.cs x_1.r ∧ x_1.ys.length = x_1.m * 3 ∧ (∀ (u : Value), u ∈ x_1.ys → u.oneCell' = true) ∧ (x_1.r.n + x_1.m) * 48 ≤ 140737488355328 ∧ x_1.r.n + x_1.m ≤ 9223372036854775807 ∧ (x_1.a = none → x_1.m = 0 ∧ x_1.c = 0)) ∧ (∀ (a : Addr), x_1.a = some a → Seg (Atom.pred (rest [(0, F), (4000, Atom.cells b [] 98)] [4000])) a x_1.ys) ∧ ∀ (y : Row), IsRow 98 3 (x_1.cs ++ x_1.ys) y ∧ y.n = x_1.r.n + x_1.m ∧ (x_1.m = 0 → y = x_1.r) → Done (clnBC 98 3 48) x F (Ending.returned (slice y.a y.n y.cap)) [(0, F), (4000, y.A)] := by
  obtain ⟨a, n, cap, ys⟩ := x
  obtain ⟨hyl, hy1, hn⟩ := hc
  dsimp only at hyl hy1 hn ⊢
  refine fun b => ⟨append_ok (P := Try.prog) 3 48 rfl rfl rfl rfl rfl rfl rfl (by decide), rfl, ⟨⟨some ⟨b, 0, none⟩, 0, 0, .cells b [] 98⟩, [], some a, n, cap, ys⟩, rfl, rfl, ⟨.blk b 0 0 [] rfl rfl (Nat.le_refl 0), hyl, hy1, by dsimp only; omega, by dsimp only; omega, by simp⟩, ?_, ?_⟩
  · intro ad h
    cases h
    exact Seg.rest (j := 0) (by simp) hr
  · rintro y ⟨h1, h2, -⟩
    exact ⟨y, ⟨h1, by simpa using h2⟩, rfl, Ent.pick [4000, 0] rfl rfl⟩
set_option maxRecDepth 100000 in
theorem clnBD_ok : FnOk Try.prog 75 (clnBC 98 3 48) :=
  fnOk (N := 8) (by kernel_rfl) Try.func75 rfl (by kernel_rfl) (fun _ => Nat.le_of_ble_eq_true rfl) clnBD_H [] fun x F hc hr => Eq.mpr (by kernel_rfl) (clnBD_vc x F hc hr)
theorem clnD_ok : FnOk Try.prog 75 (clnRC 98 3 48) := cln_of clnND_ok clnBD_ok
def clnVOv (_x : ClnX) (_F : Atom) : List (Nat × Nat × OH) := [(3, 2, .o (apC 101 8 104) [4000] [4000])]
noncomputable def clnNV_H (x : Con.X clnNC) (F : Atom) : Hints where
  op := hk (((fun _ _ => []) x F) ++ [])
  inv := (fun _ _ _ => none) x F
  cut := (fun _ _ _ => none) x F
  ord := (fun _ => [])
open Go.Value (int slice string bool pointer agg tuple func) in
open Go.IntKind (i64) in
set_option maxRecDepth 100000 in
theorem clnNV_vc (x : PUnit) (F : Atom) (hc : Con.cond clnNC x) (hr : Con.rdc clnNC x F) :
  Done clnNC x F (Ending.returned (slice none 0 0)) [(0, F)] := by
  exact ⟨(), trivial, rfl, Ent.pick [0] rfl rfl⟩
set_option maxRecDepth 100000 in
theorem clnNV_ok : FnOk Try.prog 76 clnNC :=
  fnOk (N := 8) (by kernel_rfl) Try.func76 rfl (by kernel_rfl) (fun _ => Nat.le_of_ble_eq_true rfl) clnNV_H [] fun x F hc hr => Eq.mpr (by kernel_rfl) (clnNV_vc x F hc hr)
noncomputable def clnBV_H (x : Con.X (clnBC 101 8 104)) (F : Atom) : Hints where
  op := hk ((clnVOv x F) ++ [(3, 0, OH.n (4000 : Nat))])
  inv := (fun _ _ _ => none) x F
  cut := (fun _ _ _ => none) x F
  ord := (fun _ => [])
open Go.Value (int slice string bool pointer agg tuple func) in
open Go.IntKind (i64) in
set_option maxRecDepth 100000 in
theorem clnBV_vc (x : ClnX) (F : Atom) (hc : Con.cond (clnBC 101 8 104) x) (hr : Con.rdc (clnBC 101 8 104) x F) :
  ∀ (b : Nat),
 OpOk Try.prog (opIn Try.f76 3 2) (apC (101 : TypeId) 8 104) ∧
 true = true ∧ ∃ (x_1 : ApX), [slice (some ⟨b, 0, none⟩) 0 0, slice (some x.a) x.n x.cap] = [slice x_1.r.a x_1.r.n x_1.r.cap, slice x_1.a x_1.m x_1.c] ∧ [Atom.cells b [] 101] = [x_1.r.A] ∧ (IsRow 101 8 x_1.cs x_1.r ∧ x_1.ys.length = x_1.m * 8 ∧ (∀ (u : Value), u ∈ x_1.ys → u.oneCell' = true) ∧ (x_1.r.n + x_1.m) * 104 ≤ 140737488355328 ∧ x_1.r.n + x_1.m ≤ 9223372036854775807 ∧ (x_1.a = none → x_1.m = 0 ∧ x_1.c = 0)) ∧ (∀ (a : Addr), x_1.a = some a → Seg (Atom.pred (rest [(0, F), (4000, Atom.cells b [] 101)] [4000])) a x_1.ys) ∧ ∀ (y : Row), IsRow 101 8 (x_1.cs ++ x_1.ys) y ∧ y.n = x_1.r.n + x_1.m ∧ (x_1.m = 0 → y = x_1.r) → Done (clnBC 101 8 104) x F (Ending.returned (slice y.a y.n y.cap)) [(0, F), (4000, y.A)] := by
  obtain ⟨a, n, cap, ys⟩ := x
  obtain ⟨hyl, hy1, hn⟩ := hc
  dsimp only at hyl hy1 hn ⊢
  refine fun b => ⟨append_ok (P := Try.prog) 8 104 rfl rfl rfl rfl rfl rfl rfl (by decide), rfl, ⟨⟨some ⟨b, 0, none⟩, 0, 0, .cells b [] 101⟩, [], some a, n, cap, ys⟩, rfl, rfl, ⟨.blk b 0 0 [] rfl rfl (Nat.le_refl 0), hyl, hy1, by dsimp only; omega, by dsimp only; omega, by simp⟩, ?_, ?_⟩
  · intro ad h
    cases h
    exact Seg.rest (j := 0) (by simp) hr
  · rintro y ⟨h1, h2, -⟩
    exact ⟨y, ⟨h1, by simpa using h2⟩, rfl, Ent.pick [4000, 0] rfl rfl⟩
set_option maxRecDepth 100000 in
theorem clnBV_ok : FnOk Try.prog 76 (clnBC 101 8 104) :=
  fnOk (N := 8) (by kernel_rfl) Try.func76 rfl (by kernel_rfl) (fun _ => Nat.le_of_ble_eq_true rfl) clnBV_H [] fun x F hc hr => Eq.mpr (by kernel_rfl) (clnBV_vc x F hc hr)
theorem clnV_ok : FnOk Try.prog 76 (clnRC 101 8 104) := cln_of clnNV_ok clnBV_ok
def clnPOv (_x : ClnX) (_F : Atom) : List (Nat × Nat × OH) := [(3, 2, .o (apC 115 2 32) [4000] [4000])]
noncomputable def clnNP_H (x : Con.X clnNC) (F : Atom) : Hints where
  op := hk (((fun _ _ => []) x F) ++ [])
  inv := (fun _ _ _ => none) x F
  cut := (fun _ _ _ => none) x F
  ord := (fun _ => [])
open Go.Value (int slice string bool pointer agg tuple func) in
open Go.IntKind (i64) in
set_option maxRecDepth 100000 in
theorem clnNP_vc (x : PUnit) (F : Atom) (hc : Con.cond clnNC x) (hr : Con.rdc clnNC x F) :
  Done clnNC x F (Ending.returned (slice none 0 0)) [(0, F)] := by
  exact ⟨(), trivial, rfl, Ent.pick [0] rfl rfl⟩
set_option maxRecDepth 100000 in
theorem clnNP_ok : FnOk Try.prog 104 clnNC :=
  fnOk (N := 8) (by kernel_rfl) Try.func104 rfl (by kernel_rfl) (fun _ => Nat.le_of_ble_eq_true rfl) clnNP_H [] fun x F hc hr => Eq.mpr (by kernel_rfl) (clnNP_vc x F hc hr)
noncomputable def clnBP_H (x : Con.X (clnBC 115 2 32)) (F : Atom) : Hints where
  op := hk ((clnPOv x F) ++ [(3, 0, OH.n (4000 : Nat))])
  inv := (fun _ _ _ => none) x F
  cut := (fun _ _ _ => none) x F
  ord := (fun _ => [])
open Go.Value (int slice string bool pointer agg tuple func) in
open Go.IntKind (i64) in
set_option maxRecDepth 100000 in
theorem clnBP_vc (x : ClnX) (F : Atom) (hc : Con.cond (clnBC 115 2 32) x) (hr : Con.rdc (clnBC 115 2 32) x F) :
  ∀ (b : Nat),
 OpOk Try.prog (opIn Try.f104 3 2) (apC (115 : TypeId) 2 32) ∧
 true = true ∧ ∃ (x_1 : ApX), [slice (some ⟨b, 0, none⟩) 0 0, slice (some x.a) x.n x.cap] = [slice x_1.r.a x_1.r.n x_1.r.cap, slice x_1.a x_1.m x_1.c] ∧ [Atom.cells b [] 115] = [x_1.r.A] ∧ (IsRow 115 2 x_1.cs x_1.r ∧ x_1.ys.length = x_1.m * 2 ∧ (∀ (u : Value), u ∈ x_1.ys → u.oneCell' = true) ∧ (x_1.r.n + x_1.m) * 32 ≤ 140737488355328 ∧ x_1.r.n + x_1.m ≤ 9223372036854775807 ∧ (x_1.a = none → x_1.m = 0 ∧ x_1.c = 0)) ∧ (∀ (a : Addr), x_1.a = some a → Seg (Atom.pred (rest [(0, F), (4000, Atom.cells b [] 115)] [4000])) a x_1.ys) ∧ ∀ (y : Row), IsRow 115 2 (x_1.cs ++ x_1.ys) y ∧ y.n = x_1.r.n + x_1.m ∧ (x_1.m = 0 → y = x_1.r) → Done (clnBC 115 2 32) x F (Ending.returned (slice y.a y.n y.cap)) [(0, F), (4000, y.A)] := by
  obtain ⟨a, n, cap, ys⟩ := x
  obtain ⟨hyl, hy1, hn⟩ := hc
  dsimp only at hyl hy1 hn ⊢
  refine fun b => ⟨append_ok (P := Try.prog) 2 32 rfl rfl rfl rfl rfl rfl rfl (by decide), rfl, ⟨⟨some ⟨b, 0, none⟩, 0, 0, .cells b [] 115⟩, [], some a, n, cap, ys⟩, rfl, rfl, ⟨.blk b 0 0 [] rfl rfl (Nat.le_refl 0), hyl, hy1, by dsimp only; omega, by dsimp only; omega, by simp⟩, ?_, ?_⟩
  · intro ad h
    cases h
    exact Seg.rest (j := 0) (by simp) hr
  · rintro y ⟨h1, h2, -⟩
    exact ⟨y, ⟨h1, by simpa using h2⟩, rfl, Ent.pick [4000, 0] rfl rfl⟩
set_option maxRecDepth 100000 in
theorem clnBP_ok : FnOk Try.prog 104 (clnBC 115 2 32) :=
  fnOk (N := 8) (by kernel_rfl) Try.func104 rfl (by kernel_rfl) (fun _ => Nat.le_of_ble_eq_true rfl) clnBP_H [] fun x F hc hr => Eq.mpr (by kernel_rfl) (clnBP_vc x F hc hr)
theorem clnP_ok : FnOk Try.prog 104 (clnRC 115 2 32) := cln_of clnNP_ok clnBP_ok
end Go.Proofs.Ytkmdgnbfojkcnaa
