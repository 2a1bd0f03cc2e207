/- Which transitions an event asks for: selected, and a list of texts asked by a function. -/
import Derived.Test.YtkmdgnbfojkcnaaChoA
set_option linter.all false
namespace Go.Proofs.Ytkmdgnbfojkcnaa
open Go
set_option maxHeartbeats 1000000
def txts (ns : List ByteArray) : List Value := ns.map fun n => .string n
theorem txts_length (ns : List ByteArray) : (txts ns).length = ns.length := by simp [txts]
theorem txts_get {ns : List ByteArray} {i : Nat} {n : ByteArray} (h : ns[i]? = some n) : (txts ns)[i]? = some (.string n) := by unfold txts; rw [List.getElem?_map, h]; rfl
structure Se1X where
  c1 : Nat
  name : ByteArray
  d : ByteArray
def se1C : Con where
  X := Se1X
  Y := Unit
  args x := [.string x.d, .pointer (some ⟨x.c1, 0, none⟩)]
  pre _ := []
  cond x := x.d.size ≤ 4611686018427387904
  rdc x F := Look F ⟨x.c1, 0, none⟩ (.string x.name)
  rel _ _ := True
  val x _ := .returned (.bool (matchB x.d x.name))
  post _ _ := []
  rmono _ _ _ h hk := hk.sub h
def se1Ov (_x : Se1X) (_F : Atom) : List (Nat × Nat × OH) := [(1, 1, .q [.ex 0 .str]), (1, 2, .c mtC [] [])]
noncomputable def se1_H (x : Con.X se1C) (F : Atom) : Hints where
  op := hk ((se1Ov x F) ++ [])
  inv := (fun _ _ _ => none) x F
  cut := (fun _ _ _ => none) x F
  ord := (fun _ => [])
open Go.Value (int slice string bool pointer agg tuple func) in
open Go.IntKind (i64) in
set_option maxRecDepth 100000 in
theorem se1_vc (x : Se1X) (F : Atom) (hc : Con.cond se1C x) (hr : Con.rdc se1C x F) :
  ∃ (s : ByteArray), Look F ⟨x.c1, 0, none⟩ (string s) ∧ FnOk Try.prog 39 mtC ∧ true = true ∧ ∃ (x_1 : StrX), [string x.d, string s] = [string x_1.a, string x_1.b] ∧ ([] : List Atom) = [] ∧ x_1.a.size ≤ 4611686018427387904 ∧ True ∧ ∀ (y : Unit), True → Done se1C x F (Ending.returned (bool (matchB x_1.a x_1.b))) [(0, F)] := by
  exact ⟨_, hr, mt_ok, rfl, ⟨x.d, x.name⟩, rfl, rfl, hc, trivial, fun _ _ => ⟨(), trivial, rfl, Ent.pick [0] rfl rfl⟩⟩
set_option maxRecDepth 100000 in
theorem se1_ok : FnOk Try.prog 108 se1C :=
  fnOk (N := 7) (by kernel_rfl) Try.func108 rfl (by kernel_rfl) (fun _ => Nat.le_of_ble_eq_true rfl) se1_H [] fun x F hc hr => Eq.mpr (by kernel_rfl) (se1_vc x F hc hr)
def fixS (g : ByteArray → Bool) : List ByteArray → Nat → Int
  | [], _ => -1
  | x :: r, i => bif g x then i else fixS g r (i + 1)
theorem fixS_any (g : ByteArray → Bool) (xs : List ByteArray) : ∀ i, decide (fixS g xs i ≥ 0) = xs.any g := by
  induction xs with
  | nil => intro i; rfl
  | cons x r ih =>
    intro i
    rw [fixS, List.any_cons]
    cases hg : g x with
    | true => rw [cond_true, Bool.true_or]; exact decide_eq_true (by omega)
    | false => rw [cond_false, Bool.false_or]; exact ih _
structure IxsX where
  c1 : Nat
  name : ByteArray
  a : Option Addr
  n : Nat
  cap : Nat
  xs : List ByteArray
def seV (c1 : Nat) : Value := .func (.func 108) #[] #[.pointer (some ⟨c1, 0, none⟩)]
def ixsC : Con where
  X := IxsX
  Y := Unit
  args x := [.slice x.a x.n x.cap, seV x.c1]
  pre _ := []
  cond x := IsSrc 1 (txts x.xs) x.a x.n ∧ x.n * 16 ≤ 140737488351232 ∧ ∀ u ∈ x.xs, u.size ≤ 4611686018427387904
  rdc x F := Srcd F x.a (txts x.xs) ∧ Look F ⟨x.c1, 0, none⟩ (.string x.name)
  rel _ _ := True
  val x _ := .returned (.int .i64 (fixS (matchB · x.name) x.xs 0))
  post _ _ := []
  rmono x A B h hk := ⟨hk.1.sub h, hk.2.sub h⟩
def ixsInv (x : IxsX) (F : Atom) : Nat → Option Inv := fun
  | 0 => some { X := Nat, P := fun k => k ≤ x.n ∧ fixS (matchB · x.name) x.xs 0 = fixS (matchB · x.name) (x.xs.drop k) k, mu := fun k => x.n - k, lv := fun k => [(0, .slice x.a x.n x.cap), (1, seV x.c1), (7, .int .i64 x.n), (8, .int .i64 k)], st := fun _ => [F] }
  | _ => none
def ixsOv (_x : IxsX) (_F : Atom) : List (Nat × Nat × OH) := [(4, 3, .qo (ixQ 1)), (4, 4, .q [.ex 0 .str]), (4, 5, .c se1C [] [])]
noncomputable def ixs_H (x : Con.X ixsC) (F : Atom) : Hints where
  op := hk ((ixsOv x F) ++ [])
  inv := ixsInv x F
  cut := (fun _ _ _ => none) x F
  ord := (fun _ => [])
open Go.Value (int slice string bool pointer agg tuple func) in
open Go.IntKind (i64) in
set_option maxRecDepth 100000 in
theorem ixs_vc (x : IxsX) (F : Atom) (hc : Con.cond ixsC x) (hr : Con.rdc ixsC x F) :
  (∃ (x_1 : Nat), (x_1 ≤ x.n ∧ fixS (fun (x_2 : ByteArray) => matchB x_2 x.name) x.xs 0 = fixS (fun (x_2 : ByteArray) => matchB x_2 x.name) (List.drop x_1 x.xs) x_1) ∧ (slice x.a x.n x.cap = slice x.a x.n x.cap ∧ func (Fn.func 108) { toList := [] } { toList := [pointer (some ⟨x.c1, 0, none⟩)] } = func (Fn.func 108) { toList := [] } { toList := [pointer (some ⟨x.c1, 0, none⟩)] } ∧ int i64 (↑x.n : Int) = int i64 (↑x.n : Int) ∧ int i64 (0 : Int) = int i64 (↑x_1 : Int) ∧ True) ∧ Ent [(0, F)] [(0, F)]) ∧
 ∀ (x_1 : Nat) (js : Nat → Value),
 x_1 ≤ x.n ∧ fixS (fun (x_2 : ByteArray) => matchB x_2 x.name) x.xs 0 = fixS (fun (x_2 : ByteArray) => matchB x_2 x.name) (List.drop x_1 x.xs) x_1 →
 Br (decide ((↑x_1 : Int) < (↑x.n : Int)))
 (QOpOk Try.prog (opIn Try.f122 4 3) (ixQ 1) ∧
 ∃ (x_2 : IxQX),
 [slice x.a x.n x.cap, int i64 (↑x_1 : Int)] = [slice (some ⟨x_2.b, x_2.o, none⟩) x_2.len x_2.cap, int i64 x_2.n] ∧
 ((0 : Int) ≤ x_2.n ∧ x_2.n < (↑x_2.len : Int)) ∧
 ∃ (s : ByteArray),
 Look F ⟨x_2.b, x_2.o + x_2.n.toNat * 1, none⟩ (string s) ∧
 FnOk Try.prog 108 se1C ∧
 true = true ∧
 ∃ (x_3 : Se1X),
 [string s, pointer (some ⟨x.c1, 0, none⟩)] = [string x_3.d, pointer (some ⟨x_3.c1, 0, none⟩)] ∧
 ([] : List Atom) = [] ∧
 x_3.d.size ≤ 4611686018427387904 ∧
 Look (Atom.pred (rest [(0, F)] [])) ⟨x_3.c1, 0, none⟩ (string x_3.name) ∧
 ∀ (y : Unit), True → Br (matchB x_3.d x_3.name) (Done ixsC x F (Ending.returned (int i64 (↑x_1 : Int))) [(0, F)]) (((-9223372036854775808 : Int) ≤ (↑x_1 : Int) + (1 : Int) ∧ (↑x_1 : Int) + (1 : Int) ≤ (9223372036854775807 : Int)) ∧ ∃ (y : Nat), (y ≤ x.n ∧ fixS (fun (x_4 : ByteArray) => matchB x_4 x.name) x.xs 0 = fixS (fun (x_4 : ByteArray) => matchB x_4 x.name) (List.drop y x.xs) y) ∧ (slice x.a x.n x.cap = slice x.a x.n x.cap ∧ func (Fn.func 108) { toList := [] } { toList := [pointer (some ⟨x.c1, 0, none⟩)] } = func (Fn.func 108) { toList := [] } { toList := [pointer (some ⟨x.c1, 0, none⟩)] } ∧ int i64 (↑x.n : Int) = int i64 (↑x.n : Int) ∧ int i64 ((↑x_1 : Int) + (1 : Int)) = int i64 (↑y : Int) ∧ True) ∧ Ent [(0, F)] [(0, F)] ∧ x.n - y < x.n - x_1))
 (Done ixsC x F (Ending.returned (int i64 (-1 : Int))) [(0, F)]) := by
  obtain ⟨c1, name, a, n, cap, xs⟩ := x
  obtain ⟨hsrc, hle, hok⟩ := hc
  obtain ⟨hr1, hr2⟩ := hr
  dsimp only at hsrc hle hok hr1 hr2
  have hlen : xs.length = n := by have := hsrc.len; rw [txts_length] at this; omega
  refine ⟨⟨0, ⟨Nat.zero_le _, rfl⟩, ⟨rfl, rfl, rfl, rfl, trivial⟩, Ent.pick [0] rfl rfl⟩, ?_⟩
  rintro k js ⟨h1, h2⟩
  dsimp only at h1 h2 ⊢
  refine br_decide (fun hlt => ?_) (fun hge => ?_)
  · obtain ⟨b1, o1, rfl⟩ := hsrc.some (by omega)
    obtain ⟨u, hu⟩ : ∃ u, xs[k]? = some u := ⟨_, List.getElem?_eq_getElem (by omega)⟩
    have e1 : o1 + (k : Int).toNat * 1 = o1 + k := by omega
    have hd : xs.drop k = u :: xs.drop (k + 1) := by
      obtain ⟨hk, rfl⟩ := List.getElem?_eq_some_iff.1 hu
      exact List.drop_eq_getElem_cons hk
    rw [hd, fixS] at h2
    refine ⟨ixq_ok 1 rfl rfl rfl rfl, ⟨b1, o1, n, cap, k⟩, rfl, by dsimp only; omega, u, by dsimp only; rw [e1]; exact hr1.look (txts_get hu), se1_ok, rfl, ⟨c1, name, u⟩, rfl, rfl, hok u (List.mem_of_getElem? hu), Look.sub (A := F) (sub_rest 0 (by simp) rfl) hr2, fun _ _ => br_intro (fun hg => ⟨(), trivial, retI ?_, Ent.pick [0] rfl rfl⟩) (fun hg => ⟨by omega, k + 1, ⟨by omega, ?_⟩, ⟨rfl, rfl, rfl, rfl, trivial⟩, Ent.pick [0] rfl rfl, by omega⟩)⟩
    · rw [h2, hg]; rfl
    · rw [h2, hg]; rfl
  · rw [List.drop_eq_nil_of_le (by omega)] at h2
    exact ⟨(), trivial, retI h2.symm, Ent.pick [0] rfl rfl⟩
set_option maxRecDepth 100000 in
theorem ixs_ok : FnOk Try.prog 122 ixsC :=
  fnOk (N := 19) (by kernel_rfl) Try.func122 rfl (by kernel_rfl) (fun _ => Nat.le_of_ble_eq_true rfl) ixs_H [] fun x F hc hr => Eq.mpr (by kernel_rfl) (ixs_vc x F hc hr)
def cfsC : Con where
  X := IxsX
  Y := Unit
  args x := [.slice x.a x.n x.cap, seV x.c1]
  pre _ := []
  cond x := IsSrc 1 (txts x.xs) x.a x.n ∧ x.n * 16 ≤ 140737488351232 ∧ ∀ u ∈ x.xs, u.size ≤ 4611686018427387904
  rdc x F := Srcd F x.a (txts x.xs) ∧ Look F ⟨x.c1, 0, none⟩ (.string x.name)
  rel _ _ := True
  val x _ := .returned (.bool (x.xs.any (matchB · x.name)))
  post _ _ := []
  rmono x A B h hk := ⟨hk.1.sub h, hk.2.sub h⟩
def cfsOv (_x : IxsX) (_F : Atom) : List (Nat × Nat × OH) := [(1, 2, .c ixsC [] [])]
noncomputable def cfs_H (x : Con.X cfsC) (F : Atom) : Hints where
  op := hk ((cfsOv x F) ++ [])
  inv := (fun _ _ _ => none) x F
  cut := (fun _ _ _ => none) x F
  ord := (fun _ => [])
open Go.Value (int slice string bool pointer agg tuple func) in
open Go.IntKind (i64) in
set_option maxRecDepth 100000 in
theorem cfs_vc (x : IxsX) (F : Atom) (hc : Con.cond cfsC x) (hr : Con.rdc cfsC x F) :
  FnOk Try.prog 122 ixsC ∧ true = true ∧ ∃ (x_1 : IxsX), [slice x.a x.n x.cap, func (Fn.func 108) { toList := [] } { toList := [pointer (some ⟨x.c1, 0, none⟩)] }] = [slice x_1.a x_1.n x_1.cap, func (Fn.func 108) { toList := [] } { toList := [pointer (some ⟨x_1.c1, 0, none⟩)] }] ∧ ([] : List Atom) = [] ∧ (IsSrc 1 (txts x_1.xs) x_1.a x_1.n ∧ x_1.n * 16 ≤ 140737488351232 ∧ ∀ (u : ByteArray), u ∈ x_1.xs → u.size ≤ 4611686018427387904) ∧ (Srcd (Atom.pred (rest [(0, F)] [])) x_1.a (txts x_1.xs) ∧ Look (Atom.pred (rest [(0, F)] [])) ⟨x_1.c1, 0, none⟩ (string x_1.name)) ∧ ∀ (y : Unit), True → Done cfsC x F (Ending.returned (bool (decide (fixS (fun (x : ByteArray) => matchB x x_1.name) x_1.xs 0 ≥ (0 : Int))))) [(0, F)] := by
  have s : Sub F (.pred (rest [(0, F)] [])) := sub_rest 0 (by simp) rfl
  exact ⟨ixs_ok, rfl, x, rfl, rfl, hc, ⟨hr.1.sub s, hr.2.sub s⟩, fun _ _ => ⟨(), trivial, retB (fixS_any _ _ 0), Ent.pick [0] rfl rfl⟩⟩
set_option maxRecDepth 100000 in
theorem cfs_ok : FnOk Try.prog 107 cfsC :=
  fnOk (N := 9) (by kernel_rfl) Try.func107 rfl (by kernel_rfl) (fun _ => Nat.le_of_ble_eq_true rfl) cfs_H [] fun x F hc hr => Eq.mpr (by kernel_rfl) (cfs_vc x F hc hr)
structure SelX where
  a : Option Addr
  n : Nat
  cap : Nat
  xs : List ByteArray
  name : ByteArray
  ev : Bool
/-- Does an event, or none, ask for a transition of these descriptors? -/
def fitB (xs : List ByteArray) (name : ByteArray) (ev : Bool) : Bool := bif ev then xs.any (matchB · name) else xs.isEmpty
def selC : Con where
  X := SelX
  Y := Unit
  args x := [.slice x.a x.n x.cap, .string x.name, .bool x.ev]
  pre _ := []
  cond x := IsSrc 1 (txts x.xs) x.a x.n ∧ x.n * 16 ≤ 140737488351232 ∧ ∀ u ∈ x.xs, u.size ≤ 4611686018427387904
  rdc x F := Srcd F x.a (txts x.xs)
  rel _ _ := True
  val x _ := .returned (.bool (fitB x.xs x.name x.ev))
  post _ _ := []
  rmono x A B h hk := hk.sub h
def selOv (_x : SelX) (_F : Atom) : List (Nat × Nat × OH) := [(0, 0, .n 1000), (3, 2, .c cfsC [] [])]
noncomputable def sel_H (x : Con.X selC) (F : Atom) : Hints where
  op := hk ((selOv x F) ++ [])
  inv := (fun _ _ _ => none) x F
  cut := (fun _ _ _ => none) x F
  ord := (fun _ => [])
open Go.Value (int slice string bool pointer agg tuple func) in
open Go.IntKind (i64) in
set_option maxRecDepth 100000 in
theorem sel_vc (x : SelX) (F : Atom) (hc : Con.cond selC x) (hr : Con.rdc selC x F) :
  ∀ (b : Nat),
 Br (!x.ev) (Done selC x F (Ending.returned (bool ((↑x.n : Int) == (0 : Int)))) [(0, F), (1000, Atom.cells b [string x.name] 9)])
 (FnOk Try.prog 107 cfsC ∧
 true = true ∧
 ∃ (x_1 : IxsX),
 [slice x.a x.n x.cap, func (Fn.func 108) { toList := [] } { toList := [pointer (some ⟨b, 0, none⟩)] }] = [slice x_1.a x_1.n x_1.cap, func (Fn.func 108) { toList := [] } { toList := [pointer (some ⟨x_1.c1, 0, none⟩)] }] ∧ ([] : List Atom) = [] ∧ (IsSrc 1 (txts x_1.xs) x_1.a x_1.n ∧ x_1.n * 16 ≤ 140737488351232 ∧ ∀ (u : ByteArray), u ∈ x_1.xs → u.size ≤ 4611686018427387904) ∧ (Srcd (Atom.pred (rest [(0, F), (1000, Atom.cells b [string x.name] 9)] [])) x_1.a (txts x_1.xs) ∧ Look (Atom.pred (rest [(0, F), (1000, Atom.cells b [string x.name] 9)] [])) ⟨x_1.c1, 0, none⟩ (string x_1.name)) ∧ ∀ (y : Unit), True → Done selC x F (Ending.returned (bool (x_1.xs.any fun (x : ByteArray) => matchB x x_1.name))) [(0, F), (1000, Atom.cells b [string x.name] 9)]) := by
  obtain ⟨a, n, cap, xs, name, ev⟩ := x
  obtain ⟨hsrc, hle, hok⟩ := hc
  dsimp only at hsrc hle hok
  have hlen : xs.length = n := by have := hsrc.len; rw [txts_length] at this; omega
  intro b
  refine br_intro (fun h => ⟨(), trivial, retB ?_, Ent.pick [0] rfl rfl⟩) (fun h => ⟨cfs_ok, rfl, ⟨b, name, a, n, cap, xs⟩, rfl, rfl, ⟨hsrc, hle, hok⟩, ⟨Srcd.sub (A := F) (sub_rest 0 (by simp) rfl) hr, Look.rest (j := 1000) (by simp) (Look.cells rfl)⟩, fun _ _ => ⟨(), trivial, retB ?_, Ent.pick [0] rfl rfl⟩⟩)
  · have he : ev = false := by simpa using h
    unfold fitB
    rw [he, cond_false]
    cases xs with
    | nil => simp at hlen; subst hlen; rfl
    | cons u r => simp at hlen; subst hlen; simp; omega
  · have he : ev = true := by simpa using h
    unfold fitB
    rw [he, cond_true]
set_option maxRecDepth 100000 in
theorem sel_ok : FnOk Try.prog 85 selC :=
  fnOk (N := 15) (by kernel_rfl) Try.func85 rfl (by kernel_rfl) (fun _ => Nat.le_of_ble_eq_true rfl) sel_H [] fun x F hc hr => Eq.mpr (by kernel_rfl) (sel_vc x F hc hr)
end Go.Proofs.Ytkmdgnbfojkcnaa
