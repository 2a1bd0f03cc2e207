/- Two charts that are the same, part 1: their parts. -/
import Derived.Test.YtfmadkaiigiaiaaLatO
import Derived.Laws.StructEq
set_option linter.all false
namespace Go.Proofs.Ytfmadkaiigiaiaa
open Go
set_option maxHeartbeats 1000000
theorem br_no {t : Bool} {A B : Prop} (h : t = false) (b : B) : Br t A B := br_intro (fun e => by rw [h] at e; cases e) (fun _ => b)
theorem int_get {F : Atom} {a : Option Addr} {n cap : Nat} {xs : List Int} (h : IntsIn F (.slice a n cap) xs) {i : Nat} {u : Int} (hu : xs[i]? = some u) : ∃ b o, a = some ⟨b, o, none⟩ ∧ Look F ⟨b, o + (i : Int).toNat * 1, none⟩ (.int .i64 u) := by
  obtain ⟨h1, h2, -, -, h5⟩ := IntsIn.srcd h
  have hi := (List.getElem?_eq_some_iff.1 hu).1
  obtain ⟨b, o, rfl⟩ := h1.some (by omega)
  refine ⟨b, o, rfl, ?_⟩
  have : o + (i : Int).toNat * 1 = o + i := by omega
  rw [this]
  exact h2.look (ints_get hu)
def neqP : QCon where
  X := ByteArray × ByteArray
  args x := [.agg #[.string x.1, .string x.2], .agg #[.string x.1, .string x.2]]
  cond _ := True
  val _ := .bool false
theorem neqP_ok {o : Oper} {x y : Operand} {rt : TypeId} (ho : o.op = .binOp .neq 105 x y rt) : QOpOk Try.prog o neqP := by
  refine ⟨fun X w ρ ha hc => ?_⟩
  simp only [ho, Op.operands, neqP] at ha
  obtain ⟨hx, hy⟩ : ρ x = .agg #[.string X.1, .string X.2] ∧ ρ y = .agg #[.string X.1, .string X.2] := by simpa using ha
  have hS : Try.prog.underlying 105 = some (.struct (Try.prog.fieldsOf 105)) := by kernel_rfl
  have hp : Try.prog.stoodInHeld 105 = false := by kernel_rfl
  have hg : Try.prog.eqGuardType Try.prog.depth 105 = false := by kernel_rfl
  have he : (Op.equalIn (9999 + 1) 105 (.agg #[.string X.1, .string X.2]) (.agg #[.string X.1, .string X.2])).run Try.prog w = .ok true w := by
    rw [run_equalIn_agg w 9999 105 _ _ hS hp]
    have hf : ((Try.prog.fieldsOf 105).toList.map fun f => (f.name, f.type, f.offset)) = [("Name", 9, 0), ("Expr", 9, 1)] := by kernel_rfl
    have h9 : Try.prog.underlying 9 = some .string := by kernel_rfl
    revert hf
    generalize (Try.prog.fieldsOf 105).toList = fs
    intro hf
    rcases fs with _ | ⟨f1, _ | ⟨f2, _ | ⟨f3, r⟩⟩⟩ <;> simp at hf
    obtain ⟨⟨n1, t1, o1⟩, ⟨n2, t2, o2⟩⟩ := hf
    simp only [Op.eqFields, n1, t1, o1, n2, t2, o2]
    have e9 : ∀ (a b : ByteArray) (w : World), (Op.equalIn 9999 9 (.string a) (.string b)).run Try.prog w = .ok (a.toList == b.toList) w := fun a b w => run_equalIn_string w 9998 9 a b h9
    go_simp
  simp [execOp, ho, hx, hy, run_eqGuard_agg _ _ _ _ _ _ _ hg, run_neq_struct, he, neqP]
def neqD : QCon where
  X := DatD
  args x := [.agg #[.string x.id, .string x.expr, .string x.text], .agg #[.string x.id, .string x.expr, .string x.text]]
  cond _ := True
  val _ := .bool false
theorem neqD_ok {o : Oper} {x y : Operand} {rt : TypeId} (ho : o.op = .binOp .neq 88 x y rt) : QOpOk Try.prog o neqD := by
  refine ⟨fun X w ρ ha hc => ?_⟩
  simp only [ho, Op.operands, neqD] at ha
  obtain ⟨hx, hy⟩ : ρ x = .agg #[.string X.id, .string X.expr, .string X.text] ∧ ρ y = .agg #[.string X.id, .string X.expr, .string X.text] := by simpa using ha
  have hS : Try.prog.underlying 88 = some (.struct (Try.prog.fieldsOf 88)) := by kernel_rfl
  have hp : Try.prog.stoodInHeld 88 = false := by kernel_rfl
  have hg : Try.prog.eqGuardType Try.prog.depth 88 = false := by kernel_rfl
  have he : (Op.equalIn (9999 + 1) 88 (.agg #[.string X.id, .string X.expr, .string X.text]) (.agg #[.string X.id, .string X.expr, .string X.text])).run Try.prog w = .ok true w := by
    rw [run_equalIn_agg w 9999 88 _ _ hS hp]
    have hf : ((Try.prog.fieldsOf 88).toList.map fun f => (f.name, f.type, f.offset)) = [("Id", 9, 0), ("Expr", 9, 1), ("Text", 9, 2)] := by kernel_rfl
    have h9 : Try.prog.underlying 9 = some .string := by kernel_rfl
    revert hf
    generalize (Try.prog.fieldsOf 88).toList = fs
    intro hf
    rcases fs with _ | ⟨f1, _ | ⟨f2, _ | ⟨f3, _ | ⟨f4, r⟩⟩⟩⟩ <;> simp at hf
    obtain ⟨⟨n1, t1, o1⟩, ⟨n2, t2, o2⟩, ⟨n3, t3, o3⟩⟩ := hf
    simp only [Op.eqFields, n1, t1, o1, n2, t2, o2, n3, t3, o3]
    have e9 : ∀ (a b : ByteArray) (w : World), (Op.equalIn 9999 9 (.string a) (.string b)).run Try.prog w = .ok (a.toList == b.toList) w := fun a b w => run_equalIn_string w 9998 9 a b h9
    go_simp
  simp [execOp, ho, hx, hy, run_eqGuard_agg _ _ _ _ _ _ _ hg, run_neq_struct, he, neqD]
structure SiX where
  s1 : Sl
  s2 : Sl
  xs : List Int
def siC : Con where
  X := SiX
  Y := Unit
  args x := [.slice x.s1.a x.s1.n x.s1.cap, .slice x.s2.a x.s2.n x.s2.cap]
  pre _ := []
  cond _ := True
  rdc x F := IntsIn F (.slice x.s1.a x.s1.n x.s1.cap) x.xs ∧ IntsIn F (.slice x.s2.a x.s2.n x.s2.cap) x.xs
  rel _ _ := True
  val _ _ := .returned (.bool true)
  post _ _ := []
  rmono _ _ _ h hk := ⟨hk.1.sub h, hk.2.sub h⟩
def siInv (x : SiX) (F : Atom) : Nat → Option Inv := fun
  | 0 => some { X := Nat, P := fun k => k ≤ x.xs.length, mu := fun k => x.xs.length - k, lv := fun k => [(0, .slice x.s1.a x.s1.n x.s1.cap), (1, .slice x.s2.a x.s2.n x.s2.cap), (5, .int .i64 k)], st := fun _ => [F] }
  | _ => none
def siOv (_x : SiX) (_F : Atom) : List (Nat × Nat × OH) := [(6, 2, .qo (ixQ 1)), (6, 3, .q [.ex 0 (.int .i64)]), (6, 6, .qo (ixQ 1)), (6, 7, .q [.ex 0 (.int .i64)])]
noncomputable def si_H (x : Con.X siC) (F : Atom) : Hints where
  op := hk ((siOv x F) ++ [])
  inv := siInv x F
  cut := (fun _ _ _ => none) x F
  ord := (fun _ => [])
open Go.Value (int slice string bool pointer agg tuple func) in
open Go.IntKind (i64) in
set_option maxRecDepth 100000 in
theorem si_vc (x : SiX) (F : Atom) (hc : Con.cond siC x) (hr : Con.rdc siC x F) :
  Br ((↑x.s1.n : Int) != (↑x.s2.n : Int)) (Done siC x F (Ending.returned (bool false)) [(0, F)])
 ((∃ (x_1 : Nat), x_1 ≤ x.xs.length ∧ (slice x.s1.a x.s1.n x.s1.cap = slice x.s1.a x.s1.n x.s1.cap ∧ slice x.s2.a x.s2.n x.s2.cap = slice x.s2.a x.s2.n x.s2.cap ∧ int i64 (0 : Int) = int i64 (↑x_1 : Int) ∧ True) ∧ Ent [(0, F)] [(0, F)]) ∧
 ∀ (x_1 : Nat) (js : Nat → Value),
 x_1 ≤ x.xs.length →
 Br (decide ((↑x_1 : Int) < (↑x.s1.n : Int)))
 (true = true ∧
 QOpOk Try.prog (opIn Try.f27 6 2) (ixQ 1) ∧
 ∃ (x_2 : IxQX),
 [slice x.s1.a x.s1.n x.s1.cap, int i64 (↑x_1 : Int)] = [slice (some ⟨x_2.b, x_2.o, none⟩) x_2.len x_2.cap, int i64 x_2.n] ∧
 ((0 : Int) ≤ x_2.n ∧ x_2.n < (↑x_2.len : Int)) ∧
 ∃ (n : Int),
 Look F ⟨x_2.b, x_2.o + x_2.n.toNat * 1, none⟩ (int i64 n) ∧
 QOpOk Try.prog (opIn Try.f27 6 6) (ixQ 1) ∧ ∃ (x_3 : IxQX), [slice x.s2.a x.s2.n x.s2.cap, int i64 (↑x_1 : Int)] = [slice (some ⟨x_3.b, x_3.o, none⟩) x_3.len x_3.cap, int i64 x_3.n] ∧ ((0 : Int) ≤ x_3.n ∧ x_3.n < (↑x_3.len : Int)) ∧ ∃ (n_1 : Int), Look F ⟨x_3.b, x_3.o + x_3.n.toNat * 1, none⟩ (int i64 n_1) ∧ Br (n != n_1) (Done siC x F (Ending.returned (bool false)) [(0, F)]) (((-9223372036854775808 : Int) ≤ (↑x_1 : Int) + (1 : Int) ∧ (↑x_1 : Int) + (1 : Int) ≤ (9223372036854775807 : Int)) ∧ ∃ (y : Nat), y ≤ x.xs.length ∧ (slice x.s1.a x.s1.n x.s1.cap = slice x.s1.a x.s1.n x.s1.cap ∧ slice x.s2.a x.s2.n x.s2.cap = slice x.s2.a x.s2.n x.s2.cap ∧ int i64 ((↑x_1 : Int) + (1 : Int)) = int i64 (↑y : Int) ∧ True) ∧ Ent [(0, F)] [(0, F)] ∧ x.xs.length - y < x.xs.length - x_1))
 (Done siC x F (Ending.returned (bool true)) [(0, F)])) := by
  obtain ⟨⟨a1, n1, c1⟩, ⟨a2, n2, c2⟩, xs⟩ := x
  obtain ⟨h1, h2⟩ := hr
  dsimp only at h1 h2
  obtain ⟨e1, -, l1⟩ := SlIn.num h1
  obtain ⟨e2, -, l2⟩ := SlIn.num h2
  refine br_no (by simp; omega) ⟨⟨0, Nat.zero_le _, ⟨rfl, rfl, rfl, trivial⟩, Ent.pick [0] rfl rfl⟩, ?_⟩
  rintro k js hk
  dsimp only at hk ⊢
  refine br_decide (fun hlt => ?_) (fun hge => ⟨(), trivial, rfl, Ent.pick [0] rfl rfl⟩)
  obtain ⟨u, hu⟩ : ∃ u, xs[k]? = some u := ⟨_, List.getElem?_eq_getElem (by omega)⟩
  obtain ⟨b1, o1, rfl, k1⟩ := int_get h1 hu
  obtain ⟨b2, o2, rfl, k2⟩ := int_get h2 hu
  exact ⟨rfl, ixq_ok 1 rfl rfl rfl rfl, ⟨b1, o1, n1, c1, k⟩, rfl, by dsimp only; omega, u, k1, ixq_ok 1 rfl rfl rfl rfl, ⟨b2, o2, n2, c2, k⟩, rfl, by dsimp only; omega, u, k2, br_no (by simp) ⟨by omega, k + 1, by omega, ⟨rfl, rfl, rfl, trivial⟩, Ent.pick [0] rfl rfl, by omega⟩⟩
set_option maxRecDepth 100000 in
theorem si_ok : FnOk Try.prog 27 siC :=
  fnOk (N := 26) (by kernel_rfl) Try.func27 rfl (by kernel_rfl) (fun _ => Nat.le_of_ble_eq_true rfl) si_H [] fun x F hc hr => Eq.mpr (by kernel_rfl) (si_vc x F hc hr)
def siIOv (_x : SiX) (_F : Atom) : List (Nat × Nat × OH) := [(1, 2, .c siC [] [])]
noncomputable def siI_H (x : Con.X siC) (F : Atom) : Hints where
  op := hk ((siIOv x F) ++ [])
  inv := (fun _ _ _ => none) x F
  cut := (fun _ _ _ => none) x F
  ord := (fun _ => [])
open Go.Value (int slice string bool pointer agg tuple func) in
open Go.IntKind (i64) in
set_option maxRecDepth 100000 in
theorem siI_vc (x : SiX) (F : Atom) (hc : Con.cond siC x) (hr : Con.rdc siC x F) :
  FnOk Try.prog 27 siC ∧ true = true ∧ ∃ (x_1 : SiX), [slice x.s1.a x.s1.n x.s1.cap, slice x.s2.a x.s2.n x.s2.cap] = [slice x_1.s1.a x_1.s1.n x_1.s1.cap, slice x_1.s2.a x_1.s2.n x_1.s2.cap] ∧ ([] : List Atom) = [] ∧ True ∧ (IntsIn (Atom.pred (rest [(0, F)] [])) (slice x_1.s1.a x_1.s1.n x_1.s1.cap) x_1.xs ∧ IntsIn (Atom.pred (rest [(0, F)] [])) (slice x_1.s2.a x_1.s2.n x_1.s2.cap) x_1.xs) ∧ ∀ (y : Unit), True → Done siC x F (Ending.returned (bool true)) [(0, F)] := by
  obtain ⟨h1, h2⟩ := hr
  exact ⟨si_ok, rfl, x, rfl, rfl, trivial, ⟨h1.sub (sub_rest 0 (by simp) rfl), h2.sub (sub_rest 0 (by simp) rfl)⟩, fun _ _ => ⟨(), trivial, rfl, Ent.pick [0] rfl rfl⟩⟩
set_option maxRecDepth 100000 in
theorem siI_ok : FnOk Try.prog 80 siC :=
  fnOk (N := 8) (by kernel_rfl) Try.func80 rfl (by kernel_rfl) (fun _ => Nat.le_of_ble_eq_true rfl) siI_H [] fun x F hc hr => Eq.mpr (by kernel_rfl) (siI_vc x F hc hr)
structure StX where
  s1 : Sl
  s2 : Sl
  xs : List ByteArray
def stxC : Con where
  X := StX
  Y := Unit
  args x := [.slice x.s1.a x.s1.n x.s1.cap, .slice x.s2.a x.s2.n x.s2.cap]
  pre _ := []
  cond _ := True
  rdc x F := StrsIn F (.slice x.s1.a x.s1.n x.s1.cap) x.xs ∧ StrsIn F (.slice x.s2.a x.s2.n x.s2.cap) x.xs
  rel _ _ := True
  val _ _ := .returned (.bool true)
  post _ _ := []
  rmono _ _ _ h hk := ⟨hk.1.sub h, hk.2.sub h⟩
def stxInv (x : StX) (F : Atom) : Nat → Option Inv := fun
  | 0 => some { X := Nat, P := fun k => k ≤ x.xs.length, mu := fun k => x.xs.length - k, lv := fun k => [(0, .slice x.s1.a x.s1.n x.s1.cap), (1, .slice x.s2.a x.s2.n x.s2.cap), (5, .int .i64 k)], st := fun _ => [F] }
  | _ => none
def stxOv (_x : StX) (_F : Atom) : List (Nat × Nat × OH) := [(6, 2, .qo (ixQ 1)), (6, 3, .q [.ex 0 .str]), (6, 6, .qo (ixQ 1)), (6, 7, .q [.ex 0 .str])]
noncomputable def stx_H (x : Con.X stxC) (F : Atom) : Hints where
  op := hk ((stxOv x F) ++ [])
  inv := stxInv x F
  cut := (fun _ _ _ => none) x F
  ord := (fun _ => [])
open Go.Value (int slice string bool pointer agg tuple func) in
open Go.IntKind (i64) in
set_option maxRecDepth 100000 in
theorem stx_vc (x : StX) (F : Atom) (hc : Con.cond stxC x) (hr : Con.rdc stxC x F) :
  Br ((↑x.s1.n : Int) != (↑x.s2.n : Int)) (Done stxC x F (Ending.returned (bool false)) [(0, F)])
 ((∃ (x_1 : Nat), x_1 ≤ x.xs.length ∧ (slice x.s1.a x.s1.n x.s1.cap = slice x.s1.a x.s1.n x.s1.cap ∧ slice x.s2.a x.s2.n x.s2.cap = slice x.s2.a x.s2.n x.s2.cap ∧ int i64 (0 : Int) = int i64 (↑x_1 : Int) ∧ True) ∧ Ent [(0, F)] [(0, F)]) ∧
 ∀ (x_1 : Nat) (js : Nat → Value),
 x_1 ≤ x.xs.length →
 Br (decide ((↑x_1 : Int) < (↑x.s1.n : Int)))
 (true = true ∧
 QOpOk Try.prog (opIn Try.f82 6 2) (ixQ 1) ∧
 ∃ (x_2 : IxQX),
 [slice x.s1.a x.s1.n x.s1.cap, int i64 (↑x_1 : Int)] = [slice (some ⟨x_2.b, x_2.o, none⟩) x_2.len x_2.cap, int i64 x_2.n] ∧
 ((0 : Int) ≤ x_2.n ∧ x_2.n < (↑x_2.len : Int)) ∧
 ∃ (s : ByteArray),
 Look F ⟨x_2.b, x_2.o + x_2.n.toNat * 1, none⟩ (string s) ∧
 QOpOk Try.prog (opIn Try.f82 6 6) (ixQ 1) ∧
 ∃ (x_3 : IxQX), [slice x.s2.a x.s2.n x.s2.cap, int i64 (↑x_1 : Int)] = [slice (some ⟨x_3.b, x_3.o, none⟩) x_3.len x_3.cap, int i64 x_3.n] ∧ ((0 : Int) ≤ x_3.n ∧ x_3.n < (↑x_3.len : Int)) ∧ ∃ (s_1 : ByteArray), Look F ⟨x_3.b, x_3.o + x_3.n.toNat * 1, none⟩ (string s_1) ∧ Br (!s.toList == s_1.toList) (Done stxC x F (Ending.returned (bool false)) [(0, F)]) (((-9223372036854775808 : Int) ≤ (↑x_1 : Int) + (1 : Int) ∧ (↑x_1 : Int) + (1 : Int) ≤ (9223372036854775807 : Int)) ∧ ∃ (y : Nat), y ≤ x.xs.length ∧ (slice x.s1.a x.s1.n x.s1.cap = slice x.s1.a x.s1.n x.s1.cap ∧ slice x.s2.a x.s2.n x.s2.cap = slice x.s2.a x.s2.n x.s2.cap ∧ int i64 ((↑x_1 : Int) + (1 : Int)) = int i64 (↑y : Int) ∧ True) ∧ Ent [(0, F)] [(0, F)] ∧ x.xs.length - y < x.xs.length - x_1))
 (Done stxC x F (Ending.returned (bool true)) [(0, F)])) := by
  obtain ⟨⟨a1, n1, c1⟩, ⟨a2, n2, c2⟩, xs⟩ := x
  obtain ⟨h1, h2⟩ := hr
  dsimp only at h1 h2
  obtain ⟨e1, -, l1⟩ := SlIn.num h1
  obtain ⟨e2, -, l2⟩ := SlIn.num h2
  refine br_no (by simp; omega) ⟨⟨0, Nat.zero_le _, ⟨rfl, rfl, rfl, trivial⟩, Ent.pick [0] rfl rfl⟩, ?_⟩
  rintro k js hk
  dsimp only at hk ⊢
  refine br_decide (fun hlt => ?_) (fun hge => ⟨(), trivial, rfl, Ent.pick [0] rfl rfl⟩)
  obtain ⟨u, hu⟩ : ∃ u, xs[k]? = some u := ⟨_, List.getElem?_eq_getElem (by omega)⟩
  obtain ⟨b1, o1, r1, rfl, hr1, k1⟩ := SlIn.at' h1 hu
  obtain ⟨b2, o2, r2, rfl, hr2, k2⟩ := SlIn.at' h2 hu
  have k1 := k1 0 (.string u) (by rw [hr1]; rfl)
  have k2 := k2 0 (.string u) (by rw [hr2]; rfl)
  exact ⟨rfl, ixq_ok 1 rfl rfl rfl rfl, ⟨b1, o1, n1, c1, k⟩, rfl, by dsimp only; omega, u, k1, ixq_ok 1 rfl rfl rfl rfl, ⟨b2, o2, n2, c2, k⟩, rfl, by dsimp only; omega, u, k2, br_no (by simp) ⟨by omega, k + 1, by omega, ⟨rfl, rfl, rfl, trivial⟩, Ent.pick [0] rfl rfl, by omega⟩⟩
set_option maxRecDepth 100000 in
theorem stx_ok : FnOk Try.prog 82 stxC :=
  fnOk (N := 26) (by kernel_rfl) Try.func82 rfl (by kernel_rfl) (fun _ => Nat.le_of_ble_eq_true rfl) stx_H [] fun x F hc hr => Eq.mpr (by kernel_rfl) (stx_vc x F hc hr)
structure SlX where
  l : LoadD
  s1 : Sl
  s2 : Sl
def slC : Con where
  X := SlX
  Y := Unit
  args x := [.agg #[.int .i64 x.l.kind, .slice x.s1.a x.s1.n x.s1.cap, .string x.l.body], .agg #[.int .i64 x.l.kind, .slice x.s2.a x.s2.n x.s2.cap, .string x.l.body]]
  pre _ := []
  cond _ := True
  rdc x F := ParsIn F (.slice x.s1.a x.s1.n x.s1.cap) x.l.params ∧ ParsIn F (.slice x.s2.a x.s2.n x.s2.cap) x.l.params
  rel _ _ := True
  val _ _ := .returned (.bool true)
  post _ _ := []
  rmono _ _ _ h hk := ⟨hk.1.sub h, hk.2.sub h⟩
structure SlI where
  k : Nat
  b1 : Nat
  b2 : Nat
def slInv (x : SlX) (F : Atom) : Nat → Option Inv := fun
  | 0 => some { X := SlI, P := fun i => i.k ≤ x.l.params.length, mu := fun i => x.l.params.length - i.k, lv := fun i => [(2, .pointer (some ⟨i.b1, 0, none⟩)), (3, .pointer (some ⟨i.b2, 0, none⟩)), (5, .int .i64 i.k)], st := fun i => [F, .cells i.b1 [.int .i64 x.l.kind, .slice x.s1.a x.s1.n x.s1.cap, .string x.l.body] 59, .cells i.b2 [.int .i64 x.l.kind, .slice x.s2.a x.s2.n x.s2.cap, .string x.l.body] 59] }
  | _ => none
def sh2 : List LH := [.ex 0 .str, .ex 0 .str]
def slOv (_x : SlX) (_F : Atom) : List (Nat × Nat × OH) := [(0, 0, .n 1000), (0, 1, .n 1010), (1, 1, .q [.atj 1000]), (1, 3, .q [.atj 1010]), (1, 7, .q [.atj 1000]), (1, 9, .q [.atj 1010]), (1, 14, .q [.atj 1000]), (1, 17, .q [.atj 1010]), (4, 2, .q [.atj 1]), (6, 1, .q [.atj 1]), (6, 3, .qo (ixQ 2)), (6, 4, .q sh2), (6, 6, .q [.atj 2]), (6, 8, .qo (ixQ 2)), (6, 9, .q sh2), (6, 10, .qo neqP)]
noncomputable def sl_H (x : Con.X slC) (F : Atom) : Hints where
  op := hk ((slOv x F) ++ [])
  inv := slInv x F
  cut := (fun _ _ _ => none) x F
  ord := (fun _ => [])
open Go.Value (int slice string bool pointer agg tuple func) in
open Go.IntKind (i64) in
set_option maxRecDepth 100000 in
theorem sl_vc (x : SlX) (F : Atom) (hc : Con.cond slC x) (hr : Con.rdc slC x F) :
  ∀ (b b_1 : Nat),
 Same ⟨b, 0, none⟩ b ∧
 Same ⟨b_1, 0, none⟩ b_1 ∧
 Br (x.l.kind != x.l.kind) (Done slC x F (Ending.returned (bool false)) [(0, F), (1000, Atom.cells b [int i64 x.l.kind, slice x.s1.a x.s1.n x.s1.cap, string x.l.body] 59), (1010, Atom.cells b_1 [int i64 x.l.kind, slice x.s2.a x.s2.n x.s2.cap, string x.l.body] 59)])
 (Same ⟨b, 2, none⟩ b ∧
 Same ⟨b_1, 2, none⟩ b_1 ∧
 Br (!x.l.body.toList == x.l.body.toList) (Done slC x F (Ending.returned (bool false)) [(0, F), (1000, Atom.cells b [int i64 x.l.kind, slice x.s1.a x.s1.n x.s1.cap, string x.l.body] 59), (1010, Atom.cells b_1 [int i64 x.l.kind, slice x.s2.a x.s2.n x.s2.cap, string x.l.body] 59)])
 (Same ⟨b, 1, none⟩ b ∧
 Same ⟨b_1, 1, none⟩ b_1 ∧
 Br ((↑x.s1.n : Int) != (↑x.s2.n : Int)) (Done slC x F (Ending.returned (bool false)) [(0, F), (1000, Atom.cells b [int i64 x.l.kind, slice x.s1.a x.s1.n x.s1.cap, string x.l.body] 59), (1010, Atom.cells b_1 [int i64 x.l.kind, slice x.s2.a x.s2.n x.s2.cap, string x.l.body] 59)])
 ((∃ (x_1 : SlI), x_1.k ≤ x.l.params.length ∧ (pointer (some ⟨b, 0, none⟩) = pointer (some ⟨x_1.b1, 0, none⟩) ∧ pointer (some ⟨b_1, 0, none⟩) = pointer (some ⟨x_1.b2, 0, none⟩) ∧ int i64 (0 : Int) = int i64 (↑x_1.k : Int) ∧ True) ∧ Ent [(0, F), (1000, Atom.cells b [int i64 x.l.kind, slice x.s1.a x.s1.n x.s1.cap, string x.l.body] 59), (1010, Atom.cells b_1 [int i64 x.l.kind, slice x.s2.a x.s2.n x.s2.cap, string x.l.body] 59)] [(0, F), (1, Atom.cells x_1.b1 [int i64 x.l.kind, slice x.s1.a x.s1.n x.s1.cap, string x.l.body] 59), (2, Atom.cells x_1.b2 [int i64 x.l.kind, slice x.s2.a x.s2.n x.s2.cap, string x.l.body] 59)]) ∧
 ∀ (x_1 : SlI) (js : Nat → Value),
 x_1.k ≤ x.l.params.length →
 Same ⟨x_1.b1, 1, none⟩ x_1.b1 ∧
 Br (decide ((↑x_1.k : Int) < (↑x.s1.n : Int)))
 (true = true ∧
 Same ⟨x_1.b1, 1, none⟩ x_1.b1 ∧
 QOpOk Try.prog (opIn Try.f81 6 3) (ixQ 2) ∧
 ∃ (x_2 : IxQX),
 [slice x.s1.a x.s1.n x.s1.cap, int i64 (↑x_1.k : Int)] = [slice (some ⟨x_2.b, x_2.o, none⟩) x_2.len x_2.cap, int i64 x_2.n] ∧
 ((0 : Int) ≤ x_2.n ∧ x_2.n < (↑x_2.len : Int)) ∧
 ∃ (s : ByteArray),
 Look F ⟨x_2.b, x_2.o + x_2.n.toNat * 2, none⟩ (string s) ∧
 ∃ (s_1 : ByteArray),
 Look F ⟨x_2.b, x_2.o + x_2.n.toNat * 2 + 1, none⟩ (string s_1) ∧
 Same ⟨x_1.b2, 1, none⟩ x_1.b2 ∧
 QOpOk Try.prog (opIn Try.f81 6 8) (ixQ 2) ∧
 ∃ (x_3 : IxQX),
 [slice x.s2.a x.s2.n x.s2.cap, int i64 (↑x_1.k : Int)] = [slice (some ⟨x_3.b, x_3.o, none⟩) x_3.len x_3.cap, int i64 x_3.n] ∧
 ((0 : Int) ≤ x_3.n ∧ x_3.n < (↑x_3.len : Int)) ∧
 ∃ (s_2 : ByteArray),
 Look F ⟨x_3.b, x_3.o + x_3.n.toNat * 2, none⟩ (string s_2) ∧
 ∃ (s_3 : ByteArray),
 Look F ⟨x_3.b, x_3.o + x_3.n.toNat * 2 + 1, none⟩ (string s_3) ∧
 QOpOk Try.prog (opIn Try.f81 6 10) neqP ∧
 ∃ (x_4 : ByteArray × ByteArray),
 [agg { toList := [string s, string s_1] }, agg { toList := [string s_2, string s_3] }] = [agg { toList := [string x_4.fst, string x_4.snd] }, agg { toList := [string x_4.fst, string x_4.snd] }] ∧
 True ∧
 ((-9223372036854775808 : Int) ≤ (↑x_1.k : Int) + (1 : Int) ∧ (↑x_1.k : Int) + (1 : Int) ≤ (9223372036854775807 : Int)) ∧
 ∃ (y : SlI),
 y.k ≤ x.l.params.length ∧
 (pointer (some ⟨x_1.b1, 0, none⟩) = pointer (some ⟨y.b1, 0, none⟩) ∧ pointer (some ⟨x_1.b2, 0, none⟩) = pointer (some ⟨y.b2, 0, none⟩) ∧ int i64 ((↑x_1.k : Int) + (1 : Int)) = int i64 (↑y.k : Int) ∧ True) ∧
 Ent [(0, F), (1, Atom.cells x_1.b1 [int i64 x.l.kind, slice x.s1.a x.s1.n x.s1.cap, string x.l.body] 59), (2, Atom.cells x_1.b2 [int i64 x.l.kind, slice x.s2.a x.s2.n x.s2.cap, string x.l.body] 59)] [(0, F), (1, Atom.cells y.b1 [int i64 x.l.kind, slice x.s1.a x.s1.n x.s1.cap, string x.l.body] 59), (2, Atom.cells y.b2 [int i64 x.l.kind, slice x.s2.a x.s2.n x.s2.cap, string x.l.body] 59)] ∧ x.l.params.length - y.k < x.l.params.length - x_1.k)
 (Done slC x F (Ending.returned (bool true)) [(0, F), (1, Atom.cells x_1.b1 [int i64 x.l.kind, slice x.s1.a x.s1.n x.s1.cap, string x.l.body] 59), (2, Atom.cells x_1.b2 [int i64 x.l.kind, slice x.s2.a x.s2.n x.s2.cap, string x.l.body] 59)])))) := by
  obtain ⟨l, ⟨a1, n1, c1⟩, ⟨a2, n2, c2⟩⟩ := x
  obtain ⟨h1, h2⟩ := hr
  dsimp only at h1 h2
  obtain ⟨e1, -, l1⟩ := SlIn.num h1
  obtain ⟨e2, -, l2⟩ := SlIn.num h2
  refine fun b1 b2 => ⟨⟨rfl, rfl⟩, ⟨rfl, rfl⟩, br_no (by simp) ⟨⟨rfl, rfl⟩, ⟨rfl, rfl⟩, br_no (by simp) ⟨⟨rfl, rfl⟩, ⟨rfl, rfl⟩, br_no (by simp; omega) ⟨⟨⟨0, b1, b2⟩, Nat.zero_le _, ⟨rfl, rfl, rfl, trivial⟩, Ent.pick [0, 1000, 1010] rfl rfl⟩, ?_⟩⟩⟩⟩
  clear b1 b2
  rintro ⟨k, b1, b2⟩ js hk
  dsimp only at hk ⊢
  refine ⟨⟨rfl, rfl⟩, br_decide (fun hlt => ?_) (fun hge => ⟨(), trivial, rfl, Ent.pick [0] rfl rfl⟩)⟩
  obtain ⟨u, hu⟩ : ∃ u, l.params[k]? = some u := ⟨_, List.getElem?_eq_getElem (by omega)⟩
  obtain ⟨pb1, o1, r1, rfl, hr1, k1⟩ := SlIn.at' h1 hu
  obtain ⟨pb2, o2, r2, rfl, hr2, k2⟩ := SlIn.at' h2 hu
  have k10 := k1 0 (.string u.1) (by rw [hr1]; rfl)
  have k11 := k1 1 (.string u.2) (by rw [hr1]; rfl)
  have k20 := k2 0 (.string u.1) (by rw [hr2]; rfl)
  have k21 := k2 1 (.string u.2) (by rw [hr2]; rfl)
  refine ⟨rfl, ⟨rfl, rfl⟩, ixq_ok 2 rfl rfl rfl rfl, ⟨pb1, o1, n1, c1, k⟩, rfl, by dsimp only; omega, u.1, k10, u.2, k11, ⟨rfl, rfl⟩, ixq_ok 2 rfl rfl rfl rfl, ⟨pb2, o2, n2, c2, k⟩, rfl, by dsimp only; omega, u.1, k20, u.2, k21, neqP_ok rfl, u, rfl, trivial, by omega, ⟨k + 1, b1, b2⟩, by dsimp only; omega, ⟨rfl, rfl, rfl, trivial⟩, Ent.pick [0, 1, 2] rfl rfl, by dsimp only; omega⟩
set_option maxRecDepth 100000 in
theorem sl_ok : FnOk Try.prog 81 slC :=
  fnOk (N := 45) (by kernel_rfl) Try.func81 rfl (by kernel_rfl) (fun _ => Nat.le_of_ble_eq_true rfl) sl_H [] fun x F hc hr => Eq.mpr (by kernel_rfl) (sl_vc x F hc hr)
structure sSX where
  s : StD
  k1 : Sl
  e1 : Sl
  x1 : Sl
  t1 : Sl
  d1 : Sl
  i1 : Sl
  p1 : Sl
  k2 : Sl
  e2 : Sl
  x2 : Sl
  t2 : Sl
  d2 : Sl
  i2 : Sl
  p2 : Sl
def sSC : Con where
  X := sSX
  Y := Unit
  args x := [.agg #[.string x.s.id, .int .i64 x.s.kind, .int .i64 x.s.parent, .slice x.k1.a x.k1.n x.k1.cap, .int .i64 x.s.init, .slice x.e1.a x.e1.n x.e1.cap, .slice x.x1.a x.x1.n x.x1.cap, .slice x.t1.a x.t1.n x.t1.cap, .slice x.d1.a x.d1.n x.d1.cap, .slice x.i1.a x.i1.n x.i1.cap, .int .i64 x.s.done.kind, .slice x.p1.a x.p1.n x.p1.cap, .string x.s.done.body], .agg #[.string x.s.id, .int .i64 x.s.kind, .int .i64 x.s.parent, .slice x.k2.a x.k2.n x.k2.cap, .int .i64 x.s.init, .slice x.e2.a x.e2.n x.e2.cap, .slice x.x2.a x.x2.n x.x2.cap, .slice x.t2.a x.t2.n x.t2.cap, .slice x.d2.a x.d2.n x.d2.cap, .slice x.i2.a x.i2.n x.i2.cap, .int .i64 x.s.done.kind, .slice x.p2.a x.p2.n x.p2.cap, .string x.s.done.body]]
  pre _ := []
  cond _ := True
  rdc x F := IntsIn F (.slice x.k1.a x.k1.n x.k1.cap) x.s.kids ∧ IntsIn F (.slice x.k2.a x.k2.n x.k2.cap) x.s.kids ∧ IntsIn F (.slice x.e1.a x.e1.n x.e1.cap) x.s.entry ∧ IntsIn F (.slice x.e2.a x.e2.n x.e2.cap) x.s.entry ∧ IntsIn F (.slice x.x1.a x.x1.n x.x1.cap) x.s.exit ∧ IntsIn F (.slice x.x2.a x.x2.n x.x2.cap) x.s.exit ∧ IntsIn F (.slice x.t1.a x.t1.n x.t1.cap) x.s.trans ∧ IntsIn F (.slice x.t2.a x.t2.n x.t2.cap) x.s.trans ∧ IntsIn F (.slice x.d1.a x.d1.n x.d1.cap) x.s.data ∧ IntsIn F (.slice x.d2.a x.d2.n x.d2.cap) x.s.data ∧ IntsIn F (.slice x.i1.a x.i1.n x.i1.cap) x.s.invs ∧ IntsIn F (.slice x.i2.a x.i2.n x.i2.cap) x.s.invs ∧ ParsIn F (.slice x.p1.a x.p1.n x.p1.cap) x.s.done.params ∧ ParsIn F (.slice x.p2.a x.p2.n x.p2.cap) x.s.done.params
  rel _ _ := True
  val _ _ := .returned (.bool true)
  post _ _ := []
  rmono _ _ _ h hk := ⟨hk.1.sub h, hk.2.1.sub h, hk.2.2.1.sub h, hk.2.2.2.1.sub h, hk.2.2.2.2.1.sub h, hk.2.2.2.2.2.1.sub h, hk.2.2.2.2.2.2.1.sub h, hk.2.2.2.2.2.2.2.1.sub h, hk.2.2.2.2.2.2.2.2.1.sub h, hk.2.2.2.2.2.2.2.2.2.1.sub h, hk.2.2.2.2.2.2.2.2.2.2.1.sub h, hk.2.2.2.2.2.2.2.2.2.2.2.1.sub h, hk.2.2.2.2.2.2.2.2.2.2.2.2.1.sub h, hk.2.2.2.2.2.2.2.2.2.2.2.2.2.sub h⟩
def sSOv (_x : sSX) (_F : Atom) : List (Nat × Nat × OH) := [(0, 0, .n 1000), (0, 1, .n 1010), (1, 1, .q [.atj 1000]), (1, 3, .q [.atj 1010]), (1, 7, .q [.atj 1000]), (1, 9, .q [.atj 1010]), (1, 14, .q [.atj 1000]), (1, 16, .q [.atj 1010]), (1, 21, .q [.atj 1000]), (1, 23, .q [.atj 1010]), (1, 24, .c siC [] []), (1, 28, .q [.atj 1000]), (1, 30, .q [.atj 1010]), (1, 35, .q [.atj 1000]), (1, 37, .q [.atj 1010]), (1, 38, .c siC [] []), (1, 42, .q [.atj 1000]), (1, 44, .q [.atj 1010]), (1, 45, .c siC [] []), (1, 49, .q [.atj 1000]), (1, 51, .q [.atj 1010]), (1, 52, .c siC [] []), (1, 56, .q [.atj 1000]), (1, 58, .q [.atj 1010]), (1, 59, .c siC [] []), (1, 63, .q [.atj 1000]), (1, 65, .q [.atj 1010]), (1, 66, .c siC [] []), (1, 70, .q (at3 1000)), (1, 72, .q (at3 1010)), (1, 73, .c slC [] [])]
noncomputable def sS_H (x : Con.X sSC) (F : Atom) : Hints where
  op := hk ((sSOv x F) ++ [])
  inv := (fun _ _ _ => none) x F
  cut := (fun _ _ _ => none) x F
  ord := (fun _ => [])
open Go.Value (int slice string bool pointer agg tuple func) in
open Go.IntKind (i64) in
set_option maxRecDepth 100000 in
theorem sS_vc (x : sSX) (F : Atom) (hc : Con.cond sSC x) (hr : Con.rdc sSC x F) :
  ∀ (b b_1 : Nat),
 Same ⟨b, 0, none⟩ b ∧
 Same ⟨b_1, 0, none⟩ b_1 ∧
 Br (x.s.id.toList == x.s.id.toList)
 (Same ⟨b, 1, none⟩ b ∧
 Same ⟨b_1, 1, none⟩ b_1 ∧
 Br (x.s.kind == x.s.kind)
 (Same ⟨b, 2, none⟩ b ∧
 Same ⟨b_1, 2, none⟩ b_1 ∧
 Br (x.s.parent == x.s.parent)
 (Same ⟨b, 3, none⟩ b ∧
 Same ⟨b_1, 3, none⟩ b_1 ∧
 FnOk Try.prog 80 siC ∧
 true = true ∧
 ∃ (x_1 : SiX),
 [slice x.k1.a x.k1.n x.k1.cap, slice x.k2.a x.k2.n x.k2.cap] = [slice x_1.s1.a x_1.s1.n x_1.s1.cap, slice x_1.s2.a x_1.s2.n x_1.s2.cap] ∧
 ([] : List Atom) = [] ∧
 True ∧
 (IntsIn
 (Atom.pred
 (rest
 [(0, F), (1000, Atom.cells b [string x.s.id, int i64 x.s.kind, int i64 x.s.parent, slice x.k1.a x.k1.n x.k1.cap, int i64 x.s.init, slice x.e1.a x.e1.n x.e1.cap, slice x.x1.a x.x1.n x.x1.cap, slice x.t1.a x.t1.n x.t1.cap, slice x.d1.a x.d1.n x.d1.cap, slice x.i1.a x.i1.n x.i1.cap, int i64 x.s.done.kind, slice x.p1.a x.p1.n x.p1.cap, string x.s.done.body] 61),
 (1010, Atom.cells b_1 [string x.s.id, int i64 x.s.kind, int i64 x.s.parent, slice x.k2.a x.k2.n x.k2.cap, int i64 x.s.init, slice x.e2.a x.e2.n x.e2.cap, slice x.x2.a x.x2.n x.x2.cap, slice x.t2.a x.t2.n x.t2.cap, slice x.d2.a x.d2.n x.d2.cap, slice x.i2.a x.i2.n x.i2.cap, int i64 x.s.done.kind, slice x.p2.a x.p2.n x.p2.cap, string x.s.done.body] 61)]
 []))
 (slice x_1.s1.a x_1.s1.n x_1.s1.cap) x_1.xs ∧
 IntsIn
 (Atom.pred
 (rest
 [(0, F), (1000, Atom.cells b [string x.s.id, int i64 x.s.kind, int i64 x.s.parent, slice x.k1.a x.k1.n x.k1.cap, int i64 x.s.init, slice x.e1.a x.e1.n x.e1.cap, slice x.x1.a x.x1.n x.x1.cap, slice x.t1.a x.t1.n x.t1.cap, slice x.d1.a x.d1.n x.d1.cap, slice x.i1.a x.i1.n x.i1.cap, int i64 x.s.done.kind, slice x.p1.a x.p1.n x.p1.cap, string x.s.done.body] 61),
 (1010, Atom.cells b_1 [string x.s.id, int i64 x.s.kind, int i64 x.s.parent, slice x.k2.a x.k2.n x.k2.cap, int i64 x.s.init, slice x.e2.a x.e2.n x.e2.cap, slice x.x2.a x.x2.n x.x2.cap, slice x.t2.a x.t2.n x.t2.cap, slice x.d2.a x.d2.n x.d2.cap, slice x.i2.a x.i2.n x.i2.cap, int i64 x.s.done.kind, slice x.p2.a x.p2.n x.p2.cap, string x.s.done.body] 61)]
 []))
 (slice x_1.s2.a x_1.s2.n x_1.s2.cap) x_1.xs) ∧
 ∀ (y : Unit),
 True →
 Same ⟨b, 4, none⟩ b ∧
 Same ⟨b_1, 4, none⟩ b_1 ∧
 Br (x.s.init == x.s.init)
 (Same ⟨b, 5, none⟩ b ∧
 Same ⟨b_1, 5, none⟩ b_1 ∧
 FnOk Try.prog 80 siC ∧
 true = true ∧
 ∃ (x_2 : SiX),
 [slice x.e1.a x.e1.n x.e1.cap, slice x.e2.a x.e2.n x.e2.cap] = [slice x_2.s1.a x_2.s1.n x_2.s1.cap, slice x_2.s2.a x_2.s2.n x_2.s2.cap] ∧
 ([] : List Atom) = [] ∧
 True ∧
 (IntsIn
 (Atom.pred
 (rest
 [(0, F), (1000, Atom.cells b [string x.s.id, int i64 x.s.kind, int i64 x.s.parent, slice x.k1.a x.k1.n x.k1.cap, int i64 x.s.init, slice x.e1.a x.e1.n x.e1.cap, slice x.x1.a x.x1.n x.x1.cap, slice x.t1.a x.t1.n x.t1.cap, slice x.d1.a x.d1.n x.d1.cap, slice x.i1.a x.i1.n x.i1.cap, int i64 x.s.done.kind, slice x.p1.a x.p1.n x.p1.cap, string x.s.done.body] 61),
 (1010, Atom.cells b_1 [string x.s.id, int i64 x.s.kind, int i64 x.s.parent, slice x.k2.a x.k2.n x.k2.cap, int i64 x.s.init, slice x.e2.a x.e2.n x.e2.cap, slice x.x2.a x.x2.n x.x2.cap, slice x.t2.a x.t2.n x.t2.cap, slice x.d2.a x.d2.n x.d2.cap, slice x.i2.a x.i2.n x.i2.cap, int i64 x.s.done.kind, slice x.p2.a x.p2.n x.p2.cap, string x.s.done.body] 61)]
 []))
 (slice x_2.s1.a x_2.s1.n x_2.s1.cap) x_2.xs ∧
 IntsIn
 (Atom.pred
 (rest
 [(0, F), (1000, Atom.cells b [string x.s.id, int i64 x.s.kind, int i64 x.s.parent, slice x.k1.a x.k1.n x.k1.cap, int i64 x.s.init, slice x.e1.a x.e1.n x.e1.cap, slice x.x1.a x.x1.n x.x1.cap, slice x.t1.a x.t1.n x.t1.cap, slice x.d1.a x.d1.n x.d1.cap, slice x.i1.a x.i1.n x.i1.cap, int i64 x.s.done.kind, slice x.p1.a x.p1.n x.p1.cap, string x.s.done.body] 61),
 (1010, Atom.cells b_1 [string x.s.id, int i64 x.s.kind, int i64 x.s.parent, slice x.k2.a x.k2.n x.k2.cap, int i64 x.s.init, slice x.e2.a x.e2.n x.e2.cap, slice x.x2.a x.x2.n x.x2.cap, slice x.t2.a x.t2.n x.t2.cap, slice x.d2.a x.d2.n x.d2.cap, slice x.i2.a x.i2.n x.i2.cap, int i64 x.s.done.kind, slice x.p2.a x.p2.n x.p2.cap, string x.s.done.body] 61)]
 []))
 (slice x_2.s2.a x_2.s2.n x_2.s2.cap) x_2.xs) ∧
 ∀ (y : Unit),
 True →
 Same ⟨b, 6, none⟩ b ∧
 Same ⟨b_1, 6, none⟩ b_1 ∧
 FnOk Try.prog 80 siC ∧
 true = true ∧
 ∃ (x_3 : SiX),
 [slice x.x1.a x.x1.n x.x1.cap, slice x.x2.a x.x2.n x.x2.cap] = [slice x_3.s1.a x_3.s1.n x_3.s1.cap, slice x_3.s2.a x_3.s2.n x_3.s2.cap] ∧
 ([] : List Atom) = [] ∧
 True ∧
 (IntsIn
 (Atom.pred
 (rest
 [(0, F), (1000, Atom.cells b [string x.s.id, int i64 x.s.kind, int i64 x.s.parent, slice x.k1.a x.k1.n x.k1.cap, int i64 x.s.init, slice x.e1.a x.e1.n x.e1.cap, slice x.x1.a x.x1.n x.x1.cap, slice x.t1.a x.t1.n x.t1.cap, slice x.d1.a x.d1.n x.d1.cap, slice x.i1.a x.i1.n x.i1.cap, int i64 x.s.done.kind, slice x.p1.a x.p1.n x.p1.cap, string x.s.done.body] 61),
 (1010, Atom.cells b_1 [string x.s.id, int i64 x.s.kind, int i64 x.s.parent, slice x.k2.a x.k2.n x.k2.cap, int i64 x.s.init, slice x.e2.a x.e2.n x.e2.cap, slice x.x2.a x.x2.n x.x2.cap, slice x.t2.a x.t2.n x.t2.cap, slice x.d2.a x.d2.n x.d2.cap, slice x.i2.a x.i2.n x.i2.cap, int i64 x.s.done.kind, slice x.p2.a x.p2.n x.p2.cap, string x.s.done.body] 61)]
 []))
 (slice x_3.s1.a x_3.s1.n x_3.s1.cap) x_3.xs ∧
 IntsIn
 (Atom.pred
 (rest
 [(0, F), (1000, Atom.cells b [string x.s.id, int i64 x.s.kind, int i64 x.s.parent, slice x.k1.a x.k1.n x.k1.cap, int i64 x.s.init, slice x.e1.a x.e1.n x.e1.cap, slice x.x1.a x.x1.n x.x1.cap, slice x.t1.a x.t1.n x.t1.cap, slice x.d1.a x.d1.n x.d1.cap, slice x.i1.a x.i1.n x.i1.cap, int i64 x.s.done.kind, slice x.p1.a x.p1.n x.p1.cap, string x.s.done.body] 61),
 (1010, Atom.cells b_1 [string x.s.id, int i64 x.s.kind, int i64 x.s.parent, slice x.k2.a x.k2.n x.k2.cap, int i64 x.s.init, slice x.e2.a x.e2.n x.e2.cap, slice x.x2.a x.x2.n x.x2.cap, slice x.t2.a x.t2.n x.t2.cap, slice x.d2.a x.d2.n x.d2.cap, slice x.i2.a x.i2.n x.i2.cap, int i64 x.s.done.kind, slice x.p2.a x.p2.n x.p2.cap, string x.s.done.body] 61)]
 []))
 (slice x_3.s2.a x_3.s2.n x_3.s2.cap) x_3.xs) ∧
 ∀ (y : Unit),
 True →
 Same ⟨b, 7, none⟩ b ∧
 Same ⟨b_1, 7, none⟩ b_1 ∧
 FnOk Try.prog 80 siC ∧
 true = true ∧
 ∃ (x_4 : SiX),
 [slice x.t1.a x.t1.n x.t1.cap, slice x.t2.a x.t2.n x.t2.cap] = [slice x_4.s1.a x_4.s1.n x_4.s1.cap, slice x_4.s2.a x_4.s2.n x_4.s2.cap] ∧
 ([] : List Atom) = [] ∧
 True ∧
 (IntsIn
 (Atom.pred
 (rest
 [(0, F), (1000, Atom.cells b [string x.s.id, int i64 x.s.kind, int i64 x.s.parent, slice x.k1.a x.k1.n x.k1.cap, int i64 x.s.init, slice x.e1.a x.e1.n x.e1.cap, slice x.x1.a x.x1.n x.x1.cap, slice x.t1.a x.t1.n x.t1.cap, slice x.d1.a x.d1.n x.d1.cap, slice x.i1.a x.i1.n x.i1.cap, int i64 x.s.done.kind, slice x.p1.a x.p1.n x.p1.cap, string x.s.done.body] 61),
 (1010, Atom.cells b_1 [string x.s.id, int i64 x.s.kind, int i64 x.s.parent, slice x.k2.a x.k2.n x.k2.cap, int i64 x.s.init, slice x.e2.a x.e2.n x.e2.cap, slice x.x2.a x.x2.n x.x2.cap, slice x.t2.a x.t2.n x.t2.cap, slice x.d2.a x.d2.n x.d2.cap, slice x.i2.a x.i2.n x.i2.cap, int i64 x.s.done.kind, slice x.p2.a x.p2.n x.p2.cap, string x.s.done.body] 61)]
 []))
 (slice x_4.s1.a x_4.s1.n x_4.s1.cap) x_4.xs ∧
 IntsIn
 (Atom.pred
 (rest
 [(0, F), (1000, Atom.cells b [string x.s.id, int i64 x.s.kind, int i64 x.s.parent, slice x.k1.a x.k1.n x.k1.cap, int i64 x.s.init, slice x.e1.a x.e1.n x.e1.cap, slice x.x1.a x.x1.n x.x1.cap, slice x.t1.a x.t1.n x.t1.cap, slice x.d1.a x.d1.n x.d1.cap, slice x.i1.a x.i1.n x.i1.cap, int i64 x.s.done.kind, slice x.p1.a x.p1.n x.p1.cap, string x.s.done.body] 61),
 (1010, Atom.cells b_1 [string x.s.id, int i64 x.s.kind, int i64 x.s.parent, slice x.k2.a x.k2.n x.k2.cap, int i64 x.s.init, slice x.e2.a x.e2.n x.e2.cap, slice x.x2.a x.x2.n x.x2.cap, slice x.t2.a x.t2.n x.t2.cap, slice x.d2.a x.d2.n x.d2.cap, slice x.i2.a x.i2.n x.i2.cap, int i64 x.s.done.kind, slice x.p2.a x.p2.n x.p2.cap, string x.s.done.body] 61)]
 []))
 (slice x_4.s2.a x_4.s2.n x_4.s2.cap) x_4.xs) ∧
 ∀ (y : Unit),
 True →
 Same ⟨b, 8, none⟩ b ∧
 Same ⟨b_1, 8, none⟩ b_1 ∧
 FnOk Try.prog 80 siC ∧
 true = true ∧
 ∃ (x_5 : SiX),
 [slice x.d1.a x.d1.n x.d1.cap, slice x.d2.a x.d2.n x.d2.cap] = [slice x_5.s1.a x_5.s1.n x_5.s1.cap, slice x_5.s2.a x_5.s2.n x_5.s2.cap] ∧
 ([] : List Atom) = [] ∧
 True ∧
 (IntsIn
 (Atom.pred
 (rest
 [(0, F), (1000, Atom.cells b [string x.s.id, int i64 x.s.kind, int i64 x.s.parent, slice x.k1.a x.k1.n x.k1.cap, int i64 x.s.init, slice x.e1.a x.e1.n x.e1.cap, slice x.x1.a x.x1.n x.x1.cap, slice x.t1.a x.t1.n x.t1.cap, slice x.d1.a x.d1.n x.d1.cap, slice x.i1.a x.i1.n x.i1.cap, int i64 x.s.done.kind, slice x.p1.a x.p1.n x.p1.cap, string x.s.done.body] 61),
 (1010, Atom.cells b_1 [string x.s.id, int i64 x.s.kind, int i64 x.s.parent, slice x.k2.a x.k2.n x.k2.cap, int i64 x.s.init, slice x.e2.a x.e2.n x.e2.cap, slice x.x2.a x.x2.n x.x2.cap, slice x.t2.a x.t2.n x.t2.cap, slice x.d2.a x.d2.n x.d2.cap, slice x.i2.a x.i2.n x.i2.cap, int i64 x.s.done.kind, slice x.p2.a x.p2.n x.p2.cap, string x.s.done.body] 61)]
 []))
 (slice x_5.s1.a x_5.s1.n x_5.s1.cap) x_5.xs ∧
 IntsIn
 (Atom.pred
 (rest
 [(0, F), (1000, Atom.cells b [string x.s.id, int i64 x.s.kind, int i64 x.s.parent, slice x.k1.a x.k1.n x.k1.cap, int i64 x.s.init, slice x.e1.a x.e1.n x.e1.cap, slice x.x1.a x.x1.n x.x1.cap, slice x.t1.a x.t1.n x.t1.cap, slice x.d1.a x.d1.n x.d1.cap, slice x.i1.a x.i1.n x.i1.cap, int i64 x.s.done.kind, slice x.p1.a x.p1.n x.p1.cap, string x.s.done.body] 61),
 (1010, Atom.cells b_1 [string x.s.id, int i64 x.s.kind, int i64 x.s.parent, slice x.k2.a x.k2.n x.k2.cap, int i64 x.s.init, slice x.e2.a x.e2.n x.e2.cap, slice x.x2.a x.x2.n x.x2.cap, slice x.t2.a x.t2.n x.t2.cap, slice x.d2.a x.d2.n x.d2.cap, slice x.i2.a x.i2.n x.i2.cap, int i64 x.s.done.kind, slice x.p2.a x.p2.n x.p2.cap, string x.s.done.body] 61)]
 []))
 (slice x_5.s2.a x_5.s2.n x_5.s2.cap) x_5.xs) ∧
 ∀ (y : Unit),
 True →
 Same ⟨b, 9, none⟩ b ∧
 Same ⟨b_1, 9, none⟩ b_1 ∧
 FnOk Try.prog 80 siC ∧
 true = true ∧
 ∃ (x_6 : SiX),
 [slice x.i1.a x.i1.n x.i1.cap, slice x.i2.a x.i2.n x.i2.cap] = [slice x_6.s1.a x_6.s1.n x_6.s1.cap, slice x_6.s2.a x_6.s2.n x_6.s2.cap] ∧
 ([] : List Atom) = [] ∧
 True ∧
 (IntsIn
 (Atom.pred
 (rest
 [(0, F), (1000, Atom.cells b [string x.s.id, int i64 x.s.kind, int i64 x.s.parent, slice x.k1.a x.k1.n x.k1.cap, int i64 x.s.init, slice x.e1.a x.e1.n x.e1.cap, slice x.x1.a x.x1.n x.x1.cap, slice x.t1.a x.t1.n x.t1.cap, slice x.d1.a x.d1.n x.d1.cap, slice x.i1.a x.i1.n x.i1.cap, int i64 x.s.done.kind, slice x.p1.a x.p1.n x.p1.cap, string x.s.done.body] 61),
 (1010, Atom.cells b_1 [string x.s.id, int i64 x.s.kind, int i64 x.s.parent, slice x.k2.a x.k2.n x.k2.cap, int i64 x.s.init, slice x.e2.a x.e2.n x.e2.cap, slice x.x2.a x.x2.n x.x2.cap, slice x.t2.a x.t2.n x.t2.cap, slice x.d2.a x.d2.n x.d2.cap, slice x.i2.a x.i2.n x.i2.cap, int i64 x.s.done.kind, slice x.p2.a x.p2.n x.p2.cap, string x.s.done.body] 61)]
 []))
 (slice x_6.s1.a x_6.s1.n x_6.s1.cap) x_6.xs ∧
 IntsIn
 (Atom.pred
 (rest
 [(0, F), (1000, Atom.cells b [string x.s.id, int i64 x.s.kind, int i64 x.s.parent, slice x.k1.a x.k1.n x.k1.cap, int i64 x.s.init, slice x.e1.a x.e1.n x.e1.cap, slice x.x1.a x.x1.n x.x1.cap, slice x.t1.a x.t1.n x.t1.cap, slice x.d1.a x.d1.n x.d1.cap, slice x.i1.a x.i1.n x.i1.cap, int i64 x.s.done.kind, slice x.p1.a x.p1.n x.p1.cap, string x.s.done.body] 61),
 (1010, Atom.cells b_1 [string x.s.id, int i64 x.s.kind, int i64 x.s.parent, slice x.k2.a x.k2.n x.k2.cap, int i64 x.s.init, slice x.e2.a x.e2.n x.e2.cap, slice x.x2.a x.x2.n x.x2.cap, slice x.t2.a x.t2.n x.t2.cap, slice x.d2.a x.d2.n x.d2.cap, slice x.i2.a x.i2.n x.i2.cap, int i64 x.s.done.kind, slice x.p2.a x.p2.n x.p2.cap, string x.s.done.body] 61)]
 []))
 (slice x_6.s2.a x_6.s2.n x_6.s2.cap) x_6.xs) ∧
 ∀ (y : Unit),
 True →
 Same ⟨b, 10, none⟩ b ∧
 Same ⟨b, 11, none⟩ b ∧
 Same ⟨b, 12, none⟩ b ∧
 Same ⟨b_1, 10, none⟩ b_1 ∧
 Same ⟨b_1, 11, none⟩ b_1 ∧
 Same ⟨b_1, 12, none⟩ b_1 ∧
 FnOk Try.prog 81 slC ∧
 true = true ∧
 ∃ (x_7 : SlX),
 [agg { toList := [int i64 x.s.done.kind, slice x.p1.a x.p1.n x.p1.cap, string x.s.done.body] }, agg { toList := [int i64 x.s.done.kind, slice x.p2.a x.p2.n x.p2.cap, string x.s.done.body] }] = [agg { toList := [int i64 x_7.l.kind, slice x_7.s1.a x_7.s1.n x_7.s1.cap, string x_7.l.body] }, agg { toList := [int i64 x_7.l.kind, slice x_7.s2.a x_7.s2.n x_7.s2.cap, string x_7.l.body] }] ∧
 ([] : List Atom) = [] ∧
 True ∧
 (ParsIn
 (Atom.pred
 (rest
 [(0, F), (1000, Atom.cells b [string x.s.id, int i64 x.s.kind, int i64 x.s.parent, slice x.k1.a x.k1.n x.k1.cap, int i64 x.s.init, slice x.e1.a x.e1.n x.e1.cap, slice x.x1.a x.x1.n x.x1.cap, slice x.t1.a x.t1.n x.t1.cap, slice x.d1.a x.d1.n x.d1.cap, slice x.i1.a x.i1.n x.i1.cap, int i64 x.s.done.kind, slice x.p1.a x.p1.n x.p1.cap, string x.s.done.body] 61),
 (1010, Atom.cells b_1 [string x.s.id, int i64 x.s.kind, int i64 x.s.parent, slice x.k2.a x.k2.n x.k2.cap, int i64 x.s.init, slice x.e2.a x.e2.n x.e2.cap, slice x.x2.a x.x2.n x.x2.cap, slice x.t2.a x.t2.n x.t2.cap, slice x.d2.a x.d2.n x.d2.cap, slice x.i2.a x.i2.n x.i2.cap, int i64 x.s.done.kind, slice x.p2.a x.p2.n x.p2.cap, string x.s.done.body] 61)]
 []))
 (slice x_7.s1.a x_7.s1.n x_7.s1.cap) x_7.l.params ∧
 ParsIn
 (Atom.pred
 (rest
 [(0, F), (1000, Atom.cells b [string x.s.id, int i64 x.s.kind, int i64 x.s.parent, slice x.k1.a x.k1.n x.k1.cap, int i64 x.s.init, slice x.e1.a x.e1.n x.e1.cap, slice x.x1.a x.x1.n x.x1.cap, slice x.t1.a x.t1.n x.t1.cap, slice x.d1.a x.d1.n x.d1.cap, slice x.i1.a x.i1.n x.i1.cap, int i64 x.s.done.kind, slice x.p1.a x.p1.n x.p1.cap, string x.s.done.body] 61),
 (1010, Atom.cells b_1 [string x.s.id, int i64 x.s.kind, int i64 x.s.parent, slice x.k2.a x.k2.n x.k2.cap, int i64 x.s.init, slice x.e2.a x.e2.n x.e2.cap, slice x.x2.a x.x2.n x.x2.cap, slice x.t2.a x.t2.n x.t2.cap, slice x.d2.a x.d2.n x.d2.cap, slice x.i2.a x.i2.n x.i2.cap, int i64 x.s.done.kind, slice x.p2.a x.p2.n x.p2.cap, string x.s.done.body] 61)]
 []))
 (slice x_7.s2.a x_7.s2.n x_7.s2.cap) x_7.l.params) ∧
 ∀ (y : Unit),
 True →
 Done sSC x F (Ending.returned (bool true))
 [(0, F), (1000, Atom.cells b [string x.s.id, int i64 x.s.kind, int i64 x.s.parent, slice x.k1.a x.k1.n x.k1.cap, int i64 x.s.init, slice x.e1.a x.e1.n x.e1.cap, slice x.x1.a x.x1.n x.x1.cap, slice x.t1.a x.t1.n x.t1.cap, slice x.d1.a x.d1.n x.d1.cap, slice x.i1.a x.i1.n x.i1.cap, int i64 x.s.done.kind, slice x.p1.a x.p1.n x.p1.cap, string x.s.done.body] 61),
 (1010, Atom.cells b_1 [string x.s.id, int i64 x.s.kind, int i64 x.s.parent, slice x.k2.a x.k2.n x.k2.cap, int i64 x.s.init, slice x.e2.a x.e2.n x.e2.cap, slice x.x2.a x.x2.n x.x2.cap, slice x.t2.a x.t2.n x.t2.cap, slice x.d2.a x.d2.n x.d2.cap, slice x.i2.a x.i2.n x.i2.cap, int i64 x.s.done.kind, slice x.p2.a x.p2.n x.p2.cap, string x.s.done.body] 61)])
 (Done sSC x F (Ending.returned (bool false))
 [(0, F), (1000, Atom.cells b [string x.s.id, int i64 x.s.kind, int i64 x.s.parent, slice x.k1.a x.k1.n x.k1.cap, int i64 x.s.init, slice x.e1.a x.e1.n x.e1.cap, slice x.x1.a x.x1.n x.x1.cap, slice x.t1.a x.t1.n x.t1.cap, slice x.d1.a x.d1.n x.d1.cap, slice x.i1.a x.i1.n x.i1.cap, int i64 x.s.done.kind, slice x.p1.a x.p1.n x.p1.cap, string x.s.done.body] 61),
 (1010, Atom.cells b_1 [string x.s.id, int i64 x.s.kind, int i64 x.s.parent, slice x.k2.a x.k2.n x.k2.cap, int i64 x.s.init, slice x.e2.a x.e2.n x.e2.cap, slice x.x2.a x.x2.n x.x2.cap, slice x.t2.a x.t2.n x.t2.cap, slice x.d2.a x.d2.n x.d2.cap, slice x.i2.a x.i2.n x.i2.cap, int i64 x.s.done.kind, slice x.p2.a x.p2.n x.p2.cap, string x.s.done.body] 61)]))
 (Done sSC x F (Ending.returned (bool false))
 [(0, F), (1000, Atom.cells b [string x.s.id, int i64 x.s.kind, int i64 x.s.parent, slice x.k1.a x.k1.n x.k1.cap, int i64 x.s.init, slice x.e1.a x.e1.n x.e1.cap, slice x.x1.a x.x1.n x.x1.cap, slice x.t1.a x.t1.n x.t1.cap, slice x.d1.a x.d1.n x.d1.cap, slice x.i1.a x.i1.n x.i1.cap, int i64 x.s.done.kind, slice x.p1.a x.p1.n x.p1.cap, string x.s.done.body] 61), (1010, Atom.cells b_1 [string x.s.id, int i64 x.s.kind, int i64 x.s.parent, slice x.k2.a x.k2.n x.k2.cap, int i64 x.s.init, slice x.e2.a x.e2.n x.e2.cap, slice x.x2.a x.x2.n x.x2.cap, slice x.t2.a x.t2.n x.t2.cap, slice x.d2.a x.d2.n x.d2.cap, slice x.i2.a x.i2.n x.i2.cap, int i64 x.s.done.kind, slice x.p2.a x.p2.n x.p2.cap, string x.s.done.body] 61)]))
 (Done sSC x F (Ending.returned (bool false))
 [(0, F), (1000, Atom.cells b [string x.s.id, int i64 x.s.kind, int i64 x.s.parent, slice x.k1.a x.k1.n x.k1.cap, int i64 x.s.init, slice x.e1.a x.e1.n x.e1.cap, slice x.x1.a x.x1.n x.x1.cap, slice x.t1.a x.t1.n x.t1.cap, slice x.d1.a x.d1.n x.d1.cap, slice x.i1.a x.i1.n x.i1.cap, int i64 x.s.done.kind, slice x.p1.a x.p1.n x.p1.cap, string x.s.done.body] 61), (1010, Atom.cells b_1 [string x.s.id, int i64 x.s.kind, int i64 x.s.parent, slice x.k2.a x.k2.n x.k2.cap, int i64 x.s.init, slice x.e2.a x.e2.n x.e2.cap, slice x.x2.a x.x2.n x.x2.cap, slice x.t2.a x.t2.n x.t2.cap, slice x.d2.a x.d2.n x.d2.cap, slice x.i2.a x.i2.n x.i2.cap, int i64 x.s.done.kind, slice x.p2.a x.p2.n x.p2.cap, string x.s.done.body] 61)]))
 (Done sSC x F (Ending.returned (bool false))
 [(0, F), (1000, Atom.cells b [string x.s.id, int i64 x.s.kind, int i64 x.s.parent, slice x.k1.a x.k1.n x.k1.cap, int i64 x.s.init, slice x.e1.a x.e1.n x.e1.cap, slice x.x1.a x.x1.n x.x1.cap, slice x.t1.a x.t1.n x.t1.cap, slice x.d1.a x.d1.n x.d1.cap, slice x.i1.a x.i1.n x.i1.cap, int i64 x.s.done.kind, slice x.p1.a x.p1.n x.p1.cap, string x.s.done.body] 61), (1010, Atom.cells b_1 [string x.s.id, int i64 x.s.kind, int i64 x.s.parent, slice x.k2.a x.k2.n x.k2.cap, int i64 x.s.init, slice x.e2.a x.e2.n x.e2.cap, slice x.x2.a x.x2.n x.x2.cap, slice x.t2.a x.t2.n x.t2.cap, slice x.d2.a x.d2.n x.d2.cap, slice x.i2.a x.i2.n x.i2.cap, int i64 x.s.done.kind, slice x.p2.a x.p2.n x.p2.cap, string x.s.done.body] 61)]) := by
  obtain ⟨s, k1, e1, x1, t1, d1, i1, p1, k2, e2, x2, t2, d2, i2, p2⟩ := x
  obtain ⟨hk1, hk2, he1, he2, hx1, hx2, ht1, ht2, hd1, hd2, hi1, hi2, hp1, hp2⟩ := hr
  dsimp only at hk1 hk2 he1 he2 hx1 hx2 ht1 ht2 hd1 hd2 hi1 hi2 hp1 hp2
  intro b1 b2
  repeat (first | refine ⟨⟨rfl, rfl⟩, ?_⟩ | refine br_t (by simp) ?_)
  refine ⟨siI_ok, rfl, ⟨k1, k2, s.kids⟩, rfl, rfl, trivial, ⟨hk1.sub (sub_rest 0 (by simp) rfl), hk2.sub (sub_rest 0 (by simp) rfl)⟩, fun _ _ => ?_⟩
  repeat (first | refine ⟨⟨rfl, rfl⟩, ?_⟩ | refine br_t (by simp) ?_)
  refine ⟨siI_ok, rfl, ⟨e1, e2, s.entry⟩, rfl, rfl, trivial, ⟨he1.sub (sub_rest 0 (by simp) rfl), he2.sub (sub_rest 0 (by simp) rfl)⟩, fun _ _ => ?_⟩
  repeat (first | refine ⟨⟨rfl, rfl⟩, ?_⟩ | refine br_t (by simp) ?_)
  refine ⟨siI_ok, rfl, ⟨x1, x2, s.exit⟩, rfl, rfl, trivial, ⟨hx1.sub (sub_rest 0 (by simp) rfl), hx2.sub (sub_rest 0 (by simp) rfl)⟩, fun _ _ => ?_⟩
  repeat (first | refine ⟨⟨rfl, rfl⟩, ?_⟩ | refine br_t (by simp) ?_)
  refine ⟨siI_ok, rfl, ⟨t1, t2, s.trans⟩, rfl, rfl, trivial, ⟨ht1.sub (sub_rest 0 (by simp) rfl), ht2.sub (sub_rest 0 (by simp) rfl)⟩, fun _ _ => ?_⟩
  repeat (first | refine ⟨⟨rfl, rfl⟩, ?_⟩ | refine br_t (by simp) ?_)
  refine ⟨siI_ok, rfl, ⟨d1, d2, s.data⟩, rfl, rfl, trivial, ⟨hd1.sub (sub_rest 0 (by simp) rfl), hd2.sub (sub_rest 0 (by simp) rfl)⟩, fun _ _ => ?_⟩
  repeat (first | refine ⟨⟨rfl, rfl⟩, ?_⟩ | refine br_t (by simp) ?_)
  refine ⟨siI_ok, rfl, ⟨i1, i2, s.invs⟩, rfl, rfl, trivial, ⟨hi1.sub (sub_rest 0 (by simp) rfl), hi2.sub (sub_rest 0 (by simp) rfl)⟩, fun _ _ => ?_⟩
  repeat (first | refine ⟨⟨rfl, rfl⟩, ?_⟩ | refine br_t (by simp) ?_)
  refine ⟨sl_ok, rfl, ⟨s.done, p1, p2⟩, rfl, rfl, trivial, ⟨hp1.sub (sub_rest 0 (by simp) rfl), hp2.sub (sub_rest 0 (by simp) rfl)⟩, fun _ _ => ?_⟩
  exact ⟨(), trivial, rfl, Ent.pick [0] rfl rfl⟩
set_option maxRecDepth 100000 in
theorem sS_ok : FnOk Try.prog 47 sSC :=
  fnOk (N := 80) (by kernel_rfl) Try.func47 rfl (by kernel_rfl) (fun _ => Nat.le_of_ble_eq_true rfl) sS_H [] fun x F hc hr => Eq.mpr (by kernel_rfl) (sS_vc x F hc hr)
structure sTX where
  t : TrD
  e1 : Sl
  g1 : Sl
  e2 : Sl
  g2 : Sl
def sTC : Con where
  X := sTX
  Y := Unit
  args x := [.agg #[.int .i64 x.t.source, .slice x.e1.a x.e1.n x.e1.cap, .string x.t.cond, .slice x.g1.a x.g1.n x.g1.cap, .bool x.t.internal, .int .i64 x.t.block], .agg #[.int .i64 x.t.source, .slice x.e2.a x.e2.n x.e2.cap, .string x.t.cond, .slice x.g2.a x.g2.n x.g2.cap, .bool x.t.internal, .int .i64 x.t.block]]
  pre _ := []
  cond _ := True
  rdc x F := StrsIn F (.slice x.e1.a x.e1.n x.e1.cap) x.t.events ∧ StrsIn F (.slice x.e2.a x.e2.n x.e2.cap) x.t.events ∧ IntsIn F (.slice x.g1.a x.g1.n x.g1.cap) x.t.targets ∧ IntsIn F (.slice x.g2.a x.g2.n x.g2.cap) x.t.targets
  rel _ _ := True
  val _ _ := .returned (.bool true)
  post _ _ := []
  rmono _ _ _ h hk := ⟨hk.1.sub h, hk.2.1.sub h, hk.2.2.1.sub h, hk.2.2.2.sub h⟩
def sTOv (_x : sTX) (_F : Atom) : List (Nat × Nat × OH) := [(0, 0, .n 1000), (0, 1, .n 1010), (1, 1, .q [.atj 1000]), (1, 3, .q [.atj 1010]), (1, 7, .q [.atj 1000]), (1, 9, .q [.atj 1010]), (1, 10, .c stxC [] []), (1, 14, .q [.atj 1000]), (1, 16, .q [.atj 1010]), (1, 21, .q [.atj 1000]), (1, 23, .q [.atj 1010]), (1, 24, .c siC [] []), (1, 28, .q [.atj 1000]), (1, 30, .q [.atj 1010]), (1, 35, .q [.atj 1000]), (1, 37, .q [.atj 1010])]
noncomputable def sT_H (x : Con.X sTC) (F : Atom) : Hints where
  op := hk ((sTOv x F) ++ [])
  inv := (fun _ _ _ => none) x F
  cut := (fun _ _ _ => none) x F
  ord := (fun _ => [])
open Go.Value (int slice string bool pointer agg tuple func) in
open Go.IntKind (i64) in
set_option maxRecDepth 100000 in
theorem sT_vc (x : sTX) (F : Atom) (hc : Con.cond sTC x) (hr : Con.rdc sTC x F) :
  ∀ (b b_1 : Nat),
 Same ⟨b, 0, none⟩ b ∧
 Same ⟨b_1, 0, none⟩ b_1 ∧
 Br (x.t.source == x.t.source)
 (Same ⟨b, 1, none⟩ b ∧
 Same ⟨b_1, 1, none⟩ b_1 ∧
 FnOk Try.prog 82 stxC ∧
 true = true ∧
 ∃ (x_1 : StX),
 [slice x.e1.a x.e1.n x.e1.cap, slice x.e2.a x.e2.n x.e2.cap] = [slice x_1.s1.a x_1.s1.n x_1.s1.cap, slice x_1.s2.a x_1.s2.n x_1.s2.cap] ∧
 ([] : List Atom) = [] ∧
 True ∧
 (StrsIn (Atom.pred (rest [(0, F), (1000, Atom.cells b [int i64 x.t.source, slice x.e1.a x.e1.n x.e1.cap, string x.t.cond, slice x.g1.a x.g1.n x.g1.cap, bool x.t.internal, int i64 x.t.block] 74), (1010, Atom.cells b_1 [int i64 x.t.source, slice x.e2.a x.e2.n x.e2.cap, string x.t.cond, slice x.g2.a x.g2.n x.g2.cap, bool x.t.internal, int i64 x.t.block] 74)] [])) (slice x_1.s1.a x_1.s1.n x_1.s1.cap) x_1.xs ∧
 StrsIn (Atom.pred (rest [(0, F), (1000, Atom.cells b [int i64 x.t.source, slice x.e1.a x.e1.n x.e1.cap, string x.t.cond, slice x.g1.a x.g1.n x.g1.cap, bool x.t.internal, int i64 x.t.block] 74), (1010, Atom.cells b_1 [int i64 x.t.source, slice x.e2.a x.e2.n x.e2.cap, string x.t.cond, slice x.g2.a x.g2.n x.g2.cap, bool x.t.internal, int i64 x.t.block] 74)] [])) (slice x_1.s2.a x_1.s2.n x_1.s2.cap) x_1.xs) ∧
 ∀ (y : Unit),
 True →
 Same ⟨b, 2, none⟩ b ∧
 Same ⟨b_1, 2, none⟩ b_1 ∧
 Br (x.t.cond.toList == x.t.cond.toList)
 (Same ⟨b, 3, none⟩ b ∧
 Same ⟨b_1, 3, none⟩ b_1 ∧
 FnOk Try.prog 80 siC ∧
 true = true ∧
 ∃ (x_2 : SiX),
 [slice x.g1.a x.g1.n x.g1.cap, slice x.g2.a x.g2.n x.g2.cap] = [slice x_2.s1.a x_2.s1.n x_2.s1.cap, slice x_2.s2.a x_2.s2.n x_2.s2.cap] ∧
 ([] : List Atom) = [] ∧
 True ∧
 (IntsIn (Atom.pred (rest [(0, F), (1000, Atom.cells b [int i64 x.t.source, slice x.e1.a x.e1.n x.e1.cap, string x.t.cond, slice x.g1.a x.g1.n x.g1.cap, bool x.t.internal, int i64 x.t.block] 74), (1010, Atom.cells b_1 [int i64 x.t.source, slice x.e2.a x.e2.n x.e2.cap, string x.t.cond, slice x.g2.a x.g2.n x.g2.cap, bool x.t.internal, int i64 x.t.block] 74)] [])) (slice x_2.s1.a x_2.s1.n x_2.s1.cap) x_2.xs ∧
 IntsIn (Atom.pred (rest [(0, F), (1000, Atom.cells b [int i64 x.t.source, slice x.e1.a x.e1.n x.e1.cap, string x.t.cond, slice x.g1.a x.g1.n x.g1.cap, bool x.t.internal, int i64 x.t.block] 74), (1010, Atom.cells b_1 [int i64 x.t.source, slice x.e2.a x.e2.n x.e2.cap, string x.t.cond, slice x.g2.a x.g2.n x.g2.cap, bool x.t.internal, int i64 x.t.block] 74)] [])) (slice x_2.s2.a x_2.s2.n x_2.s2.cap) x_2.xs) ∧
 ∀ (y : Unit),
 True →
 Same ⟨b, 4, none⟩ b ∧
 Same ⟨b_1, 4, none⟩ b_1 ∧
 Br (x.t.internal == x.t.internal) (Same ⟨b, 5, none⟩ b ∧ Same ⟨b_1, 5, none⟩ b_1 ∧ Done sTC x F (Ending.returned (bool (x.t.block == x.t.block))) [(0, F), (1000, Atom.cells b [int i64 x.t.source, slice x.e1.a x.e1.n x.e1.cap, string x.t.cond, slice x.g1.a x.g1.n x.g1.cap, bool x.t.internal, int i64 x.t.block] 74), (1010, Atom.cells b_1 [int i64 x.t.source, slice x.e2.a x.e2.n x.e2.cap, string x.t.cond, slice x.g2.a x.g2.n x.g2.cap, bool x.t.internal, int i64 x.t.block] 74)])
 (Done sTC x F (Ending.returned (bool false)) [(0, F), (1000, Atom.cells b [int i64 x.t.source, slice x.e1.a x.e1.n x.e1.cap, string x.t.cond, slice x.g1.a x.g1.n x.g1.cap, bool x.t.internal, int i64 x.t.block] 74), (1010, Atom.cells b_1 [int i64 x.t.source, slice x.e2.a x.e2.n x.e2.cap, string x.t.cond, slice x.g2.a x.g2.n x.g2.cap, bool x.t.internal, int i64 x.t.block] 74)]))
 (Done sTC x F (Ending.returned (bool false)) [(0, F), (1000, Atom.cells b [int i64 x.t.source, slice x.e1.a x.e1.n x.e1.cap, string x.t.cond, slice x.g1.a x.g1.n x.g1.cap, bool x.t.internal, int i64 x.t.block] 74), (1010, Atom.cells b_1 [int i64 x.t.source, slice x.e2.a x.e2.n x.e2.cap, string x.t.cond, slice x.g2.a x.g2.n x.g2.cap, bool x.t.internal, int i64 x.t.block] 74)]))
 (Done sTC x F (Ending.returned (bool false)) [(0, F), (1000, Atom.cells b [int i64 x.t.source, slice x.e1.a x.e1.n x.e1.cap, string x.t.cond, slice x.g1.a x.g1.n x.g1.cap, bool x.t.internal, int i64 x.t.block] 74), (1010, Atom.cells b_1 [int i64 x.t.source, slice x.e2.a x.e2.n x.e2.cap, string x.t.cond, slice x.g2.a x.g2.n x.g2.cap, bool x.t.internal, int i64 x.t.block] 74)]) := by
  obtain ⟨t, e1, g1, e2, g2⟩ := x
  obtain ⟨he1, he2, hg1, hg2⟩ := hr
  dsimp only at he1 he2 hg1 hg2
  intro b1 b2
  repeat (first | refine ⟨⟨rfl, rfl⟩, ?_⟩ | refine br_t (by simp) ?_)
  refine ⟨stx_ok, rfl, ⟨e1, e2, t.events⟩, rfl, rfl, trivial, ⟨he1.sub (sub_rest 0 (by simp) rfl), he2.sub (sub_rest 0 (by simp) rfl)⟩, fun _ _ => ?_⟩
  repeat (first | refine ⟨⟨rfl, rfl⟩, ?_⟩ | refine br_t (by simp) ?_)
  refine ⟨siI_ok, rfl, ⟨g1, g2, t.targets⟩, rfl, rfl, trivial, ⟨hg1.sub (sub_rest 0 (by simp) rfl), hg2.sub (sub_rest 0 (by simp) rfl)⟩, fun _ _ => ?_⟩
  repeat (first | refine ⟨⟨rfl, rfl⟩, ?_⟩ | refine br_t (by simp) ?_)
  exact ⟨(), trivial, retB (by simp), Ent.pick [0] rfl rfl⟩
set_option maxRecDepth 100000 in
theorem sT_ok : FnOk Try.prog 48 sTC :=
  fnOk (N := 45) (by kernel_rfl) Try.func48 rfl (by kernel_rfl) (fun _ => Nat.le_of_ble_eq_true rfl) sT_H [] fun x F hc hr => Eq.mpr (by kernel_rfl) (sT_vc x F hc hr)
structure sAX where
  c : ActD
  q1 : Sl
  b1 : Sl
  p1 : Sl
  q2 : Sl
  b2 : Sl
  p2 : Sl
def sAC : Con where
  X := sAX
  Y := Unit
  args x := [.agg #[.int .i64 x.c.kind, .string x.c.s1, .string x.c.s2, .string x.c.s3, .string x.c.s4, .string x.c.s5, .string x.c.s6, .string x.c.s7, .int .i64 x.c.delay, .string x.c.s9, .string x.c.s10, .string x.c.s11, .string x.c.s12, .string x.c.s13, .slice x.q1.a x.q1.n x.q1.cap, .slice x.b1.a x.b1.n x.b1.cap, .int .i64 x.c.load.kind, .slice x.p1.a x.p1.n x.p1.cap, .string x.c.load.body], .agg #[.int .i64 x.c.kind, .string x.c.s1, .string x.c.s2, .string x.c.s3, .string x.c.s4, .string x.c.s5, .string x.c.s6, .string x.c.s7, .int .i64 x.c.delay, .string x.c.s9, .string x.c.s10, .string x.c.s11, .string x.c.s12, .string x.c.s13, .slice x.q2.a x.q2.n x.q2.cap, .slice x.b2.a x.b2.n x.b2.cap, .int .i64 x.c.load.kind, .slice x.p2.a x.p2.n x.p2.cap, .string x.c.load.body]]
  pre _ := []
  cond _ := True
  rdc x F := StrsIn F (.slice x.q1.a x.q1.n x.q1.cap) x.c.conds ∧ StrsIn F (.slice x.q2.a x.q2.n x.q2.cap) x.c.conds ∧ IntsIn F (.slice x.b1.a x.b1.n x.b1.cap) x.c.blocks ∧ IntsIn F (.slice x.b2.a x.b2.n x.b2.cap) x.c.blocks ∧ ParsIn F (.slice x.p1.a x.p1.n x.p1.cap) x.c.load.params ∧ ParsIn F (.slice x.p2.a x.p2.n x.p2.cap) x.c.load.params
  rel _ _ := True
  val _ _ := .returned (.bool true)
  post _ _ := []
  rmono _ _ _ h hk := ⟨hk.1.sub h, hk.2.1.sub h, hk.2.2.1.sub h, hk.2.2.2.1.sub h, hk.2.2.2.2.1.sub h, hk.2.2.2.2.2.sub h⟩
def sAOv (_x : sAX) (_F : Atom) : List (Nat × Nat × OH) := [(0, 0, .n 1000), (0, 1, .n 1010), (1, 1, .q [.atj 1000]), (1, 3, .q [.atj 1010]), (1, 7, .q [.atj 1000]), (1, 9, .q [.atj 1010]), (1, 14, .q [.atj 1000]), (1, 16, .q [.atj 1010]), (1, 21, .q [.atj 1000]), (1, 23, .q [.atj 1010]), (1, 28, .q [.atj 1000]), (1, 30, .q [.atj 1010]), (1, 35, .q [.atj 1000]), (1, 37, .q [.atj 1010]), (1, 42, .q [.atj 1000]), (1, 44, .q [.atj 1010]), (1, 49, .q [.atj 1000]), (1, 51, .q [.atj 1010]), (1, 56, .q [.atj 1000]), (1, 58, .q [.atj 1010]), (1, 63, .q [.atj 1000]), (1, 65, .q [.atj 1010]), (1, 70, .q [.atj 1000]), (1, 72, .q [.atj 1010]), (1, 77, .q [.atj 1000]), (1, 79, .q [.atj 1010]), (1, 84, .q [.atj 1000]), (1, 86, .q [.atj 1010]), (1, 91, .q [.atj 1000]), (1, 93, .q [.atj 1010]), (1, 98, .q [.atj 1000]), (1, 100, .q [.atj 1010]), (1, 101, .c stxC [] []), (1, 105, .q [.atj 1000]), (1, 107, .q [.atj 1010]), (1, 108, .c siC [] []), (1, 112, .q (at3 1000)), (1, 114, .q (at3 1010)), (1, 115, .c slC [] [])]
noncomputable def sA_H (x : Con.X sAC) (F : Atom) : Hints where
  op := hk ((sAOv x F) ++ [])
  inv := (fun _ _ _ => none) x F
  cut := (fun _ _ _ => none) x F
  ord := (fun _ => [])
open Go.Value (int slice string bool pointer agg tuple func) in
open Go.IntKind (i64) in
set_option maxRecDepth 100000 in
theorem sA_vc (x : sAX) (F : Atom) (hc : Con.cond sAC x) (hr : Con.rdc sAC x F) :
  ∀ (b b_1 : Nat),
 Same ⟨b, 0, none⟩ b ∧
 Same ⟨b_1, 0, none⟩ b_1 ∧
 Br (x.c.kind == x.c.kind)
 (Same ⟨b, 1, none⟩ b ∧
 Same ⟨b_1, 1, none⟩ b_1 ∧
 Br (x.c.s1.toList == x.c.s1.toList)
 (Same ⟨b, 2, none⟩ b ∧
 Same ⟨b_1, 2, none⟩ b_1 ∧
 Br (x.c.s2.toList == x.c.s2.toList)
 (Same ⟨b, 3, none⟩ b ∧
 Same ⟨b_1, 3, none⟩ b_1 ∧
 Br (x.c.s3.toList == x.c.s3.toList)
 (Same ⟨b, 4, none⟩ b ∧
 Same ⟨b_1, 4, none⟩ b_1 ∧
 Br (x.c.s4.toList == x.c.s4.toList)
 (Same ⟨b, 5, none⟩ b ∧
 Same ⟨b_1, 5, none⟩ b_1 ∧
 Br (x.c.s5.toList == x.c.s5.toList)
 (Same ⟨b, 6, none⟩ b ∧
 Same ⟨b_1, 6, none⟩ b_1 ∧
 Br (x.c.s6.toList == x.c.s6.toList)
 (Same ⟨b, 7, none⟩ b ∧
 Same ⟨b_1, 7, none⟩ b_1 ∧
 Br (x.c.s7.toList == x.c.s7.toList)
 (Same ⟨b, 8, none⟩ b ∧
 Same ⟨b_1, 8, none⟩ b_1 ∧
 Br (x.c.delay == x.c.delay)
 (Same ⟨b, 9, none⟩ b ∧
 Same ⟨b_1, 9, none⟩ b_1 ∧
 Br (x.c.s9.toList == x.c.s9.toList)
 (Same ⟨b, 10, none⟩ b ∧
 Same ⟨b_1, 10, none⟩ b_1 ∧
 Br (x.c.s10.toList == x.c.s10.toList)
 (Same ⟨b, 11, none⟩ b ∧
 Same ⟨b_1, 11, none⟩ b_1 ∧
 Br (x.c.s11.toList == x.c.s11.toList)
 (Same ⟨b, 12, none⟩ b ∧
 Same ⟨b_1, 12, none⟩ b_1 ∧
 Br (x.c.s12.toList == x.c.s12.toList)
 (Same ⟨b, 13, none⟩ b ∧
 Same ⟨b_1, 13, none⟩ b_1 ∧
 Br (x.c.s13.toList == x.c.s13.toList)
 (Same ⟨b, 14, none⟩ b ∧
 Same ⟨b_1, 14, none⟩ b_1 ∧
 FnOk Try.prog 82 stxC ∧
 true = true ∧
 ∃ (x_1 : StX),
 [slice x.q1.a x.q1.n x.q1.cap, slice x.q2.a x.q2.n x.q2.cap] = [slice x_1.s1.a x_1.s1.n x_1.s1.cap, slice x_1.s2.a x_1.s2.n x_1.s2.cap] ∧
 ([] : List Atom) = [] ∧
 True ∧
 (StrsIn
 (Atom.pred
 (rest
 [(0, F), (1000, Atom.cells b [int i64 x.c.kind, string x.c.s1, string x.c.s2, string x.c.s3, string x.c.s4, string x.c.s5, string x.c.s6, string x.c.s7, int i64 x.c.delay, string x.c.s9, string x.c.s10, string x.c.s11, string x.c.s12, string x.c.s13, slice x.q1.a x.q1.n x.q1.cap, slice x.b1.a x.b1.n x.b1.cap, int i64 x.c.load.kind, slice x.p1.a x.p1.n x.p1.cap, string x.c.load.body] 86),
 (1010, Atom.cells b_1 [int i64 x.c.kind, string x.c.s1, string x.c.s2, string x.c.s3, string x.c.s4, string x.c.s5, string x.c.s6, string x.c.s7, int i64 x.c.delay, string x.c.s9, string x.c.s10, string x.c.s11, string x.c.s12, string x.c.s13, slice x.q2.a x.q2.n x.q2.cap, slice x.b2.a x.b2.n x.b2.cap, int i64 x.c.load.kind, slice x.p2.a x.p2.n x.p2.cap, string x.c.load.body] 86)]
 []))
 (slice x_1.s1.a x_1.s1.n x_1.s1.cap) x_1.xs ∧
 StrsIn
 (Atom.pred
 (rest
 [(0, F), (1000, Atom.cells b [int i64 x.c.kind, string x.c.s1, string x.c.s2, string x.c.s3, string x.c.s4, string x.c.s5, string x.c.s6, string x.c.s7, int i64 x.c.delay, string x.c.s9, string x.c.s10, string x.c.s11, string x.c.s12, string x.c.s13, slice x.q1.a x.q1.n x.q1.cap, slice x.b1.a x.b1.n x.b1.cap, int i64 x.c.load.kind, slice x.p1.a x.p1.n x.p1.cap, string x.c.load.body] 86),
 (1010, Atom.cells b_1 [int i64 x.c.kind, string x.c.s1, string x.c.s2, string x.c.s3, string x.c.s4, string x.c.s5, string x.c.s6, string x.c.s7, int i64 x.c.delay, string x.c.s9, string x.c.s10, string x.c.s11, string x.c.s12, string x.c.s13, slice x.q2.a x.q2.n x.q2.cap, slice x.b2.a x.b2.n x.b2.cap, int i64 x.c.load.kind, slice x.p2.a x.p2.n x.p2.cap, string x.c.load.body] 86)]
 []))
 (slice x_1.s2.a x_1.s2.n x_1.s2.cap) x_1.xs) ∧
 ∀ (y : Unit),
 True →
 Same ⟨b, 15, none⟩ b ∧
 Same ⟨b_1, 15, none⟩ b_1 ∧
 FnOk Try.prog 80 siC ∧
 true = true ∧
 ∃ (x_2 : SiX),
 [slice x.b1.a x.b1.n x.b1.cap, slice x.b2.a x.b2.n x.b2.cap] = [slice x_2.s1.a x_2.s1.n x_2.s1.cap, slice x_2.s2.a x_2.s2.n x_2.s2.cap] ∧
 ([] : List Atom) = [] ∧
 True ∧
 (IntsIn
 (Atom.pred
 (rest
 [(0, F), (1000, Atom.cells b [int i64 x.c.kind, string x.c.s1, string x.c.s2, string x.c.s3, string x.c.s4, string x.c.s5, string x.c.s6, string x.c.s7, int i64 x.c.delay, string x.c.s9, string x.c.s10, string x.c.s11, string x.c.s12, string x.c.s13, slice x.q1.a x.q1.n x.q1.cap, slice x.b1.a x.b1.n x.b1.cap, int i64 x.c.load.kind, slice x.p1.a x.p1.n x.p1.cap, string x.c.load.body] 86),
 (1010, Atom.cells b_1 [int i64 x.c.kind, string x.c.s1, string x.c.s2, string x.c.s3, string x.c.s4, string x.c.s5, string x.c.s6, string x.c.s7, int i64 x.c.delay, string x.c.s9, string x.c.s10, string x.c.s11, string x.c.s12, string x.c.s13, slice x.q2.a x.q2.n x.q2.cap, slice x.b2.a x.b2.n x.b2.cap, int i64 x.c.load.kind, slice x.p2.a x.p2.n x.p2.cap, string x.c.load.body] 86)]
 []))
 (slice x_2.s1.a x_2.s1.n x_2.s1.cap) x_2.xs ∧
 IntsIn
 (Atom.pred
 (rest
 [(0, F), (1000, Atom.cells b [int i64 x.c.kind, string x.c.s1, string x.c.s2, string x.c.s3, string x.c.s4, string x.c.s5, string x.c.s6, string x.c.s7, int i64 x.c.delay, string x.c.s9, string x.c.s10, string x.c.s11, string x.c.s12, string x.c.s13, slice x.q1.a x.q1.n x.q1.cap, slice x.b1.a x.b1.n x.b1.cap, int i64 x.c.load.kind, slice x.p1.a x.p1.n x.p1.cap, string x.c.load.body] 86),
 (1010, Atom.cells b_1 [int i64 x.c.kind, string x.c.s1, string x.c.s2, string x.c.s3, string x.c.s4, string x.c.s5, string x.c.s6, string x.c.s7, int i64 x.c.delay, string x.c.s9, string x.c.s10, string x.c.s11, string x.c.s12, string x.c.s13, slice x.q2.a x.q2.n x.q2.cap, slice x.b2.a x.b2.n x.b2.cap, int i64 x.c.load.kind, slice x.p2.a x.p2.n x.p2.cap, string x.c.load.body] 86)]
 []))
 (slice x_2.s2.a x_2.s2.n x_2.s2.cap) x_2.xs) ∧
 ∀ (y : Unit),
 True →
 Same ⟨b, 16, none⟩ b ∧
 Same ⟨b, 17, none⟩ b ∧
 Same ⟨b, 18, none⟩ b ∧
 Same ⟨b_1, 16, none⟩ b_1 ∧
 Same ⟨b_1, 17, none⟩ b_1 ∧
 Same ⟨b_1, 18, none⟩ b_1 ∧
 FnOk Try.prog 81 slC ∧
 true = true ∧
 ∃ (x_3 : SlX),
 [agg { toList := [int i64 x.c.load.kind, slice x.p1.a x.p1.n x.p1.cap, string x.c.load.body] }, agg { toList := [int i64 x.c.load.kind, slice x.p2.a x.p2.n x.p2.cap, string x.c.load.body] }] = [agg { toList := [int i64 x_3.l.kind, slice x_3.s1.a x_3.s1.n x_3.s1.cap, string x_3.l.body] }, agg { toList := [int i64 x_3.l.kind, slice x_3.s2.a x_3.s2.n x_3.s2.cap, string x_3.l.body] }] ∧
 ([] : List Atom) = [] ∧
 True ∧
 (ParsIn
 (Atom.pred
 (rest
 [(0, F), (1000, Atom.cells b [int i64 x.c.kind, string x.c.s1, string x.c.s2, string x.c.s3, string x.c.s4, string x.c.s5, string x.c.s6, string x.c.s7, int i64 x.c.delay, string x.c.s9, string x.c.s10, string x.c.s11, string x.c.s12, string x.c.s13, slice x.q1.a x.q1.n x.q1.cap, slice x.b1.a x.b1.n x.b1.cap, int i64 x.c.load.kind, slice x.p1.a x.p1.n x.p1.cap, string x.c.load.body] 86),
 (1010, Atom.cells b_1 [int i64 x.c.kind, string x.c.s1, string x.c.s2, string x.c.s3, string x.c.s4, string x.c.s5, string x.c.s6, string x.c.s7, int i64 x.c.delay, string x.c.s9, string x.c.s10, string x.c.s11, string x.c.s12, string x.c.s13, slice x.q2.a x.q2.n x.q2.cap, slice x.b2.a x.b2.n x.b2.cap, int i64 x.c.load.kind, slice x.p2.a x.p2.n x.p2.cap, string x.c.load.body] 86)]
 []))
 (slice x_3.s1.a x_3.s1.n x_3.s1.cap) x_3.l.params ∧
 ParsIn
 (Atom.pred
 (rest
 [(0, F), (1000, Atom.cells b [int i64 x.c.kind, string x.c.s1, string x.c.s2, string x.c.s3, string x.c.s4, string x.c.s5, string x.c.s6, string x.c.s7, int i64 x.c.delay, string x.c.s9, string x.c.s10, string x.c.s11, string x.c.s12, string x.c.s13, slice x.q1.a x.q1.n x.q1.cap, slice x.b1.a x.b1.n x.b1.cap, int i64 x.c.load.kind, slice x.p1.a x.p1.n x.p1.cap, string x.c.load.body] 86),
 (1010, Atom.cells b_1 [int i64 x.c.kind, string x.c.s1, string x.c.s2, string x.c.s3, string x.c.s4, string x.c.s5, string x.c.s6, string x.c.s7, int i64 x.c.delay, string x.c.s9, string x.c.s10, string x.c.s11, string x.c.s12, string x.c.s13, slice x.q2.a x.q2.n x.q2.cap, slice x.b2.a x.b2.n x.b2.cap, int i64 x.c.load.kind, slice x.p2.a x.p2.n x.p2.cap, string x.c.load.body] 86)]
 []))
 (slice x_3.s2.a x_3.s2.n x_3.s2.cap) x_3.l.params) ∧
 ∀ (y : Unit),
 True →
 Done sAC x F (Ending.returned (bool true))
 [(0, F), (1000, Atom.cells b [int i64 x.c.kind, string x.c.s1, string x.c.s2, string x.c.s3, string x.c.s4, string x.c.s5, string x.c.s6, string x.c.s7, int i64 x.c.delay, string x.c.s9, string x.c.s10, string x.c.s11, string x.c.s12, string x.c.s13, slice x.q1.a x.q1.n x.q1.cap, slice x.b1.a x.b1.n x.b1.cap, int i64 x.c.load.kind, slice x.p1.a x.p1.n x.p1.cap, string x.c.load.body] 86),
 (1010, Atom.cells b_1 [int i64 x.c.kind, string x.c.s1, string x.c.s2, string x.c.s3, string x.c.s4, string x.c.s5, string x.c.s6, string x.c.s7, int i64 x.c.delay, string x.c.s9, string x.c.s10, string x.c.s11, string x.c.s12, string x.c.s13, slice x.q2.a x.q2.n x.q2.cap, slice x.b2.a x.b2.n x.b2.cap, int i64 x.c.load.kind, slice x.p2.a x.p2.n x.p2.cap, string x.c.load.body] 86)])
 (Done sAC x F (Ending.returned (bool false))
 [(0, F), (1000, Atom.cells b [int i64 x.c.kind, string x.c.s1, string x.c.s2, string x.c.s3, string x.c.s4, string x.c.s5, string x.c.s6, string x.c.s7, int i64 x.c.delay, string x.c.s9, string x.c.s10, string x.c.s11, string x.c.s12, string x.c.s13, slice x.q1.a x.q1.n x.q1.cap, slice x.b1.a x.b1.n x.b1.cap, int i64 x.c.load.kind, slice x.p1.a x.p1.n x.p1.cap, string x.c.load.body] 86),
 (1010, Atom.cells b_1 [int i64 x.c.kind, string x.c.s1, string x.c.s2, string x.c.s3, string x.c.s4, string x.c.s5, string x.c.s6, string x.c.s7, int i64 x.c.delay, string x.c.s9, string x.c.s10, string x.c.s11, string x.c.s12, string x.c.s13, slice x.q2.a x.q2.n x.q2.cap, slice x.b2.a x.b2.n x.b2.cap, int i64 x.c.load.kind, slice x.p2.a x.p2.n x.p2.cap, string x.c.load.body] 86)]))
 (Done sAC x F (Ending.returned (bool false))
 [(0, F), (1000, Atom.cells b [int i64 x.c.kind, string x.c.s1, string x.c.s2, string x.c.s3, string x.c.s4, string x.c.s5, string x.c.s6, string x.c.s7, int i64 x.c.delay, string x.c.s9, string x.c.s10, string x.c.s11, string x.c.s12, string x.c.s13, slice x.q1.a x.q1.n x.q1.cap, slice x.b1.a x.b1.n x.b1.cap, int i64 x.c.load.kind, slice x.p1.a x.p1.n x.p1.cap, string x.c.load.body] 86),
 (1010, Atom.cells b_1 [int i64 x.c.kind, string x.c.s1, string x.c.s2, string x.c.s3, string x.c.s4, string x.c.s5, string x.c.s6, string x.c.s7, int i64 x.c.delay, string x.c.s9, string x.c.s10, string x.c.s11, string x.c.s12, string x.c.s13, slice x.q2.a x.q2.n x.q2.cap, slice x.b2.a x.b2.n x.b2.cap, int i64 x.c.load.kind, slice x.p2.a x.p2.n x.p2.cap, string x.c.load.body] 86)]))
 (Done sAC x F (Ending.returned (bool false))
 [(0, F), (1000, Atom.cells b [int i64 x.c.kind, string x.c.s1, string x.c.s2, string x.c.s3, string x.c.s4, string x.c.s5, string x.c.s6, string x.c.s7, int i64 x.c.delay, string x.c.s9, string x.c.s10, string x.c.s11, string x.c.s12, string x.c.s13, slice x.q1.a x.q1.n x.q1.cap, slice x.b1.a x.b1.n x.b1.cap, int i64 x.c.load.kind, slice x.p1.a x.p1.n x.p1.cap, string x.c.load.body] 86),
 (1010, Atom.cells b_1 [int i64 x.c.kind, string x.c.s1, string x.c.s2, string x.c.s3, string x.c.s4, string x.c.s5, string x.c.s6, string x.c.s7, int i64 x.c.delay, string x.c.s9, string x.c.s10, string x.c.s11, string x.c.s12, string x.c.s13, slice x.q2.a x.q2.n x.q2.cap, slice x.b2.a x.b2.n x.b2.cap, int i64 x.c.load.kind, slice x.p2.a x.p2.n x.p2.cap, string x.c.load.body] 86)]))
 (Done sAC x F (Ending.returned (bool false))
 [(0, F), (1000, Atom.cells b [int i64 x.c.kind, string x.c.s1, string x.c.s2, string x.c.s3, string x.c.s4, string x.c.s5, string x.c.s6, string x.c.s7, int i64 x.c.delay, string x.c.s9, string x.c.s10, string x.c.s11, string x.c.s12, string x.c.s13, slice x.q1.a x.q1.n x.q1.cap, slice x.b1.a x.b1.n x.b1.cap, int i64 x.c.load.kind, slice x.p1.a x.p1.n x.p1.cap, string x.c.load.body] 86),
 (1010, Atom.cells b_1 [int i64 x.c.kind, string x.c.s1, string x.c.s2, string x.c.s3, string x.c.s4, string x.c.s5, string x.c.s6, string x.c.s7, int i64 x.c.delay, string x.c.s9, string x.c.s10, string x.c.s11, string x.c.s12, string x.c.s13, slice x.q2.a x.q2.n x.q2.cap, slice x.b2.a x.b2.n x.b2.cap, int i64 x.c.load.kind, slice x.p2.a x.p2.n x.p2.cap, string x.c.load.body] 86)]))
 (Done sAC x F (Ending.returned (bool false))
 [(0, F), (1000, Atom.cells b [int i64 x.c.kind, string x.c.s1, string x.c.s2, string x.c.s3, string x.c.s4, string x.c.s5, string x.c.s6, string x.c.s7, int i64 x.c.delay, string x.c.s9, string x.c.s10, string x.c.s11, string x.c.s12, string x.c.s13, slice x.q1.a x.q1.n x.q1.cap, slice x.b1.a x.b1.n x.b1.cap, int i64 x.c.load.kind, slice x.p1.a x.p1.n x.p1.cap, string x.c.load.body] 86),
 (1010, Atom.cells b_1 [int i64 x.c.kind, string x.c.s1, string x.c.s2, string x.c.s3, string x.c.s4, string x.c.s5, string x.c.s6, string x.c.s7, int i64 x.c.delay, string x.c.s9, string x.c.s10, string x.c.s11, string x.c.s12, string x.c.s13, slice x.q2.a x.q2.n x.q2.cap, slice x.b2.a x.b2.n x.b2.cap, int i64 x.c.load.kind, slice x.p2.a x.p2.n x.p2.cap, string x.c.load.body] 86)]))
 (Done sAC x F (Ending.returned (bool false))
 [(0, F), (1000, Atom.cells b [int i64 x.c.kind, string x.c.s1, string x.c.s2, string x.c.s3, string x.c.s4, string x.c.s5, string x.c.s6, string x.c.s7, int i64 x.c.delay, string x.c.s9, string x.c.s10, string x.c.s11, string x.c.s12, string x.c.s13, slice x.q1.a x.q1.n x.q1.cap, slice x.b1.a x.b1.n x.b1.cap, int i64 x.c.load.kind, slice x.p1.a x.p1.n x.p1.cap, string x.c.load.body] 86),
 (1010, Atom.cells b_1 [int i64 x.c.kind, string x.c.s1, string x.c.s2, string x.c.s3, string x.c.s4, string x.c.s5, string x.c.s6, string x.c.s7, int i64 x.c.delay, string x.c.s9, string x.c.s10, string x.c.s11, string x.c.s12, string x.c.s13, slice x.q2.a x.q2.n x.q2.cap, slice x.b2.a x.b2.n x.b2.cap, int i64 x.c.load.kind, slice x.p2.a x.p2.n x.p2.cap, string x.c.load.body] 86)]))
 (Done sAC x F (Ending.returned (bool false))
 [(0, F), (1000, Atom.cells b [int i64 x.c.kind, string x.c.s1, string x.c.s2, string x.c.s3, string x.c.s4, string x.c.s5, string x.c.s6, string x.c.s7, int i64 x.c.delay, string x.c.s9, string x.c.s10, string x.c.s11, string x.c.s12, string x.c.s13, slice x.q1.a x.q1.n x.q1.cap, slice x.b1.a x.b1.n x.b1.cap, int i64 x.c.load.kind, slice x.p1.a x.p1.n x.p1.cap, string x.c.load.body] 86),
 (1010, Atom.cells b_1 [int i64 x.c.kind, string x.c.s1, string x.c.s2, string x.c.s3, string x.c.s4, string x.c.s5, string x.c.s6, string x.c.s7, int i64 x.c.delay, string x.c.s9, string x.c.s10, string x.c.s11, string x.c.s12, string x.c.s13, slice x.q2.a x.q2.n x.q2.cap, slice x.b2.a x.b2.n x.b2.cap, int i64 x.c.load.kind, slice x.p2.a x.p2.n x.p2.cap, string x.c.load.body] 86)]))
 (Done sAC x F (Ending.returned (bool false))
 [(0, F), (1000, Atom.cells b [int i64 x.c.kind, string x.c.s1, string x.c.s2, string x.c.s3, string x.c.s4, string x.c.s5, string x.c.s6, string x.c.s7, int i64 x.c.delay, string x.c.s9, string x.c.s10, string x.c.s11, string x.c.s12, string x.c.s13, slice x.q1.a x.q1.n x.q1.cap, slice x.b1.a x.b1.n x.b1.cap, int i64 x.c.load.kind, slice x.p1.a x.p1.n x.p1.cap, string x.c.load.body] 86),
 (1010, Atom.cells b_1 [int i64 x.c.kind, string x.c.s1, string x.c.s2, string x.c.s3, string x.c.s4, string x.c.s5, string x.c.s6, string x.c.s7, int i64 x.c.delay, string x.c.s9, string x.c.s10, string x.c.s11, string x.c.s12, string x.c.s13, slice x.q2.a x.q2.n x.q2.cap, slice x.b2.a x.b2.n x.b2.cap, int i64 x.c.load.kind, slice x.p2.a x.p2.n x.p2.cap, string x.c.load.body] 86)]))
 (Done sAC x F (Ending.returned (bool false))
 [(0, F), (1000, Atom.cells b [int i64 x.c.kind, string x.c.s1, string x.c.s2, string x.c.s3, string x.c.s4, string x.c.s5, string x.c.s6, string x.c.s7, int i64 x.c.delay, string x.c.s9, string x.c.s10, string x.c.s11, string x.c.s12, string x.c.s13, slice x.q1.a x.q1.n x.q1.cap, slice x.b1.a x.b1.n x.b1.cap, int i64 x.c.load.kind, slice x.p1.a x.p1.n x.p1.cap, string x.c.load.body] 86),
 (1010, Atom.cells b_1 [int i64 x.c.kind, string x.c.s1, string x.c.s2, string x.c.s3, string x.c.s4, string x.c.s5, string x.c.s6, string x.c.s7, int i64 x.c.delay, string x.c.s9, string x.c.s10, string x.c.s11, string x.c.s12, string x.c.s13, slice x.q2.a x.q2.n x.q2.cap, slice x.b2.a x.b2.n x.b2.cap, int i64 x.c.load.kind, slice x.p2.a x.p2.n x.p2.cap, string x.c.load.body] 86)]))
 (Done sAC x F (Ending.returned (bool false))
 [(0, F), (1000, Atom.cells b [int i64 x.c.kind, string x.c.s1, string x.c.s2, string x.c.s3, string x.c.s4, string x.c.s5, string x.c.s6, string x.c.s7, int i64 x.c.delay, string x.c.s9, string x.c.s10, string x.c.s11, string x.c.s12, string x.c.s13, slice x.q1.a x.q1.n x.q1.cap, slice x.b1.a x.b1.n x.b1.cap, int i64 x.c.load.kind, slice x.p1.a x.p1.n x.p1.cap, string x.c.load.body] 86),
 (1010, Atom.cells b_1 [int i64 x.c.kind, string x.c.s1, string x.c.s2, string x.c.s3, string x.c.s4, string x.c.s5, string x.c.s6, string x.c.s7, int i64 x.c.delay, string x.c.s9, string x.c.s10, string x.c.s11, string x.c.s12, string x.c.s13, slice x.q2.a x.q2.n x.q2.cap, slice x.b2.a x.b2.n x.b2.cap, int i64 x.c.load.kind, slice x.p2.a x.p2.n x.p2.cap, string x.c.load.body] 86)]))
 (Done sAC x F (Ending.returned (bool false))
 [(0, F), (1000, Atom.cells b [int i64 x.c.kind, string x.c.s1, string x.c.s2, string x.c.s3, string x.c.s4, string x.c.s5, string x.c.s6, string x.c.s7, int i64 x.c.delay, string x.c.s9, string x.c.s10, string x.c.s11, string x.c.s12, string x.c.s13, slice x.q1.a x.q1.n x.q1.cap, slice x.b1.a x.b1.n x.b1.cap, int i64 x.c.load.kind, slice x.p1.a x.p1.n x.p1.cap, string x.c.load.body] 86),
 (1010, Atom.cells b_1 [int i64 x.c.kind, string x.c.s1, string x.c.s2, string x.c.s3, string x.c.s4, string x.c.s5, string x.c.s6, string x.c.s7, int i64 x.c.delay, string x.c.s9, string x.c.s10, string x.c.s11, string x.c.s12, string x.c.s13, slice x.q2.a x.q2.n x.q2.cap, slice x.b2.a x.b2.n x.b2.cap, int i64 x.c.load.kind, slice x.p2.a x.p2.n x.p2.cap, string x.c.load.body] 86)]))
 (Done sAC x F (Ending.returned (bool false))
 [(0, F), (1000, Atom.cells b [int i64 x.c.kind, string x.c.s1, string x.c.s2, string x.c.s3, string x.c.s4, string x.c.s5, string x.c.s6, string x.c.s7, int i64 x.c.delay, string x.c.s9, string x.c.s10, string x.c.s11, string x.c.s12, string x.c.s13, slice x.q1.a x.q1.n x.q1.cap, slice x.b1.a x.b1.n x.b1.cap, int i64 x.c.load.kind, slice x.p1.a x.p1.n x.p1.cap, string x.c.load.body] 86),
 (1010, Atom.cells b_1 [int i64 x.c.kind, string x.c.s1, string x.c.s2, string x.c.s3, string x.c.s4, string x.c.s5, string x.c.s6, string x.c.s7, int i64 x.c.delay, string x.c.s9, string x.c.s10, string x.c.s11, string x.c.s12, string x.c.s13, slice x.q2.a x.q2.n x.q2.cap, slice x.b2.a x.b2.n x.b2.cap, int i64 x.c.load.kind, slice x.p2.a x.p2.n x.p2.cap, string x.c.load.body] 86)]))
 (Done sAC x F (Ending.returned (bool false))
 [(0, F), (1000, Atom.cells b [int i64 x.c.kind, string x.c.s1, string x.c.s2, string x.c.s3, string x.c.s4, string x.c.s5, string x.c.s6, string x.c.s7, int i64 x.c.delay, string x.c.s9, string x.c.s10, string x.c.s11, string x.c.s12, string x.c.s13, slice x.q1.a x.q1.n x.q1.cap, slice x.b1.a x.b1.n x.b1.cap, int i64 x.c.load.kind, slice x.p1.a x.p1.n x.p1.cap, string x.c.load.body] 86),
 (1010, Atom.cells b_1 [int i64 x.c.kind, string x.c.s1, string x.c.s2, string x.c.s3, string x.c.s4, string x.c.s5, string x.c.s6, string x.c.s7, int i64 x.c.delay, string x.c.s9, string x.c.s10, string x.c.s11, string x.c.s12, string x.c.s13, slice x.q2.a x.q2.n x.q2.cap, slice x.b2.a x.b2.n x.b2.cap, int i64 x.c.load.kind, slice x.p2.a x.p2.n x.p2.cap, string x.c.load.body] 86)]))
 (Done sAC x F (Ending.returned (bool false))
 [(0, F), (1000, Atom.cells b [int i64 x.c.kind, string x.c.s1, string x.c.s2, string x.c.s3, string x.c.s4, string x.c.s5, string x.c.s6, string x.c.s7, int i64 x.c.delay, string x.c.s9, string x.c.s10, string x.c.s11, string x.c.s12, string x.c.s13, slice x.q1.a x.q1.n x.q1.cap, slice x.b1.a x.b1.n x.b1.cap, int i64 x.c.load.kind, slice x.p1.a x.p1.n x.p1.cap, string x.c.load.body] 86),
 (1010, Atom.cells b_1 [int i64 x.c.kind, string x.c.s1, string x.c.s2, string x.c.s3, string x.c.s4, string x.c.s5, string x.c.s6, string x.c.s7, int i64 x.c.delay, string x.c.s9, string x.c.s10, string x.c.s11, string x.c.s12, string x.c.s13, slice x.q2.a x.q2.n x.q2.cap, slice x.b2.a x.b2.n x.b2.cap, int i64 x.c.load.kind, slice x.p2.a x.p2.n x.p2.cap, string x.c.load.body] 86)]) := by
  obtain ⟨c, q1, b1, p1, q2, b2, p2⟩ := x
  obtain ⟨hq1, hq2, hb1, hb2, hp1, hp2⟩ := hr
  dsimp only at hq1 hq2 hb1 hb2 hp1 hp2
  intro y1 y2
  repeat (first | refine ⟨⟨rfl, rfl⟩, ?_⟩ | refine br_t (by simp) ?_)
  refine ⟨stx_ok, rfl, ⟨q1, q2, c.conds⟩, rfl, rfl, trivial, ⟨hq1.sub (sub_rest 0 (by simp) rfl), hq2.sub (sub_rest 0 (by simp) rfl)⟩, fun _ _ => ?_⟩
  repeat (first | refine ⟨⟨rfl, rfl⟩, ?_⟩ | refine br_t (by simp) ?_)
  refine ⟨siI_ok, rfl, ⟨b1, b2, c.blocks⟩, rfl, rfl, trivial, ⟨hb1.sub (sub_rest 0 (by simp) rfl), hb2.sub (sub_rest 0 (by simp) rfl)⟩, fun _ _ => ?_⟩
  repeat (first | refine ⟨⟨rfl, rfl⟩, ?_⟩ | refine br_t (by simp) ?_)
  refine ⟨sl_ok, rfl, ⟨c.load, p1, p2⟩, rfl, rfl, trivial, ⟨hp1.sub (sub_rest 0 (by simp) rfl), hp2.sub (sub_rest 0 (by simp) rfl)⟩, fun _ _ => ?_⟩
  exact ⟨(), trivial, rfl, Ent.pick [0] rfl rfl⟩
set_option maxRecDepth 100000 in
theorem sA_ok : FnOk Try.prog 49 sAC :=
  fnOk (N := 122) (by kernel_rfl) Try.func49 rfl (by kernel_rfl) (fun _ => Nat.le_of_ble_eq_true rfl) sA_H [] fun x F hc hr => Eq.mpr (by kernel_rfl) (sA_vc x F hc hr)
structure sVX where
  v : InvD
  p1 : Sl
  p2 : Sl
def sVC : Con where
  X := sVX
  Y := Unit
  args x := [.agg #[.string x.v.id, .string x.v.place, .int .i64 x.v.chart, .bool x.v.auto, .int .i64 x.v.load.kind, .slice x.p1.a x.p1.n x.p1.cap, .string x.v.load.body, .int .i64 x.v.fin], .agg #[.string x.v.id, .string x.v.place, .int .i64 x.v.chart, .bool x.v.auto, .int .i64 x.v.load.kind, .slice x.p2.a x.p2.n x.p2.cap, .string x.v.load.body, .int .i64 x.v.fin]]
  pre _ := []
  cond _ := True
  rdc x F := ParsIn F (.slice x.p1.a x.p1.n x.p1.cap) x.v.load.params ∧ ParsIn F (.slice x.p2.a x.p2.n x.p2.cap) x.v.load.params
  rel _ _ := True
  val _ _ := .returned (.bool true)
  post _ _ := []
  rmono _ _ _ h hk := ⟨hk.1.sub h, hk.2.sub h⟩
def sVOv (_x : sVX) (_F : Atom) : List (Nat × Nat × OH) := [(0, 0, .n 1000), (0, 1, .n 1010), (1, 1, .q [.atj 1000]), (1, 3, .q [.atj 1010]), (1, 7, .q [.atj 1000]), (1, 9, .q [.atj 1010]), (1, 14, .q [.atj 1000]), (1, 16, .q [.atj 1010]), (1, 21, .q [.atj 1000]), (1, 23, .q [.atj 1010]), (1, 28, .q (at3 1000)), (1, 30, .q (at3 1010)), (1, 31, .c slC [] []), (1, 35, .q [.atj 1000]), (1, 37, .q [.atj 1010])]
noncomputable def sV_H (x : Con.X sVC) (F : Atom) : Hints where
  op := hk ((sVOv x F) ++ [])
  inv := (fun _ _ _ => none) x F
  cut := (fun _ _ _ => none) x F
  ord := (fun _ => [])
open Go.Value (int slice string bool pointer agg tuple func) in
open Go.IntKind (i64) in
set_option maxRecDepth 100000 in
theorem sV_vc (x : sVX) (F : Atom) (hc : Con.cond sVC x) (hr : Con.rdc sVC x F) :
  ∀ (b b_1 : Nat),
 Same ⟨b, 0, none⟩ b ∧
 Same ⟨b_1, 0, none⟩ b_1 ∧
 Br (x.v.id.toList == x.v.id.toList)
 (Same ⟨b, 1, none⟩ b ∧
 Same ⟨b_1, 1, none⟩ b_1 ∧
 Br (x.v.place.toList == x.v.place.toList)
 (Same ⟨b, 2, none⟩ b ∧
 Same ⟨b_1, 2, none⟩ b_1 ∧
 Br (x.v.chart == x.v.chart)
 (Same ⟨b, 3, none⟩ b ∧
 Same ⟨b_1, 3, none⟩ b_1 ∧
 Br (x.v.auto == x.v.auto)
 (Same ⟨b, 4, none⟩ b ∧
 Same ⟨b, 5, none⟩ b ∧
 Same ⟨b, 6, none⟩ b ∧
 Same ⟨b_1, 4, none⟩ b_1 ∧
 Same ⟨b_1, 5, none⟩ b_1 ∧
 Same ⟨b_1, 6, none⟩ b_1 ∧
 FnOk Try.prog 81 slC ∧
 true = true ∧
 ∃ (x_1 : SlX),
 [agg { toList := [int i64 x.v.load.kind, slice x.p1.a x.p1.n x.p1.cap, string x.v.load.body] }, agg { toList := [int i64 x.v.load.kind, slice x.p2.a x.p2.n x.p2.cap, string x.v.load.body] }] = [agg { toList := [int i64 x_1.l.kind, slice x_1.s1.a x_1.s1.n x_1.s1.cap, string x_1.l.body] }, agg { toList := [int i64 x_1.l.kind, slice x_1.s2.a x_1.s2.n x_1.s2.cap, string x_1.l.body] }] ∧
 ([] : List Atom) = [] ∧
 True ∧
 (ParsIn (Atom.pred (rest [(0, F), (1000, Atom.cells b [string x.v.id, string x.v.place, int i64 x.v.chart, bool x.v.auto, int i64 x.v.load.kind, slice x.p1.a x.p1.n x.p1.cap, string x.v.load.body, int i64 x.v.fin] 91), (1010, Atom.cells b_1 [string x.v.id, string x.v.place, int i64 x.v.chart, bool x.v.auto, int i64 x.v.load.kind, slice x.p2.a x.p2.n x.p2.cap, string x.v.load.body, int i64 x.v.fin] 91)] [])) (slice x_1.s1.a x_1.s1.n x_1.s1.cap) x_1.l.params ∧
 ParsIn (Atom.pred (rest [(0, F), (1000, Atom.cells b [string x.v.id, string x.v.place, int i64 x.v.chart, bool x.v.auto, int i64 x.v.load.kind, slice x.p1.a x.p1.n x.p1.cap, string x.v.load.body, int i64 x.v.fin] 91), (1010, Atom.cells b_1 [string x.v.id, string x.v.place, int i64 x.v.chart, bool x.v.auto, int i64 x.v.load.kind, slice x.p2.a x.p2.n x.p2.cap, string x.v.load.body, int i64 x.v.fin] 91)] [])) (slice x_1.s2.a x_1.s2.n x_1.s2.cap) x_1.l.params) ∧
 ∀ (y : Unit), True → Same ⟨b, 7, none⟩ b ∧ Same ⟨b_1, 7, none⟩ b_1 ∧ Done sVC x F (Ending.returned (bool (x.v.fin == x.v.fin))) [(0, F), (1000, Atom.cells b [string x.v.id, string x.v.place, int i64 x.v.chart, bool x.v.auto, int i64 x.v.load.kind, slice x.p1.a x.p1.n x.p1.cap, string x.v.load.body, int i64 x.v.fin] 91), (1010, Atom.cells b_1 [string x.v.id, string x.v.place, int i64 x.v.chart, bool x.v.auto, int i64 x.v.load.kind, slice x.p2.a x.p2.n x.p2.cap, string x.v.load.body, int i64 x.v.fin] 91)])
 (Done sVC x F (Ending.returned (bool false)) [(0, F), (1000, Atom.cells b [string x.v.id, string x.v.place, int i64 x.v.chart, bool x.v.auto, int i64 x.v.load.kind, slice x.p1.a x.p1.n x.p1.cap, string x.v.load.body, int i64 x.v.fin] 91), (1010, Atom.cells b_1 [string x.v.id, string x.v.place, int i64 x.v.chart, bool x.v.auto, int i64 x.v.load.kind, slice x.p2.a x.p2.n x.p2.cap, string x.v.load.body, int i64 x.v.fin] 91)]))
 (Done sVC x F (Ending.returned (bool false)) [(0, F), (1000, Atom.cells b [string x.v.id, string x.v.place, int i64 x.v.chart, bool x.v.auto, int i64 x.v.load.kind, slice x.p1.a x.p1.n x.p1.cap, string x.v.load.body, int i64 x.v.fin] 91), (1010, Atom.cells b_1 [string x.v.id, string x.v.place, int i64 x.v.chart, bool x.v.auto, int i64 x.v.load.kind, slice x.p2.a x.p2.n x.p2.cap, string x.v.load.body, int i64 x.v.fin] 91)]))
 (Done sVC x F (Ending.returned (bool false)) [(0, F), (1000, Atom.cells b [string x.v.id, string x.v.place, int i64 x.v.chart, bool x.v.auto, int i64 x.v.load.kind, slice x.p1.a x.p1.n x.p1.cap, string x.v.load.body, int i64 x.v.fin] 91), (1010, Atom.cells b_1 [string x.v.id, string x.v.place, int i64 x.v.chart, bool x.v.auto, int i64 x.v.load.kind, slice x.p2.a x.p2.n x.p2.cap, string x.v.load.body, int i64 x.v.fin] 91)]))
 (Done sVC x F (Ending.returned (bool false)) [(0, F), (1000, Atom.cells b [string x.v.id, string x.v.place, int i64 x.v.chart, bool x.v.auto, int i64 x.v.load.kind, slice x.p1.a x.p1.n x.p1.cap, string x.v.load.body, int i64 x.v.fin] 91), (1010, Atom.cells b_1 [string x.v.id, string x.v.place, int i64 x.v.chart, bool x.v.auto, int i64 x.v.load.kind, slice x.p2.a x.p2.n x.p2.cap, string x.v.load.body, int i64 x.v.fin] 91)]) := by
  obtain ⟨v, p1, p2⟩ := x
  obtain ⟨hp1, hp2⟩ := hr
  dsimp only at hp1 hp2
  intro y1 y2
  repeat (first | refine ⟨⟨rfl, rfl⟩, ?_⟩ | refine br_t (by simp) ?_)
  refine ⟨sl_ok, rfl, ⟨v.load, p1, p2⟩, rfl, rfl, trivial, ⟨hp1.sub (sub_rest 0 (by simp) rfl), hp2.sub (sub_rest 0 (by simp) rfl)⟩, fun _ _ => ?_⟩
  repeat (first | refine ⟨⟨rfl, rfl⟩, ?_⟩ | refine br_t (by simp) ?_)
  exact ⟨(), trivial, retB (by simp), Ent.pick [0] rfl rfl⟩
set_option maxRecDepth 100000 in
theorem sV_ok : FnOk Try.prog 50 sVC :=
  fnOk (N := 45) (by kernel_rfl) Try.func50 rfl (by kernel_rfl) (fun _ => Nat.le_of_ble_eq_true rfl) sV_H [] fun x F hc hr => Eq.mpr (by kernel_rfl) (sV_vc x F hc hr)
end Go.Proofs.Ytfmadkaiigiaiaa
