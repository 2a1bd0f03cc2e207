/- Which timers are taken away: the three closures. -/
import Derived.Test.YtmknmibmnidnoaaClkD
set_option linter.all false
namespace Go.Proofs.Ytmknmibmnidnoaa
open Go
structure KT where
  cb : Nat
  b : Nat
  now : Int
structure KC where
  c1 : Nat
  c2 : Nat
  ow : Int
  id : ByteArray
structure KD where
  c1 : Nat
  ow : Int
def gT (k : KT) (t : Tmr) : Bool := decide (t.due ≤ k.now)
def gC (k : KC) (t : Tmr) : Bool := bif t.ow == k.ow then t.id.toList == k.id.toList else false
def gD (k : KD) (t : Tmr) : Bool := t.ow == k.ow
def capT (k : KT) : List Value := [.pointer (some ⟨k.cb, 0, none⟩)]
def capC (k : KC) : List Value := [.pointer (some ⟨k.c1, 0, none⟩), .pointer (some ⟨k.c2, 0, none⟩)]
def capD (k : KD) : List Value := [.pointer (some ⟨k.c1, 0, none⟩)]
def rkT (k : KT) (F : Atom) : Prop := Look F ⟨k.cb, 0, none⟩ (.pointer (some ⟨k.b, 0, none⟩)) ∧ Look F ⟨k.b, 0, none⟩ (.int .i64 k.now)
def rkC (k : KC) (F : Atom) : Prop := Look F ⟨k.c1, 0, none⟩ (.int .i64 k.ow) ∧ Look F ⟨k.c2, 0, none⟩ (.string k.id)
def rkD (k : KD) (F : Atom) : Prop := Look F ⟨k.c1, 0, none⟩ (.int .i64 k.ow)
theorem rkT_mono (k : KT) (A B : Atom) (h : Sub A B) (hk : rkT k A) : rkT k B := ⟨hk.1.sub h, hk.2.sub h⟩
theorem rkC_mono (k : KC) (A B : Atom) (h : Sub A B) (hk : rkC k A) : rkC k B := ⟨hk.1.sub h, hk.2.sub h⟩
theorem rkD_mono (k : KD) (A B : Atom) (h : Sub A B) (hk : rkD k A) : rkD k B := hk.sub h
structure GXT where
  t : Tmr
  k : KT
def goTC : Con where
  X := GXT
  Y := Unit
  args x := .agg ⟨x.t.enc⟩ :: capT x.k
  pre _ := []
  cond _ := True
  rdc x F := rkT x.k F
  rel _ _ := True
  val x _ := .returned (.bool (gT x.k x.t))
  post _ _ := []
  rmono x A B h hk := rkT_mono x.k A B h hk
structure GXC where
  t : Tmr
  k : KC
def goCC : Con where
  X := GXC
  Y := Unit
  args x := .agg ⟨x.t.enc⟩ :: capC x.k
  pre _ := []
  cond _ := True
  rdc x F := rkC x.k F
  rel _ _ := True
  val x _ := .returned (.bool (gC x.k x.t))
  post _ _ := []
  rmono x A B h hk := rkC_mono x.k A B h hk
structure GXD where
  t : Tmr
  k : KD
def goDC : Con where
  X := GXD
  Y := Unit
  args x := .agg ⟨x.t.enc⟩ :: capD x.k
  pre _ := []
  cond _ := True
  rdc x F := rkD x.k F
  rel _ _ := True
  val x _ := .returned (.bool (gD x.k x.t))
  post _ _ := []
  rmono x A B h hk := rkD_mono x.k A B h hk
def goTOv (x : GXT) (_F : Atom) : List (Nat × Nat × OH) := [(1, 2, .q [.ex 0 (.is (.pointer (some ⟨x.k.b, 0, none⟩)))]), (1, 5, .q [.ex 0 (.is (.int .i64 x.k.now))])]
def goCOv (x : GXC) (_F : Atom) : List (Nat × Nat × OH) := [(1, 2, .q [.ex 0 (.is (.int .i64 x.k.ow))]), (1, 7, .q [.ex 0 (.is (.string x.k.id))])]
def goDOv (x : GXD) (_F : Atom) : List (Nat × Nat × OH) := [(1, 2, .q [.ex 0 (.is (.int .i64 x.k.ow))])]
noncomputable def goT_H (x : Con.X goTC) (F : Atom) : Hints where
  op := hk ((goTOv x F) ++ [(0, 0, OH.n (1000 : Nat)),   (1, 1, OH.q [LH.atj (1000 : Nat)])])
  inv := (fun _ _ _ => none) x F
  cut := (fun _ _ _ => none) x F
  ord := (fun _ => [])
set_option maxRecDepth 100000 in
theorem goT_vc (x : GXT) (F : Atom) (hc : Con.cond goTC x) (hr : Con.rdc goTC x F) :
  ∀ (b : Nat), true = true ∧ Same { block := b, off := (2 : Nat) } b ∧ Look F { block := x.k.cb, off := (0 : Nat) } (Value.pointer (some { block := x.k.b, off := (0 : Nat) })) ∧ Look F { block := x.k.b, off := (0 : Nat) } (Value.int IntKind.i64 x.k.now) ∧ Done goTC x F (Ending.returned (Value.bool (decide (x.t.due ≤ x.k.now)))) [((0 : Nat), F), ((1000 : Nat), Atom.cells b [Value.int IntKind.i64 x.t.ow, Value.string x.t.id, Value.int IntKind.i64 x.t.due, Value.int IntKind.i64 x.t.n] (44 : Nat))] := by
  obtain ⟨h1, h2⟩ := hr
  exact fun b => ⟨rfl, ⟨rfl, rfl⟩, h1, h2, ⟨(), trivial, rfl, Ent.pick [0] rfl rfl⟩⟩
set_option maxRecDepth 100000 in
theorem goT_ok : FnOk Try.prog 27 goTC :=
  fnOk (N := 11) (by kernel_rfl) Try.func27 rfl (by kernel_rfl) (fun _ => Nat.le_of_ble_eq_true rfl) goT_H [] fun x F hc hr => Eq.mpr (by kernel_rfl) (goT_vc x F hc hr)
noncomputable def goC_H (x : Con.X goCC) (F : Atom) : Hints where
  op := hk ((goCOv x F) ++ [(0, 0, OH.n (1000 : Nat)),   (1, 1, OH.q [LH.atj (1000 : Nat)]),   (1, 6, OH.q [LH.atj (1000 : Nat)])])
  inv := (fun _ _ _ => none) x F
  cut := (fun _ _ _ => none) x F
  ord := (fun _ => [])
set_option maxRecDepth 100000 in
theorem goC_vc (x : GXC) (F : Atom) (hc : Con.cond goCC x) (hr : Con.rdc goCC x F) :
  ∀ (b : Nat), Same { block := b, off := (0 : Nat) } b ∧ Look F { block := x.k.c1, off := (0 : Nat) } (Value.int IntKind.i64 x.k.ow) ∧ Br (x.t.ow == x.k.ow) (Same { block := b, off := (1 : Nat) } b ∧ Look F { block := x.k.c2, off := (0 : Nat) } (Value.string x.k.id) ∧ Done goCC x F (Ending.returned (Value.bool (x.t.id.toList == x.k.id.toList))) [((0 : Nat), F), ((1000 : Nat), Atom.cells b [Value.int IntKind.i64 x.t.ow, Value.string x.t.id, Value.int IntKind.i64 x.t.due, Value.int IntKind.i64 x.t.n] (44 : Nat))]) (Done goCC x F (Ending.returned (Value.bool false)) [((0 : Nat), F), ((1000 : Nat), Atom.cells b [Value.int IntKind.i64 x.t.ow, Value.string x.t.id, Value.int IntKind.i64 x.t.due, Value.int IntKind.i64 x.t.n] (44 : Nat))]) := by
  obtain ⟨h1, h2⟩ := hr
  refine fun b => ⟨⟨rfl, rfl⟩, h1, br_intro (fun h => ⟨⟨rfl, rfl⟩, h2, ⟨(), trivial, ?_, Ent.pick [0] rfl rfl⟩⟩) (fun h => ⟨(), trivial, ?_, Ent.pick [0] rfl rfl⟩)⟩
  · simp only [goCC, gC, h, cond_true]
  · simp only [goCC, gC, h, cond_false]
set_option maxRecDepth 100000 in
theorem goC_ok : FnOk Try.prog 29 goCC :=
  fnOk (N := 15) (by kernel_rfl) Try.func29 rfl (by kernel_rfl) (fun _ => Nat.le_of_ble_eq_true rfl) goC_H [] fun x F hc hr => Eq.mpr (by kernel_rfl) (goC_vc x F hc hr)
noncomputable def goD_H (x : Con.X goDC) (F : Atom) : Hints where
  op := hk ((goDOv x F) ++ [(0, 0, OH.n (1000 : Nat)),   (1, 1, OH.q [LH.atj (1000 : Nat)])])
  inv := (fun _ _ _ => none) x F
  cut := (fun _ _ _ => none) x F
  ord := (fun _ => [])
set_option maxRecDepth 100000 in
theorem goD_vc (x : GXD) (F : Atom) (hc : Con.cond goDC x) (hr : Con.rdc goDC x F) :
  ∀ (b : Nat), Same { block := b, off := (0 : Nat) } b ∧ Look F { block := x.k.c1, off := (0 : Nat) } (Value.int IntKind.i64 x.k.ow) ∧ Done goDC x F (Ending.returned (Value.bool (x.t.ow == x.k.ow))) [((0 : Nat), F), ((1000 : Nat), Atom.cells b [Value.int IntKind.i64 x.t.ow, Value.string x.t.id, Value.int IntKind.i64 x.t.due, Value.int IntKind.i64 x.t.n] (44 : Nat))] := by
  exact fun b => ⟨⟨rfl, rfl⟩, hr, ⟨(), trivial, rfl, Ent.pick [0] rfl rfl⟩⟩
set_option maxRecDepth 100000 in
theorem goD_ok : FnOk Try.prog 30 goDC :=
  fnOk (N := 8) (by kernel_rfl) Try.func30 rfl (by kernel_rfl) (fun _ => Nat.le_of_ble_eq_true rfl) goD_H [] fun x F hc hr => Eq.mpr (by kernel_rfl) (goD_vc x F hc hr)
end Go.Proofs.Ytmknmibmnidnoaa
