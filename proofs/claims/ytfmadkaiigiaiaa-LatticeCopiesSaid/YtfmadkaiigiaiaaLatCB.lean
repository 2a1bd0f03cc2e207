/- Spoiling every list of an owned chart. -/
import Derived.Test.YtfmadkaiigiaiaaLatCA
set_option linter.all false
namespace Go.Proofs.Ytfmadkaiigiaiaa
open Go
set_option maxHeartbeats 1000000
def stW (y : StW) : List Value := [.string y.f0, .int .i64 y.f1, .int .i64 y.f2, .slice y.f3.a y.f3.n y.f3.cap, .int .i64 y.f4, .slice y.f5.a y.f5.n y.f5.cap, .slice y.f6.a y.f6.n y.f6.cap, .slice y.f7.a y.f7.n y.f7.cap, .slice y.f8.a y.f8.n y.f8.cap, .slice y.f9.a y.f9.n y.f9.cap, .int .i64 y.f10, .slice y.f11.a y.f11.n y.f11.cap, .string y.f12]
def acW (y : AcW) : List Value := [.int .i64 y.f0, .string y.f1, .string y.f2, .string y.f3, .string y.f4, .string y.f5, .string y.f6, .string y.f7, .int .i64 y.f8, .string y.f9, .string y.f10, .string y.f11, .string y.f12, .string y.f13, .slice y.f14.a y.f14.n y.f14.cap, .slice y.f15.a y.f15.n y.f15.cap, .int .i64 y.f16, .slice y.f17.a y.f17.n y.f17.cap, .string y.f18]
theorem all2n {α β : Type} {R : α → β → Prop} : All2 R [] [] := trivial
theorem all2c {α β : Type} {R : α → β → Prop} {x : α} {l : List α} {y : β} {m : List β} (h : R x y) (h' : All2 R l m) : All2 R (x :: l) (y :: m) := ⟨h, h'⟩
theorem wvi (g : Sig) (n : Int) : WV g .i (.int .i64 n) := ⟨n, rfl⟩
theorem wvs (g : Sig) (s : ByteArray) : WV g .s (.string s) := ⟨s, rfl⟩
theorem wvb (g : Sig) (s : Bool) : WV g .b (.bool s) := ⟨s, rfl⟩
theorem wvn (g : Sig) (t : Ty) : WV g (.sl t) (.slice none 0 0) := ⟨⟨none, 0, 0⟩, rfl, SlT.nil g t none 0⟩
def kOk (g : Sig) (D : Kn) (t : Ty) : Prop := ∀ b p v, D = some (b, p, v) → ∃ m, g b = some (t, m)
structure SpiX where
  g : Sig
  D : Kn
  s : Sl
/-- spoil$1 at a list of ints. -/
def spiC : Con where
  X := SpiX
  Y := Unit
  args x := [.slice x.s.a x.s.n x.s.cap]
  pre x := [WA x.g x.D]
  cond x := SlT x.g .int x.s ∧ ∀ b p v, x.D = some (b, p, v) → ∀ m, x.g b ≠ some (.int, m)
  rdc _ _ := True
  rel _ _ := True
  val _ _ := .returned (.tuple #[])
  post x _ := [WA x.g x.D]
def spiInv (x : SpiX) (F : Atom) : Nat → Option Inv := fun
  | 0 => some { X := Nat, P := fun k => k ≤ x.s.n, mu := fun k => x.s.n - k, lv := fun k => [(0, .slice x.s.a x.s.n x.s.cap), (4, .int .i64 x.s.n), (5, .int .i64 k)], st := fun _ => [WA x.g x.D, F] }
  | _ => none
def spiOv (_x : SpiX) (_F : Atom) : List (Nat × Nat × OH) := [(3, 2, .qo (ixQ 1)), (3, 3, .o st1C [0] [0])]
noncomputable def spi_H (x : Con.X spiC) (F : Atom) : Hints where
  op := hk ((spiOv x F) ++ [])
  inv := spiInv x F
  cut := (fun _ _ _ => none) x F
  ord := (fun _ => [])
open Go.Value (int slice string bool pointer agg tuple func) in
open Go.IntKind (i64) in
set_option maxRecDepth 100000 in
theorem spi_vc (x : SpiX) (F : Atom) (hc : Con.cond spiC x) (hr : Con.rdc spiC x F) :
  (∃ (x_1 : Nat), x_1 ≤ x.s.n ∧ (slice x.s.a x.s.n x.s.cap = slice x.s.a x.s.n x.s.cap ∧ int i64 (↑x.s.n : Int) = int i64 (↑x.s.n : Int) ∧ int i64 (0 : Int) = int i64 (↑x_1 : Int) ∧ True) ∧ Ent [(0, Atom.pred (Wp.rest x.g x.D)), (1, F)] [(0, Atom.pred (Wp.rest x.g x.D)), (1, F)]) ∧
 ∀ (x_1 : Nat) (js : Nat → Value),
 x_1 ≤ x.s.n →
 Br (decide ((↑x_1 : Int) < (↑x.s.n : Int)))
 (QOpOk Try.prog (opIn Try.f68 3 2) (ixQ 1) ∧
 ∃ (x_2 : IxQX),
 [slice x.s.a x.s.n x.s.cap, int i64 (↑x_1 : Int)] = [slice (some ⟨x_2.b, x_2.o, none⟩) x_2.len x_2.cap, int i64 x_2.n] ∧
 ((0 : Int) ≤ x_2.n ∧ x_2.n < (↑x_2.len : Int)) ∧
 OpOk Try.prog (opIn Try.f68 3 3) st1C ∧
 true = true ∧
 ∃ (x_3 : StoY),
 [pointer (some ⟨x_2.b, x_2.o + x_2.n.toNat * 1, none⟩), int i64 (-9 : Int)] = [pointer (some ⟨x_3.b, x_3.o, none⟩), x_3.v] ∧
 [Atom.pred (Wp.rest x.g x.D)] = [Atom.pred (Wp.rest x_3.g x_3.D)] ∧ ((x_3.g x_3.b = some (x_3.t, x_3.n) ∧ x_3.i < x_3.n ∧ x_3.o = x_3.i * x_3.t.len + x_3.j) ∧ x_3.t.ks[x_3.j]? = some x_3.k ∧ WV x_3.g x_3.k x_3.v ∧ ∀ (b p : Nat) (v : Value), x_3.D = some (b, p, v) → ¬(b = x_3.b ∧ p = x_3.o)) ∧ True ∧ ∀ (y : Unit), True → ((-9223372036854775808 : Int) ≤ (↑x_1 : Int) + (1 : Int) ∧ (↑x_1 : Int) + (1 : Int) ≤ (9223372036854775807 : Int)) ∧ ∃ (y : Nat), y ≤ x.s.n ∧ (slice x.s.a x.s.n x.s.cap = slice x.s.a x.s.n x.s.cap ∧ int i64 (↑x.s.n : Int) = int i64 (↑x.s.n : Int) ∧ int i64 ((↑x_1 : Int) + (1 : Int)) = int i64 (↑y : Int) ∧ True) ∧ Ent [(0, Atom.pred (Wp.rest x_3.g x_3.D)), (1, F)] [(0, Atom.pred (Wp.rest x.g x.D)), (1, F)] ∧ x.s.n - y < x.s.n - x_1)
 (Done spiC x F (Ending.returned (tuple { toList := [] })) [(0, Atom.pred (Wp.rest x.g x.D)), (1, F)]) := by
  obtain ⟨g, D, s⟩ := x
  obtain ⟨hs, hD⟩ := hc
  dsimp only at hs hD
  refine ⟨⟨0, Nat.zero_le _, ⟨rfl, rfl, rfl, trivial⟩, Ent.pick [0, 1] rfl rfl⟩, ?_⟩
  intro k js hk
  refine br_decide (fun hlt => ?_) (fun hge => ⟨(), trivial, rfl, Ent.pick [0, 1] rfl rfl⟩)
  obtain ⟨b, m, ea, eg, em⟩ := hs.2 (by dsimp only at hlt; omega)
  have hl := hs.1
  dsimp only at hlt hk
  exact ⟨ixq_ok 1 rfl rfl rfl rfl, ⟨b, 0, s.n, s.cap, k⟩, by rw [ea], by dsimp only; omega, st1_ok (P := Try.prog) rfl rfl rfl, rfl, ⟨g, D, b, 0 + (k : Int).toNat * 1, .int, m, k, 0, .i, .int .i64 (-9)⟩, rfl, rfl, ⟨⟨eg, by dsimp only; omega, by simp only [Ty.len]; omega⟩, rfl, ⟨_, rfl⟩, fun b' p v e hh => hD _ _ _ e m (by rw [hh.1]; exact eg)⟩, trivial, fun _ _ => ⟨by omega, k + 1, by dsimp only; omega, ⟨rfl, rfl, rfl, trivial⟩, Ent.pick [0, 1] rfl rfl, by dsimp only; omega⟩⟩
set_option maxRecDepth 100000 in
theorem spi_ok : FnOk Try.prog 68 spiC :=
  fnOk (N := 12) (by kernel_rfl) Try.func68 rfl (by kernel_rfl) (fun _ => Nat.le_of_ble_eq_true rfl) spi_H [] fun x F hc hr => Eq.mpr (by kernel_rfl) (spi_vc x F hc hr)
structure SpX where
  g : Sig
  c : ChD
  w : ChS
def spC : Con where
  X := SpX
  Y := Kn
  args x := [chAgg x.c x.w]
  pre x := [WA x.g none]
  cond x := SlT x.g .st x.w.vs ∧ SlT x.g .tr x.w.vt ∧ SlT x.g .blk x.w.vb ∧ SlT x.g .dat x.w.vd ∧ SlT x.g .inv x.w.vi
  rdc _ _ := True
  rel _ _ := True
  val _ _ := .returned (.tuple #[])
  post x D := [WA x.g D]
def fvS : Value := .func (.func 68) #[] #[]
structure SpI where
  k : Nat
  b1 : Nat
  j : Nat := 0
  q : Nat := 0
  b4 : Nat := 0
  D : Kn := none
  s : Sl := ⟨none, 0, 0⟩
  bb : Nat := 0
  m : Nat := 0
  y : StW := ⟨.empty, 0, 0, ⟨none, 0, 0⟩, 0, ⟨none, 0, 0⟩, ⟨none, 0, 0⟩, ⟨none, 0, 0⟩, ⟨none, 0, 0⟩, ⟨none, 0, 0⟩, 0, ⟨none, 0, 0⟩, .empty⟩
  z : AcW := ⟨0, .empty, .empty, .empty, .empty, .empty, .empty, .empty, 0, .empty, .empty, .empty, .empty, .empty, ⟨none, 0, 0⟩, ⟨none, 0, 0⟩, 0, ⟨none, 0, 0⟩, .empty⟩
def spS (x : SpX) (F : Atom) (i : SpI) : List Atom := [WA x.g i.D, F, .cells i.b1 (chS x.c x.w) 28]
def spL (i : SpI) (l : List (Nat × Value)) : List (Nat × Value) := [(1, .pointer (some ⟨i.b1, 0, none⟩)), (2, fvS)] ++ l
def spInv (x : SpX) (F : Atom) : Nat → Option Inv := fun
  | 0 => some { X := SpI, P := fun i => i.k ≤ x.w.vs.n ∧ i.D = none, mu := fun i => x.w.vs.n - i.k, lv := fun i => spL i [(18, .int .i64 x.w.vs.n), (19, .int .i64 i.k)], st := fun i => spS x F i }
  | 2 => some { X := SpI, P := fun i => i.k < x.w.vs.n ∧ i.D = none ∧ SlT x.g .par i.y.f11 ∧ i.j ≤ i.y.f11.n, gh := some ⟨Nat, fun i => i.k⟩, mu := fun i => i.y.f11.n - i.j, lv := fun i => spL i [(3, .int .i64 i.k), (4, .pointer (some ⟨i.b4, 0, none⟩)), (18, .int .i64 x.w.vs.n), (19, .int .i64 i.k), (54, .int .i64 i.y.f11.n), (55, .int .i64 i.j)], st := fun i => spS x F i ++ [.cells i.b4 (stW i.y) 61] }
  | 4 => some { X := SpI, P := fun i => i.k ≤ x.w.vt.n ∧ i.D = none, mu := fun i => x.w.vt.n - i.k, lv := fun i => spL i [(73, .int .i64 x.w.vt.n), (74, .int .i64 i.k)], st := fun i => spS x F i }
  | 6 => some { X := SpI, P := fun i => i.k < x.w.vt.n ∧ (x.w.vt.a = some ⟨i.bb, 0, none⟩ ∧ x.g i.bb = some (.tr, i.m)) ∧ i.D = some (i.bb, 0 + (i.k : Int).toNat * 6 + 1, .slice i.s.a i.s.n i.s.cap) ∧ SlT x.g .str i.s ∧ i.j ≤ i.s.n, gh := some ⟨Nat, fun i => i.k⟩, mu := fun i => i.s.n - i.j, lv := fun i => spL i [(6, .int .i64 i.k), (73, .int .i64 x.w.vt.n), (74, .int .i64 i.k), (91, .int .i64 i.s.n), (92, .int .i64 i.j)], st := fun i => spS x F i }
  | 8 => some { X := SpI, P := fun i => i.k ≤ x.w.vb.n ∧ kOk x.g i.D .blk, mu := fun i => x.w.vb.n - i.k, lv := fun i => spL i [(112, .int .i64 x.w.vb.n), (113, .int .i64 i.k)], st := fun i => spS x F i }
  | 10 => some { X := SpI, P := fun i => i.k < x.w.vb.n ∧ (x.w.vb.a = some ⟨i.bb, 0, none⟩ ∧ x.g i.bb = some (.blk, i.m)) ∧ i.D = some (i.bb, 0 + (i.k : Int).toNat * 1 + 0, .slice i.s.a i.s.n i.s.cap) ∧ SlT x.g .act i.s ∧ i.j ≤ i.s.n, gh := some ⟨Nat, fun i => i.k⟩, mu := fun i => i.s.n - i.j, lv := fun i => spL i [(8, .int .i64 i.k), (112, .int .i64 x.w.vb.n), (113, .int .i64 i.k), (122, .int .i64 i.s.n), (123, .int .i64 i.j)], st := fun i => spS x F i }
  | 12 => some { X := SpI, P := fun i => i.k < x.w.vb.n ∧ (x.w.vb.a = some ⟨i.bb, 0, none⟩ ∧ x.g i.bb = some (.blk, i.m)) ∧ i.D = some (i.bb, 0 + (i.k : Int).toNat * 1 + 0, .slice i.s.a i.s.n i.s.cap) ∧ SlT x.g .act i.s ∧ i.j < i.s.n ∧ SlT x.g .str i.z.f14 ∧ SlT x.g .par i.z.f17 ∧ i.q ≤ i.z.f14.n, gh := some ⟨Nat × Nat × Nat, fun i => (i.k, i.j, i.s.n)⟩, mu := fun i => i.z.f14.n - i.q, lv := fun i => spL i [(8, .int .i64 i.k), (9, .int .i64 i.j), (10, .pointer (some ⟨i.b4, 0, none⟩)), (112, .int .i64 x.w.vb.n), (113, .int .i64 i.k), (122, .int .i64 i.s.n), (123, .int .i64 i.j), (141, .int .i64 i.z.f14.n), (142, .int .i64 i.q)], st := fun i => spS x F i ++ [.cells i.b4 (acW i.z) 86] }
  | 14 => some { X := SpI, P := fun i => i.k < x.w.vb.n ∧ (x.w.vb.a = some ⟨i.bb, 0, none⟩ ∧ x.g i.bb = some (.blk, i.m)) ∧ i.D = some (i.bb, 0 + (i.k : Int).toNat * 1 + 0, .slice i.s.a i.s.n i.s.cap) ∧ SlT x.g .act i.s ∧ i.j < i.s.n ∧ SlT x.g .str i.z.f14 ∧ SlT x.g .par i.z.f17 ∧ i.q ≤ i.z.f17.n, gh := some ⟨Nat × Nat × Nat, fun i => (i.k, i.j, i.s.n)⟩, mu := fun i => i.z.f17.n - i.q, lv := fun i => spL i [(8, .int .i64 i.k), (9, .int .i64 i.j), (10, .pointer (some ⟨i.b4, 0, none⟩)), (112, .int .i64 x.w.vb.n), (113, .int .i64 i.k), (122, .int .i64 i.s.n), (123, .int .i64 i.j), (153, .int .i64 i.z.f17.n), (154, .int .i64 i.q)], st := fun i => spS x F i ++ [.cells i.b4 (acW i.z) 86] }
  | 16 => some { X := SpI, P := fun i => i.k ≤ x.w.vd.n ∧ kOk x.g i.D .blk, mu := fun i => x.w.vd.n - i.k, lv := fun i => spL i [(177, .int .i64 x.w.vd.n), (178, .int .i64 i.k)], st := fun i => spS x F i }
  | 18 => some { X := SpI, P := fun i => i.k ≤ x.w.vi.n, mu := fun i => x.w.vi.n - i.k, lv := fun i => spL i [(189, .int .i64 x.w.vi.n), (190, .int .i64 i.k)], st := fun i => spS x F i }
  | 20 => some { X := SpI, P := fun i => i.k < x.w.vi.n ∧ (x.w.vi.a = some ⟨i.bb, 0, none⟩ ∧ x.g i.bb = some (.inv, i.m) ∧ x.w.vi.n ≤ i.m) ∧ i.D = some (i.bb, 0 + (i.k : Int).toNat * 8 + 4 + 1, .slice i.s.a i.s.n i.s.cap) ∧ SlT x.g .par i.s ∧ i.j ≤ i.s.n, gh := some ⟨Nat, fun i => i.k⟩, mu := fun i => i.s.n - i.j, lv := fun i => spL i [(14, .int .i64 i.k), (189, .int .i64 x.w.vi.n), (190, .int .i64 i.k), (200, .int .i64 i.s.n), (201, .int .i64 i.j)], st := fun i => spS x F i }
  | _ => none
def at19 (j : Nat) : List LH := at13 j ++ at6 j
def spOv (_x : SpX) (_F : Atom) : List (Nat × Nat × OH) := [(0, 0, .n 1000), (2, 1, .q [.atj 1000]), (5, 1, .q [.atj 2]), (5, 3, .qo (ixQ 13)), (5, 4, .o ldStC [0] [0]), (5, 5, .n 6050), (5, 6, .w (at13 6050)),
  (6, 2, .q [.atj 6050]), (6, 3, .c spiC [0] [0]), (7, 2, .q [.atj 6050]), (7, 3, .c spiC [0] [0]), (8, 2, .q [.atj 6050]), (8, 3, .c spiC [0] [0]), (9, 2, .q [.atj 6050]), (9, 3, .c spiC [0] [0]), (10, 2, .q [.atj 6050]), (10, 3, .c spiC [0] [0]), (11, 2, .q [.atj 6050]), (11, 3, .c spiC [0] [0]), (12, 2, .q [.atj 6050]), (15, 2, .q [.atj 3]), (15, 4, .qo (ixQ 2)), (15, 6, .o st1C [0] [0]), (17, 1, .q [.atj 2]), (17, 4, .qo (ixQ 13)), (17, 5, .o (stmT .st) [0] [0]), (19, 1, .q [.atj 2]),
  (22, 2, .q [.atj 2]), (22, 4, .qo (ixQ 6)), (22, 6, .o ldSC [0] [0]), (22, 7, .c spiC [0] [0]), (23, 1, .q [.atj 2]), (23, 3, .qo (ixQ 6)), (23, 5, .o ldSC [0] [0]), (26, 1, .q [.atj 2]), (26, 3, .qo (ixQ 6)), (26, 5, .q [.ex 0 .slice]), (26, 7, .qo (ixQ 1)), (26, 8, .o st1C [0] [0]), (28, 1, .q [.atj 2]), (28, 4, .qo (ixQ 6)), (28, 5, .o (stmT .tr) [0] [0]), (30, 1, .q [.atj 2]),
  (33, 1, .q [.atj 2]), (33, 3, .qo (ixQ 1)), (33, 5, .o ldSC [0] [0]), (36, 1, .q [.atj 2]), (36, 3, .qo (ixQ 1)), (36, 5, .q [.ex 0 .slice]), (36, 7, .qo (ixQ 19)), (36, 8, .o ldAcC [0] [0]), (36, 9, .n 37090), (36, 10, .w (at19 37090)), (37, 2, .q [.atj 37090]), (37, 3, .c spiC [0] [0]), (38, 1, .q [.atj 37090]),
  (41, 1, .q [.atj 3]), (41, 3, .qo (ixQ 1)), (41, 4, .o st1C [0] [0]), (43, 2, .q [.atj 3]), (46, 2, .q [.atj 3]), (46, 4, .qo (ixQ 2)), (46, 6, .o st1C [0] [0]), (48, 1, .q [.atj 2]), (48, 3, .qo (ixQ 1)), (48, 5, .q [.ex 0 .slice]), (48, 8, .qo (ixQ 19)), (48, 9, .o (stmT .act) [0] [0]), (51, 1, .q [.atj 2]),
  (54, 1, .q [.atj 2]), (54, 3, .qo (ixQ 3)), (54, 5, .o st1C [0] [0]), (56, 1, .q [.atj 2]), (59, 1, .q [.atj 2]), (59, 3, .qo (ixQ 8)), (59, 6, .o ldSC [0] [0]), (62, 1, .q [.atj 2]), (62, 3, .qo (ixQ 8)), (62, 6, .q [.ex 0 .slice]), (62, 8, .qo (ixQ 2)), (62, 10, .o st1C [0] [0]), (64, 1, .q [.atj 2]), (64, 3, .qo (ixQ 8)), (64, 5, .o st1C [0] [0])]
noncomputable def sp_H (x : Con.X spC) (F : Atom) : Hints where
  op := hk ((spOv x F) ++ [])
  inv := spInv x F
  cut := (fun _ _ _ => none) x F
  ord := (fun _ => [])
open Go.Value (int slice string bool pointer agg tuple func) in
open Go.IntKind (i64) in
set_option maxRecDepth 100000 in
theorem sp_vc (x : SpX) (F : Atom) (hc : Con.cond spC x) (hr : Con.rdc spC x F) :
  ∀ (b : Nat),
 Same ⟨b, 3, none⟩ b ∧
 (∃ (x_1 : SpI),
 (x_1.k ≤ x.w.vs.n ∧ x_1.D = none) ∧
 (pointer (some ⟨b, 0, none⟩) = pointer (some ⟨x_1.b1, 0, none⟩) ∧ func (Fn.func 68) { toList := [] } { toList := [] } = func (Fn.func 68) { toList := [] } { toList := [] } ∧ int i64 (↑x.w.vs.n : Int) = int i64 (↑x.w.vs.n : Int) ∧ int i64 (0 : Int) = int i64 (↑x_1.k : Int) ∧ True) ∧
 Ent [(0, Atom.pred (Wp.rest x.g none)), (1, F), (1000, Atom.cells b (chS x.c x.w) 28)] [(0, Atom.pred (Wp.rest x.g x_1.D)), (1, F), (2, Atom.cells x_1.b1 (chS x.c x.w) 28)]) ∧
 ∀ (x_1 : SpI) (js : Nat → Value),
 x_1.k ≤ x.w.vs.n ∧ x_1.D = none →
 Br (decide ((↑x_1.k : Int) < (↑x.w.vs.n : Int)))
 (Same ⟨x_1.b1, 3, none⟩ x_1.b1 ∧
 QOpOk Try.prog (opIn Try.f34 5 3) (ixQ 13) ∧
 ∃ (x_2 : IxQX),
 [slice x.w.vs.a x.w.vs.n x.w.vs.cap, int i64 (↑x_1.k : Int)] = [slice (some ⟨x_2.b, x_2.o, none⟩) x_2.len x_2.cap, int i64 x_2.n] ∧
 ((0 : Int) ≤ x_2.n ∧ x_2.n < (↑x_2.len : Int)) ∧
 OpOk Try.prog { dst := some 26, op := Op.load 61 (Operand.tmp 25), type := 61, pos := "more.go:34", after := { toList := [{ on := 3, ground := Ground.data }] }, guard := none } ldStC ∧
 true = true ∧
 ∃ (x_3 : WldX),
 [pointer (some ⟨x_2.b, x_2.o + x_2.n.toNat * 13, none⟩)] = [pointer (some ⟨x_3.b, x_3.o, none⟩)] ∧
 [Atom.pred (Wp.rest x.g x_1.D)] = [Atom.pred (Wp.rest x_3.g x_3.D)] ∧
 (x_3.g x_3.b = some (Ty.st, x_3.n) ∧ x_3.i < x_3.n ∧ x_3.o = x_3.i * 13) ∧
 True ∧
 ∀ (y : StW),
 SlT x_3.g Ty.int y.f3 ∧ SlT x_3.g Ty.int y.f5 ∧ SlT x_3.g Ty.int y.f6 ∧ SlT x_3.g Ty.int y.f7 ∧ SlT x_3.g Ty.int y.f8 ∧ SlT x_3.g Ty.int y.f9 ∧ SlT x_3.g Ty.par y.f11 →
 ∀ (b : Nat),
 Same ⟨b, 0, none⟩ b ∧
 Same ⟨b, 1, none⟩ b ∧
 Same ⟨b, 2, none⟩ b ∧
 Same ⟨b, 3, none⟩ b ∧
 Same ⟨b, 4, none⟩ b ∧
 Same ⟨b, 5, none⟩ b ∧
 Same ⟨b, 6, none⟩ b ∧
 Same ⟨b, 7, none⟩ b ∧
 Same ⟨b, 8, none⟩ b ∧
 Same ⟨b, 9, none⟩ b ∧
 Same ⟨b, 10, none⟩ b ∧
 Same ⟨b, 11, none⟩ b ∧
 Same ⟨b, 12, none⟩ b ∧
 Same ⟨b, 3, none⟩ b ∧
 FnOk Try.prog 68 spiC ∧
 true = true ∧
 ∃ (x_4 : SpiX),
 [slice y.f3.a y.f3.n y.f3.cap] = [slice x_4.s.a x_4.s.n x_4.s.cap] ∧
 [Atom.pred (Wp.rest x_3.g x_3.D)] = [Atom.pred (Wp.rest x_4.g x_4.D)] ∧
 (SlT x_4.g Ty.int x_4.s ∧ ∀ (b p : Nat) (v : Value), x_4.D = some (b, p, v) → ∀ (m : Nat), x_4.g b ≠ some (Ty.int, m)) ∧
 True ∧
 ∀ (y_1 : Unit),
 True →
 Same ⟨b, 5, none⟩ b ∧
 FnOk Try.prog 68 spiC ∧
 true = true ∧
 ∃ (x_5 : SpiX),
 [slice y.f5.a y.f5.n y.f5.cap] = [slice x_5.s.a x_5.s.n x_5.s.cap] ∧
 [Atom.pred (Wp.rest x_4.g x_4.D)] = [Atom.pred (Wp.rest x_5.g x_5.D)] ∧
 (SlT x_5.g Ty.int x_5.s ∧ ∀ (b p : Nat) (v : Value), x_5.D = some (b, p, v) → ∀ (m : Nat), x_5.g b ≠ some (Ty.int, m)) ∧
 True ∧
 ∀ (y_2 : Unit),
 True →
 Same ⟨b, 6, none⟩ b ∧
 FnOk Try.prog 68 spiC ∧
 true = true ∧
 ∃ (x_6 : SpiX),
 [slice y.f6.a y.f6.n y.f6.cap] = [slice x_6.s.a x_6.s.n x_6.s.cap] ∧
 [Atom.pred (Wp.rest x_5.g x_5.D)] = [Atom.pred (Wp.rest x_6.g x_6.D)] ∧
 (SlT x_6.g Ty.int x_6.s ∧ ∀ (b p : Nat) (v : Value), x_6.D = some (b, p, v) → ∀ (m : Nat), x_6.g b ≠ some (Ty.int, m)) ∧
 True ∧
 ∀ (y_3 : Unit),
 True →
 Same ⟨b, 7, none⟩ b ∧
 FnOk Try.prog 68 spiC ∧
 true = true ∧
 ∃ (x_7 : SpiX),
 [slice y.f7.a y.f7.n y.f7.cap] = [slice x_7.s.a x_7.s.n x_7.s.cap] ∧
 [Atom.pred (Wp.rest x_6.g x_6.D)] = [Atom.pred (Wp.rest x_7.g x_7.D)] ∧
 (SlT x_7.g Ty.int x_7.s ∧ ∀ (b p : Nat) (v : Value), x_7.D = some (b, p, v) → ∀ (m : Nat), x_7.g b ≠ some (Ty.int, m)) ∧
 True ∧
 ∀ (y_4 : Unit),
 True →
 Same ⟨b, 8, none⟩ b ∧
 FnOk Try.prog 68 spiC ∧
 true = true ∧
 ∃ (x_8 : SpiX),
 [slice y.f8.a y.f8.n y.f8.cap] = [slice x_8.s.a x_8.s.n x_8.s.cap] ∧
 [Atom.pred (Wp.rest x_7.g x_7.D)] = [Atom.pred (Wp.rest x_8.g x_8.D)] ∧
 (SlT x_8.g Ty.int x_8.s ∧ ∀ (b p : Nat) (v : Value), x_8.D = some (b, p, v) → ∀ (m : Nat), x_8.g b ≠ some (Ty.int, m)) ∧
 True ∧
 ∀ (y_5 : Unit),
 True →
 Same ⟨b, 9, none⟩ b ∧
 FnOk Try.prog 68 spiC ∧
 true = true ∧
 ∃ (x_9 : SpiX),
 [slice y.f9.a y.f9.n y.f9.cap] = [slice x_9.s.a x_9.s.n x_9.s.cap] ∧
 [Atom.pred (Wp.rest x_8.g x_8.D)] = [Atom.pred (Wp.rest x_9.g x_9.D)] ∧
 (SlT x_9.g Ty.int x_9.s ∧ ∀ (b p : Nat) (v : Value), x_9.D = some (b, p, v) → ∀ (m : Nat), x_9.g b ≠ some (Ty.int, m)) ∧
 True ∧
 ∀ (y_6 : Unit),
 True →
 Same ⟨b, 11, none⟩ b ∧
 ∃ (n : Nat),
 (∃ (x_10 : SpI),
 ((x_10.k < x.w.vs.n ∧ x_10.D = none ∧ SlT x.g Ty.par x_10.y.f11 ∧ x_10.j ≤ x_10.y.f11.n) ∧ x_10.k = n) ∧
 (pointer (some ⟨x_1.b1, 0, none⟩) = pointer (some ⟨x_10.b1, 0, none⟩) ∧ func (Fn.func 68) { toList := [] } { toList := [] } = func (Fn.func 68) { toList := [] } { toList := [] } ∧ int i64 (↑x_1.k : Int) = int i64 (↑x_10.k : Int) ∧ pointer (some ⟨b, 0, none⟩) = pointer (some ⟨x_10.b4, 0, none⟩) ∧ int i64 (↑x.w.vs.n : Int) = int i64 (↑x.w.vs.n : Int) ∧ int i64 (↑x_1.k : Int) = int i64 (↑x_10.k : Int) ∧ int i64 (↑y.f11.n : Int) = int i64 (↑x_10.y.f11.n : Int) ∧ int i64 (0 : Int) = int i64 (↑x_10.j : Int) ∧ True) ∧
 Ent
 [(0, Atom.pred (Wp.rest x_9.g x_9.D)), (1, F), (2, Atom.cells x_1.b1 (chS x.c x.w) 28),
 (6050, Atom.cells b [string y.f0, int i64 y.f1, int i64 y.f2, slice y.f3.a y.f3.n y.f3.cap, int i64 y.f4, slice y.f5.a y.f5.n y.f5.cap, slice y.f6.a y.f6.n y.f6.cap, slice y.f7.a y.f7.n y.f7.cap, slice y.f8.a y.f8.n y.f8.cap, slice y.f9.a y.f9.n y.f9.cap, int i64 y.f10, slice y.f11.a y.f11.n y.f11.cap, string y.f12] 61)]
 [(0, Atom.pred (Wp.rest x.g x_10.D)), (1, F), (2, Atom.cells x_10.b1 (chS x.c x.w) 28),
 (3, Atom.cells x_10.b4 [string x_10.y.f0, int i64 x_10.y.f1, int i64 x_10.y.f2, slice x_10.y.f3.a x_10.y.f3.n x_10.y.f3.cap, int i64 x_10.y.f4, slice x_10.y.f5.a x_10.y.f5.n x_10.y.f5.cap, slice x_10.y.f6.a x_10.y.f6.n x_10.y.f6.cap, slice x_10.y.f7.a x_10.y.f7.n x_10.y.f7.cap, slice x_10.y.f8.a x_10.y.f8.n x_10.y.f8.cap, slice x_10.y.f9.a x_10.y.f9.n x_10.y.f9.cap, int i64 x_10.y.f10, slice x_10.y.f11.a x_10.y.f11.n x_10.y.f11.cap, string x_10.y.f12] 61)]) ∧
 ∀ (x_10 : SpI) (js : Nat → Value),
 (x_10.k < x.w.vs.n ∧ x_10.D = none ∧ SlT x.g Ty.par x_10.y.f11 ∧ x_10.j ≤ x_10.y.f11.n) ∧ x_10.k = n →
 Br (decide ((↑x_10.j : Int) < (↑x_10.y.f11.n : Int)))
 (Same ⟨x_10.b4, 11, none⟩ x_10.b4 ∧
 QOpOk Try.prog (opIn Try.f34 15 4) (ixQ 2) ∧
 ∃ (x_11 : IxQX),
 [slice x_10.y.f11.a x_10.y.f11.n x_10.y.f11.cap, int i64 (↑x_10.j : Int)] = [slice (some ⟨x_11.b, x_11.o, none⟩) x_11.len x_11.cap, int i64 x_11.n] ∧
 ((0 : Int) ≤ x_11.n ∧ x_11.n < (↑x_11.len : Int)) ∧
 OpOk Try.prog (opIn Try.f34 15 6) st1C ∧
 true = true ∧
 ∃ (x_12 : StoY),
 [pointer (some ⟨x_11.b, x_11.o + x_11.n.toNat * 2, none⟩), string (ByteArray.mk #[(63 : UInt8)])] = [pointer (some ⟨x_12.b, x_12.o, none⟩), x_12.v] ∧
 [Atom.pred (Wp.rest x.g x_10.D)] = [Atom.pred (Wp.rest x_12.g x_12.D)] ∧
 ((x_12.g x_12.b = some (x_12.t, x_12.n) ∧ x_12.i < x_12.n ∧ x_12.o = x_12.i * x_12.t.len + x_12.j) ∧ x_12.t.ks[x_12.j]? = some x_12.k ∧ WV x_12.g x_12.k x_12.v ∧ ∀ (b p : Nat) (v : Value), x_12.D = some (b, p, v) → ¬(b = x_12.b ∧ p = x_12.o)) ∧
 True ∧
 ∀ (y : Unit),
 True →
 ((-9223372036854775808 : Int) ≤ (↑x_10.j : Int) + (1 : Int) ∧ (↑x_10.j : Int) + (1 : Int) ≤ (9223372036854775807 : Int)) ∧
 ∃ (y : SpI),
 ((y.k < x.w.vs.n ∧ y.D = none ∧ SlT x.g Ty.par y.y.f11 ∧ y.j ≤ y.y.f11.n) ∧ y.k = n) ∧
 (pointer (some ⟨x_10.b1, 0, none⟩) = pointer (some ⟨y.b1, 0, none⟩) ∧
 func (Fn.func 68) { toList := [] } { toList := [] } = func (Fn.func 68) { toList := [] } { toList := [] } ∧ int i64 (↑x_10.k : Int) = int i64 (↑y.k : Int) ∧ pointer (some ⟨x_10.b4, 0, none⟩) = pointer (some ⟨y.b4, 0, none⟩) ∧ int i64 (↑x.w.vs.n : Int) = int i64 (↑x.w.vs.n : Int) ∧ int i64 (↑x_10.k : Int) = int i64 (↑y.k : Int) ∧ int i64 (↑x_10.y.f11.n : Int) = int i64 (↑y.y.f11.n : Int) ∧ int i64 ((↑x_10.j : Int) + (1 : Int)) = int i64 (↑y.j : Int) ∧ True) ∧
 Ent
 [(0, Atom.pred (Wp.rest x_12.g x_12.D)), (1, F), (2, Atom.cells x_10.b1 (chS x.c x.w) 28),
 (3, Atom.cells x_10.b4 [string x_10.y.f0, int i64 x_10.y.f1, int i64 x_10.y.f2, slice x_10.y.f3.a x_10.y.f3.n x_10.y.f3.cap, int i64 x_10.y.f4, slice x_10.y.f5.a x_10.y.f5.n x_10.y.f5.cap, slice x_10.y.f6.a x_10.y.f6.n x_10.y.f6.cap, slice x_10.y.f7.a x_10.y.f7.n x_10.y.f7.cap, slice x_10.y.f8.a x_10.y.f8.n x_10.y.f8.cap, slice x_10.y.f9.a x_10.y.f9.n x_10.y.f9.cap, int i64 x_10.y.f10, slice x_10.y.f11.a x_10.y.f11.n x_10.y.f11.cap, string x_10.y.f12] 61)]
 [(0, Atom.pred (Wp.rest x.g y.D)), (1, F), (2, Atom.cells y.b1 (chS x.c x.w) 28),
 (3, Atom.cells y.b4 [string y.y.f0, int i64 y.y.f1, int i64 y.y.f2, slice y.y.f3.a y.y.f3.n y.y.f3.cap, int i64 y.y.f4, slice y.y.f5.a y.y.f5.n y.y.f5.cap, slice y.y.f6.a y.y.f6.n y.y.f6.cap, slice y.y.f7.a y.y.f7.n y.y.f7.cap, slice y.y.f8.a y.y.f8.n y.y.f8.cap, slice y.y.f9.a y.y.f9.n y.y.f9.cap, int i64 y.y.f10, slice y.y.f11.a y.y.f11.n y.y.f11.cap, string y.y.f12] 61)] ∧
 y.y.f11.n - y.j < x_10.y.f11.n - x_10.j)
 (Same ⟨x_10.b1, 3, none⟩ x_10.b1 ∧
 QOpOk Try.prog (opIn Try.f34 17 4) (ixQ 13) ∧
 ∃ (x_11 : IxQX),
 [slice x.w.vs.a x.w.vs.n x.w.vs.cap, int i64 (↑x_10.k : Int)] = [slice (some ⟨x_11.b, x_11.o, none⟩) x_11.len x_11.cap, int i64 x_11.n] ∧
 ((0 : Int) ≤ x_11.n ∧ x_11.n < (↑x_11.len : Int)) ∧
 OpOk Try.prog (opIn Try.f34 17 5) (stmT Ty.st) ∧
 true = true ∧
 ∃ (x_12 : StmX),
 [pointer (some ⟨x_11.b, x_11.o + x_11.n.toNat * 13, none⟩), agg { toList := [string (ByteArray.mk #[]), int i64 (9 : Int), int i64 (0 : Int), slice none 0 0, int i64 (0 : Int), slice none 0 0, slice none 0 0, slice none 0 0, slice none 0 0, slice none 0 0, int i64 (0 : Int), slice none 0 0, string (ByteArray.mk #[])] }] = [pointer (some ⟨x_12.b, x_12.o, none⟩), agg { toList := x_12.vs }] ∧
 [Atom.pred (Wp.rest x.g x_10.D)] = [Atom.pred (Wp.rest x_12.g x_12.D)] ∧
 (x_12.t = Ty.st ∧ (x_12.g x_12.b = some (x_12.t, x_12.n) ∧ x_12.i < x_12.n ∧ x_12.o = x_12.i * x_12.t.len) ∧ All2 (WV x_12.g) x_12.t.ks x_12.vs ∧ ∀ (b p : Nat) (v : Value), x_12.D' = some (b, p, v) → b ≠ x_12.b ∧ x_12.D = some (b, p, v)) ∧
 True ∧
 ∀ (y : Unit),
 True →
 ((-9223372036854775808 : Int) ≤ (↑x_10.k : Int) + (1 : Int) ∧ (↑x_10.k : Int) + (1 : Int) ≤ (9223372036854775807 : Int)) ∧
 ∃ (y : SpI),
 (y.k ≤ x.w.vs.n ∧ y.D = none) ∧
 (pointer (some ⟨x_10.b1, 0, none⟩) = pointer (some ⟨y.b1, 0, none⟩) ∧ func (Fn.func 68) { toList := [] } { toList := [] } = func (Fn.func 68) { toList := [] } { toList := [] } ∧ int i64 (↑x.w.vs.n : Int) = int i64 (↑x.w.vs.n : Int) ∧ int i64 ((↑x_10.k : Int) + (1 : Int)) = int i64 (↑y.k : Int) ∧ True) ∧
 Ent
 [(0, Atom.pred (Wp.rest x_12.g x_12.D')), (1, F), (2, Atom.cells x_10.b1 (chS x.c x.w) 28),
 (3, Atom.cells x_10.b4 [string x_10.y.f0, int i64 x_10.y.f1, int i64 x_10.y.f2, slice x_10.y.f3.a x_10.y.f3.n x_10.y.f3.cap, int i64 x_10.y.f4, slice x_10.y.f5.a x_10.y.f5.n x_10.y.f5.cap, slice x_10.y.f6.a x_10.y.f6.n x_10.y.f6.cap, slice x_10.y.f7.a x_10.y.f7.n x_10.y.f7.cap, slice x_10.y.f8.a x_10.y.f8.n x_10.y.f8.cap, slice x_10.y.f9.a x_10.y.f9.n x_10.y.f9.cap, int i64 x_10.y.f10, slice x_10.y.f11.a x_10.y.f11.n x_10.y.f11.cap, string x_10.y.f12] 61)]
 [(0, Atom.pred (Wp.rest x.g y.D)), (1, F), (2, Atom.cells y.b1 (chS x.c x.w) 28)] ∧
 x.w.vs.n - y.k < x.w.vs.n - x_1.k))
 (Same ⟨x_1.b1, 4, none⟩ x_1.b1 ∧
 (∃ (x_2 : SpI),
 (x_2.k ≤ x.w.vt.n ∧ x_2.D = none) ∧
 (pointer (some ⟨x_1.b1, 0, none⟩) = pointer (some ⟨x_2.b1, 0, none⟩) ∧ func (Fn.func 68) { toList := [] } { toList := [] } = func (Fn.func 68) { toList := [] } { toList := [] } ∧ int i64 (↑x.w.vt.n : Int) = int i64 (↑x.w.vt.n : Int) ∧ int i64 (0 : Int) = int i64 (↑x_2.k : Int) ∧ True) ∧
 Ent [(0, Atom.pred (Wp.rest x.g x_1.D)), (1, F), (2, Atom.cells x_1.b1 (chS x.c x.w) 28)] [(0, Atom.pred (Wp.rest x.g x_2.D)), (1, F), (2, Atom.cells x_2.b1 (chS x.c x.w) 28)]) ∧
 ∀ (x_2 : SpI) (js : Nat → Value),
 x_2.k ≤ x.w.vt.n ∧ x_2.D = none →
 Br (decide ((↑x_2.k : Int) < (↑x.w.vt.n : Int)))
 (Same ⟨x_2.b1, 4, none⟩ x_2.b1 ∧
 QOpOk Try.prog (opIn Try.f34 22 4) (ixQ 6) ∧
 ∃ (x_3 : IxQX),
 [slice x.w.vt.a x.w.vt.n x.w.vt.cap, int i64 (↑x_2.k : Int)] = [slice (some ⟨x_3.b, x_3.o, none⟩) x_3.len x_3.cap, int i64 x_3.n] ∧
 ((0 : Int) ≤ x_3.n ∧ x_3.n < (↑x_3.len : Int)) ∧
 OpOk Try.prog { dst := some 83, op := Op.load 29 (Operand.tmp 82), type := 29, pos := "more.go:47", after := { toList := [{ on := 5, ground := Ground.data }] }, guard := none } ldSC ∧
 true = true ∧
 ∃ (x_4 : WldX),
 [pointer (some ⟨x_3.b, x_3.o + x_3.n.toNat * 6 + 3, none⟩)] = [pointer (some ⟨x_4.b, x_4.o, none⟩)] ∧
 [Atom.pred (Wp.rest x.g x_2.D)] = [Atom.pred (Wp.rest x_4.g x_4.D)] ∧
 ((x_4.g x_4.b = some (x_4.t, x_4.n) ∧ x_4.i < x_4.n ∧ x_4.o = x_4.i * x_4.t.len + x_4.j) ∧ x_4.t.ks[x_4.j]? = some (CK.sl x_4.k)) ∧
 True ∧
 ∀ (y : Sl),
 SlT x_4.g x_4.k y →
 FnOk Try.prog 68 spiC ∧
 true = true ∧
 ∃ (x_5 : SpiX),
 [slice y.a y.n y.cap] = [slice x_5.s.a x_5.s.n x_5.s.cap] ∧
 [Atom.pred (Wp.rest x_4.g (some (x_4.b, x_4.o, slice y.a y.n y.cap)))] = [Atom.pred (Wp.rest x_5.g x_5.D)] ∧
 (SlT x_5.g Ty.int x_5.s ∧ ∀ (b p : Nat) (v : Value), x_5.D = some (b, p, v) → ∀ (m : Nat), x_5.g b ≠ some (Ty.int, m)) ∧
 True ∧
 ∀ (y : Unit),
 True →
 Same ⟨x_2.b1, 4, none⟩ x_2.b1 ∧
 QOpOk Try.prog (opIn Try.f34 23 3) (ixQ 6) ∧
 ∃ (x_6 : IxQX),
 [slice x.w.vt.a x.w.vt.n x.w.vt.cap, int i64 (↑x_2.k : Int)] = [slice (some ⟨x_6.b, x_6.o, none⟩) x_6.len x_6.cap, int i64 x_6.n] ∧
 ((0 : Int) ≤ x_6.n ∧ x_6.n < (↑x_6.len : Int)) ∧
 OpOk Try.prog { dst := some 90, op := Op.load 72 (Operand.tmp 89), type := 72, pos := "more.go:48", after := { toList := [{ on := 4, ground := Ground.data }] }, guard := none } ldSC ∧
 true = true ∧
 ∃ (x_7 : WldX),
 [pointer (some ⟨x_6.b, x_6.o + x_6.n.toNat * 6 + 1, none⟩)] = [pointer (some ⟨x_7.b, x_7.o, none⟩)] ∧
 [Atom.pred (Wp.rest x_5.g x_5.D)] = [Atom.pred (Wp.rest x_7.g x_7.D)] ∧
 ((x_7.g x_7.b = some (x_7.t, x_7.n) ∧ x_7.i < x_7.n ∧ x_7.o = x_7.i * x_7.t.len + x_7.j) ∧ x_7.t.ks[x_7.j]? = some (CK.sl x_7.k)) ∧
 True ∧
 ∀ (y : Sl),
 SlT x_7.g x_7.k y →
 ∃ (n : Nat),
 (∃ (x_8 : SpI),
 ((x_8.k < x.w.vt.n ∧ (x.w.vt.a = some ⟨x_8.bb, 0, none⟩ ∧ x.g x_8.bb = some (Ty.tr, x_8.m)) ∧ x_8.D = some (x_8.bb, 0 + (↑x_8.k : Int).toNat * 6 + 1, slice x_8.s.a x_8.s.n x_8.s.cap) ∧ SlT x.g Ty.str x_8.s ∧ x_8.j ≤ x_8.s.n) ∧ x_8.k = n) ∧
 (pointer (some ⟨x_2.b1, 0, none⟩) = pointer (some ⟨x_8.b1, 0, none⟩) ∧ func (Fn.func 68) { toList := [] } { toList := [] } = func (Fn.func 68) { toList := [] } { toList := [] } ∧ int i64 (↑x_2.k : Int) = int i64 (↑x_8.k : Int) ∧ int i64 (↑x.w.vt.n : Int) = int i64 (↑x.w.vt.n : Int) ∧ int i64 (↑x_2.k : Int) = int i64 (↑x_8.k : Int) ∧ int i64 (↑y.n : Int) = int i64 (↑x_8.s.n : Int) ∧ int i64 (0 : Int) = int i64 (↑x_8.j : Int) ∧ True) ∧
 Ent [(0, Atom.pred (Wp.rest x_7.g (some (x_7.b, x_7.o, slice y.a y.n y.cap)))), (1, F), (2, Atom.cells x_2.b1 (chS x.c x.w) 28)] [(0, Atom.pred (Wp.rest x.g x_8.D)), (1, F), (2, Atom.cells x_8.b1 (chS x.c x.w) 28)]) ∧
 ∀ (x_8 : SpI) (js : Nat → Value),
 (x_8.k < x.w.vt.n ∧ (x.w.vt.a = some ⟨x_8.bb, 0, none⟩ ∧ x.g x_8.bb = some (Ty.tr, x_8.m)) ∧ x_8.D = some (x_8.bb, 0 + (↑x_8.k : Int).toNat * 6 + 1, slice x_8.s.a x_8.s.n x_8.s.cap) ∧ SlT x.g Ty.str x_8.s ∧ x_8.j ≤ x_8.s.n) ∧ x_8.k = n →
 Br (decide ((↑x_8.j : Int) < (↑x_8.s.n : Int)))
 (Same ⟨x_8.b1, 4, none⟩ x_8.b1 ∧
 QOpOk Try.prog (opIn Try.f34 26 3) (ixQ 6) ∧
 ∃ (x_9 : IxQX),
 [slice x.w.vt.a x.w.vt.n x.w.vt.cap, int i64 (↑x_8.k : Int)] = [slice (some ⟨x_9.b, x_9.o, none⟩) x_9.len x_9.cap, int i64 x_9.n] ∧
 ((0 : Int) ≤ x_9.n ∧ x_9.n < (↑x_9.len : Int)) ∧
 ∃ (a : Option Addr),
 ∃ (l : Nat),
 ∃ (c : Nat),
 Look (Atom.pred (Wp.rest x.g x_8.D)) ⟨x_9.b, x_9.o + x_9.n.toNat * 6 + 1, none⟩ (slice a l c) ∧
 QOpOk Try.prog (opIn Try.f34 26 7) (ixQ 1) ∧
 ∃ (x_10 : IxQX),
 [slice a l c, int i64 (↑x_8.j : Int)] = [slice (some ⟨x_10.b, x_10.o, none⟩) x_10.len x_10.cap, int i64 x_10.n] ∧
 ((0 : Int) ≤ x_10.n ∧ x_10.n < (↑x_10.len : Int)) ∧
 OpOk Try.prog (opIn Try.f34 26 8) st1C ∧
 true = true ∧
 ∃ (x_11 : StoY),
 [pointer (some ⟨x_10.b, x_10.o + x_10.n.toNat * 1, none⟩), string (ByteArray.mk #[(63 : UInt8)])] = [pointer (some ⟨x_11.b, x_11.o, none⟩), x_11.v] ∧
 [Atom.pred (Wp.rest x.g x_8.D)] = [Atom.pred (Wp.rest x_11.g x_11.D)] ∧
 ((x_11.g x_11.b = some (x_11.t, x_11.n) ∧ x_11.i < x_11.n ∧ x_11.o = x_11.i * x_11.t.len + x_11.j) ∧ x_11.t.ks[x_11.j]? = some x_11.k ∧ WV x_11.g x_11.k x_11.v ∧ ∀ (b p : Nat) (v : Value), x_11.D = some (b, p, v) → ¬(b = x_11.b ∧ p = x_11.o)) ∧
 True ∧
 ∀ (y : Unit),
 True →
 ((-9223372036854775808 : Int) ≤ (↑x_8.j : Int) + (1 : Int) ∧ (↑x_8.j : Int) + (1 : Int) ≤ (9223372036854775807 : Int)) ∧
 ∃ (y : SpI),
 ((y.k < x.w.vt.n ∧ (x.w.vt.a = some ⟨y.bb, 0, none⟩ ∧ x.g y.bb = some (Ty.tr, y.m)) ∧ y.D = some (y.bb, 0 + (↑y.k : Int).toNat * 6 + 1, slice y.s.a y.s.n y.s.cap) ∧ SlT x.g Ty.str y.s ∧ y.j ≤ y.s.n) ∧ y.k = n) ∧
 (pointer (some ⟨x_8.b1, 0, none⟩) = pointer (some ⟨y.b1, 0, none⟩) ∧ func (Fn.func 68) { toList := [] } { toList := [] } = func (Fn.func 68) { toList := [] } { toList := [] } ∧ int i64 (↑x_8.k : Int) = int i64 (↑y.k : Int) ∧ int i64 (↑x.w.vt.n : Int) = int i64 (↑x.w.vt.n : Int) ∧ int i64 (↑x_8.k : Int) = int i64 (↑y.k : Int) ∧ int i64 (↑x_8.s.n : Int) = int i64 (↑y.s.n : Int) ∧ int i64 ((↑x_8.j : Int) + (1 : Int)) = int i64 (↑y.j : Int) ∧ True) ∧
 Ent [(0, Atom.pred (Wp.rest x_11.g x_11.D)), (1, F), (2, Atom.cells x_8.b1 (chS x.c x.w) 28)] [(0, Atom.pred (Wp.rest x.g y.D)), (1, F), (2, Atom.cells y.b1 (chS x.c x.w) 28)] ∧ y.s.n - y.j < x_8.s.n - x_8.j)
 (Same ⟨x_8.b1, 4, none⟩ x_8.b1 ∧
 QOpOk Try.prog (opIn Try.f34 28 4) (ixQ 6) ∧
 ∃ (x_9 : IxQX),
 [slice x.w.vt.a x.w.vt.n x.w.vt.cap, int i64 (↑x_8.k : Int)] = [slice (some ⟨x_9.b, x_9.o, none⟩) x_9.len x_9.cap, int i64 x_9.n] ∧
 ((0 : Int) ≤ x_9.n ∧ x_9.n < (↑x_9.len : Int)) ∧
 OpOk Try.prog (opIn Try.f34 28 5) (stmT Ty.tr) ∧
 true = true ∧
 ∃ (x_10 : StmX),
 [pointer (some ⟨x_9.b, x_9.o + x_9.n.toNat * 6, none⟩), agg { toList := [int i64 (-9 : Int), slice none 0 0, string (ByteArray.mk #[]), slice none 0 0, bool false, int i64 (0 : Int)] }] = [pointer (some ⟨x_10.b, x_10.o, none⟩), agg { toList := x_10.vs }] ∧
 [Atom.pred (Wp.rest x.g x_8.D)] = [Atom.pred (Wp.rest x_10.g x_10.D)] ∧
 (x_10.t = Ty.tr ∧ (x_10.g x_10.b = some (x_10.t, x_10.n) ∧ x_10.i < x_10.n ∧ x_10.o = x_10.i * x_10.t.len) ∧ All2 (WV x_10.g) x_10.t.ks x_10.vs ∧ ∀ (b p : Nat) (v : Value), x_10.D' = some (b, p, v) → b ≠ x_10.b ∧ x_10.D = some (b, p, v)) ∧
 True ∧
 ∀ (y : Unit),
 True →
 ((-9223372036854775808 : Int) ≤ (↑x_8.k : Int) + (1 : Int) ∧ (↑x_8.k : Int) + (1 : Int) ≤ (9223372036854775807 : Int)) ∧
 ∃ (y : SpI),
 (y.k ≤ x.w.vt.n ∧ y.D = none) ∧
 (pointer (some ⟨x_8.b1, 0, none⟩) = pointer (some ⟨y.b1, 0, none⟩) ∧ func (Fn.func 68) { toList := [] } { toList := [] } = func (Fn.func 68) { toList := [] } { toList := [] } ∧ int i64 (↑x.w.vt.n : Int) = int i64 (↑x.w.vt.n : Int) ∧ int i64 ((↑x_8.k : Int) + (1 : Int)) = int i64 (↑y.k : Int) ∧ True) ∧
 Ent [(0, Atom.pred (Wp.rest x_10.g x_10.D')), (1, F), (2, Atom.cells x_8.b1 (chS x.c x.w) 28)] [(0, Atom.pred (Wp.rest x.g y.D)), (1, F), (2, Atom.cells y.b1 (chS x.c x.w) 28)] ∧ x.w.vt.n - y.k < x.w.vt.n - x_2.k))
 (Same ⟨x_2.b1, 5, none⟩ x_2.b1 ∧
 (∃ (x_3 : SpI),
 (x_3.k ≤ x.w.vb.n ∧ kOk x.g x_3.D Ty.blk) ∧
 (pointer (some ⟨x_2.b1, 0, none⟩) = pointer (some ⟨x_3.b1, 0, none⟩) ∧ func (Fn.func 68) { toList := [] } { toList := [] } = func (Fn.func 68) { toList := [] } { toList := [] } ∧ int i64 (↑x.w.vb.n : Int) = int i64 (↑x.w.vb.n : Int) ∧ int i64 (0 : Int) = int i64 (↑x_3.k : Int) ∧ True) ∧
 Ent [(0, Atom.pred (Wp.rest x.g x_2.D)), (1, F), (2, Atom.cells x_2.b1 (chS x.c x.w) 28)] [(0, Atom.pred (Wp.rest x.g x_3.D)), (1, F), (2, Atom.cells x_3.b1 (chS x.c x.w) 28)]) ∧
 ∀ (x_3 : SpI) (js : Nat → Value),
 x_3.k ≤ x.w.vb.n ∧ kOk x.g x_3.D Ty.blk →
 Br (decide ((↑x_3.k : Int) < (↑x.w.vb.n : Int)))
 (Same ⟨x_3.b1, 5, none⟩ x_3.b1 ∧
 QOpOk Try.prog (opIn Try.f34 33 3) (ixQ 1) ∧
 ∃ (x_4 : IxQX),
 [slice x.w.vb.a x.w.vb.n x.w.vb.cap, int i64 (↑x_3.k : Int)] = [slice (some ⟨x_4.b, x_4.o, none⟩) x_4.len x_4.cap, int i64 x_4.n] ∧
 ((0 : Int) ≤ x_4.n ∧ x_4.n < (↑x_4.len : Int)) ∧
 OpOk Try.prog { dst := some 121, op := Op.load 81 (Operand.tmp 120), type := 81, pos := "more.go:54", after := { toList := [{ on := 4, ground := Ground.data }] }, guard := none } ldSC ∧
 true = true ∧
 ∃ (x_5 : WldX),
 [pointer (some ⟨x_4.b, x_4.o + x_4.n.toNat * 1, none⟩)] = [pointer (some ⟨x_5.b, x_5.o, none⟩)] ∧
 [Atom.pred (Wp.rest x.g x_3.D)] = [Atom.pred (Wp.rest x_5.g x_5.D)] ∧
 ((x_5.g x_5.b = some (x_5.t, x_5.n) ∧ x_5.i < x_5.n ∧ x_5.o = x_5.i * x_5.t.len + x_5.j) ∧ x_5.t.ks[x_5.j]? = some (CK.sl x_5.k)) ∧
 True ∧
 ∀ (y : Sl),
 SlT x_5.g x_5.k y →
 ∃ (n : Nat),
 (∃ (x_6 : SpI),
 ((x_6.k < x.w.vb.n ∧ (x.w.vb.a = some ⟨x_6.bb, 0, none⟩ ∧ x.g x_6.bb = some (Ty.blk, x_6.m)) ∧ x_6.D = some (x_6.bb, 0 + (↑x_6.k : Int).toNat * 1 + 0, slice x_6.s.a x_6.s.n x_6.s.cap) ∧ SlT x.g Ty.act x_6.s ∧ x_6.j ≤ x_6.s.n) ∧ x_6.k = n) ∧
 (pointer (some ⟨x_3.b1, 0, none⟩) = pointer (some ⟨x_6.b1, 0, none⟩) ∧ func (Fn.func 68) { toList := [] } { toList := [] } = func (Fn.func 68) { toList := [] } { toList := [] } ∧ int i64 (↑x_3.k : Int) = int i64 (↑x_6.k : Int) ∧ int i64 (↑x.w.vb.n : Int) = int i64 (↑x.w.vb.n : Int) ∧ int i64 (↑x_3.k : Int) = int i64 (↑x_6.k : Int) ∧ int i64 (↑y.n : Int) = int i64 (↑x_6.s.n : Int) ∧ int i64 (0 : Int) = int i64 (↑x_6.j : Int) ∧ True) ∧
 Ent [(0, Atom.pred (Wp.rest x_5.g (some (x_5.b, x_5.o, slice y.a y.n y.cap)))), (1, F), (2, Atom.cells x_3.b1 (chS x.c x.w) 28)] [(0, Atom.pred (Wp.rest x.g x_6.D)), (1, F), (2, Atom.cells x_6.b1 (chS x.c x.w) 28)]) ∧
 ∀ (x_6 : SpI) (js : Nat → Value),
 (x_6.k < x.w.vb.n ∧ (x.w.vb.a = some ⟨x_6.bb, 0, none⟩ ∧ x.g x_6.bb = some (Ty.blk, x_6.m)) ∧ x_6.D = some (x_6.bb, 0 + (↑x_6.k : Int).toNat * 1 + 0, slice x_6.s.a x_6.s.n x_6.s.cap) ∧ SlT x.g Ty.act x_6.s ∧ x_6.j ≤ x_6.s.n) ∧ x_6.k = n →
 Br (decide ((↑x_6.j : Int) < (↑x_6.s.n : Int)))
 (Same ⟨x_6.b1, 5, none⟩ x_6.b1 ∧
 QOpOk Try.prog (opIn Try.f34 36 3) (ixQ 1) ∧
 ∃ (x_7 : IxQX),
 [slice x.w.vb.a x.w.vb.n x.w.vb.cap, int i64 (↑x_6.k : Int)] = [slice (some ⟨x_7.b, x_7.o, none⟩) x_7.len x_7.cap, int i64 x_7.n] ∧
 ((0 : Int) ≤ x_7.n ∧ x_7.n < (↑x_7.len : Int)) ∧
 ∃ (a : Option Addr),
 ∃ (l : Nat),
 ∃ (c : Nat),
 Look (Atom.pred (Wp.rest x.g x_6.D)) ⟨x_7.b, x_7.o + x_7.n.toNat * 1, none⟩ (slice a l c) ∧
 QOpOk Try.prog (opIn Try.f34 36 7) (ixQ 19) ∧
 ∃ (x_8 : IxQX),
 [slice a l c, int i64 (↑x_6.j : Int)] = [slice (some ⟨x_8.b, x_8.o, none⟩) x_8.len x_8.cap, int i64 x_8.n] ∧
 ((0 : Int) ≤ x_8.n ∧ x_8.n < (↑x_8.len : Int)) ∧
 OpOk Try.prog { dst := some 134, op := Op.load 86 (Operand.tmp 133), type := 86, pos := "more.go:55", after := { toList := [{ on := 7, ground := Ground.data }] }, guard := none } ldAcC ∧
 true = true ∧
 ∃ (x_9 : WldX),
 [pointer (some ⟨x_8.b, x_8.o + x_8.n.toNat * 19, none⟩)] = [pointer (some ⟨x_9.b, x_9.o, none⟩)] ∧
 [Atom.pred (Wp.rest x.g x_6.D)] = [Atom.pred (Wp.rest x_9.g x_9.D)] ∧
 (x_9.g x_9.b = some (Ty.act, x_9.n) ∧ x_9.i < x_9.n ∧ x_9.o = x_9.i * 19) ∧
 True ∧
 ∀ (y : AcW),
 SlT x_9.g Ty.str y.f14 ∧ SlT x_9.g Ty.int y.f15 ∧ SlT x_9.g Ty.par y.f17 →
 ∀ (b : Nat),
 Same ⟨b, 0, none⟩ b ∧
 Same ⟨b, 1, none⟩ b ∧
 Same ⟨b, 2, none⟩ b ∧
 Same ⟨b, 3, none⟩ b ∧
 Same ⟨b, 4, none⟩ b ∧
 Same ⟨b, 5, none⟩ b ∧
 Same ⟨b, 6, none⟩ b ∧
 Same ⟨b, 7, none⟩ b ∧
 Same ⟨b, 8, none⟩ b ∧
 Same ⟨b, 9, none⟩ b ∧
 Same ⟨b, 10, none⟩ b ∧
 Same ⟨b, 11, none⟩ b ∧
 Same ⟨b, 12, none⟩ b ∧
 Same ⟨b, 13, none⟩ b ∧
 Same ⟨b, 14, none⟩ b ∧
 Same ⟨b, 15, none⟩ b ∧
 Same ⟨b, 16, none⟩ b ∧
 Same ⟨b, 17, none⟩ b ∧
 Same ⟨b, 18, none⟩ b ∧
 Same ⟨b, 15, none⟩ b ∧
 FnOk Try.prog 68 spiC ∧
 true = true ∧
 ∃ (x_10 : SpiX),
 [slice y.f15.a y.f15.n y.f15.cap] = [slice x_10.s.a x_10.s.n x_10.s.cap] ∧
 [Atom.pred (Wp.rest x_9.g x_9.D)] = [Atom.pred (Wp.rest x_10.g x_10.D)] ∧
 (SlT x_10.g Ty.int x_10.s ∧ ∀ (b p : Nat) (v : Value), x_10.D = some (b, p, v) → ∀ (m : Nat), x_10.g b ≠ some (Ty.int, m)) ∧
 True ∧
 ∀ (y_1 : Unit),
 True →
 Same ⟨b, 14, none⟩ b ∧
 ∃ (n_1 : Nat × Nat × Nat),
 (∃ (x_11 : SpI),
 ((x_11.k < x.w.vb.n ∧ (x.w.vb.a = some ⟨x_11.bb, 0, none⟩ ∧ x.g x_11.bb = some (Ty.blk, x_11.m)) ∧ x_11.D = some (x_11.bb, 0 + (↑x_11.k : Int).toNat * 1 + 0, slice x_11.s.a x_11.s.n x_11.s.cap) ∧ SlT x.g Ty.act x_11.s ∧ x_11.j < x_11.s.n ∧ SlT x.g Ty.str x_11.z.f14 ∧ SlT x.g Ty.par x_11.z.f17 ∧ x_11.q ≤ x_11.z.f14.n) ∧ (x_11.k, x_11.j, x_11.s.n) = n_1) ∧
 (pointer (some ⟨x_6.b1, 0, none⟩) = pointer (some ⟨x_11.b1, 0, none⟩) ∧
 func (Fn.func 68) { toList := [] } { toList := [] } = func (Fn.func 68) { toList := [] } { toList := [] } ∧
 int i64 (↑x_6.k : Int) = int i64 (↑x_11.k : Int) ∧ int i64 (↑x_6.j : Int) = int i64 (↑x_11.j : Int) ∧ pointer (some ⟨b, 0, none⟩) = pointer (some ⟨x_11.b4, 0, none⟩) ∧ int i64 (↑x.w.vb.n : Int) = int i64 (↑x.w.vb.n : Int) ∧ int i64 (↑x_6.k : Int) = int i64 (↑x_11.k : Int) ∧ int i64 (↑x_6.s.n : Int) = int i64 (↑x_11.s.n : Int) ∧ int i64 (↑x_6.j : Int) = int i64 (↑x_11.j : Int) ∧ int i64 (↑y.f14.n : Int) = int i64 (↑x_11.z.f14.n : Int) ∧ int i64 (0 : Int) = int i64 (↑x_11.q : Int) ∧ True) ∧
 Ent
 [(0, Atom.pred (Wp.rest x_10.g x_10.D)), (1, F), (2, Atom.cells x_6.b1 (chS x.c x.w) 28),
 (37090, Atom.cells b [int i64 y.f0, string y.f1, string y.f2, string y.f3, string y.f4, string y.f5, string y.f6, string y.f7, int i64 y.f8, string y.f9, string y.f10, string y.f11, string y.f12, string y.f13, slice y.f14.a y.f14.n y.f14.cap, slice y.f15.a y.f15.n y.f15.cap, int i64 y.f16, slice y.f17.a y.f17.n y.f17.cap, string y.f18] 86)]
 [(0, Atom.pred (Wp.rest x.g x_11.D)), (1, F), (2, Atom.cells x_11.b1 (chS x.c x.w) 28),
 (3, Atom.cells x_11.b4 [int i64 x_11.z.f0, string x_11.z.f1, string x_11.z.f2, string x_11.z.f3, string x_11.z.f4, string x_11.z.f5, string x_11.z.f6, string x_11.z.f7, int i64 x_11.z.f8, string x_11.z.f9, string x_11.z.f10, string x_11.z.f11, string x_11.z.f12, string x_11.z.f13, slice x_11.z.f14.a x_11.z.f14.n x_11.z.f14.cap, slice x_11.z.f15.a x_11.z.f15.n x_11.z.f15.cap, int i64 x_11.z.f16, slice x_11.z.f17.a x_11.z.f17.n x_11.z.f17.cap, string x_11.z.f18] 86)]) ∧
 ∀ (x_11 : SpI) (js : Nat → Value),
 (x_11.k < x.w.vb.n ∧ (x.w.vb.a = some ⟨x_11.bb, 0, none⟩ ∧ x.g x_11.bb = some (Ty.blk, x_11.m)) ∧ x_11.D = some (x_11.bb, 0 + (↑x_11.k : Int).toNat * 1 + 0, slice x_11.s.a x_11.s.n x_11.s.cap) ∧ SlT x.g Ty.act x_11.s ∧ x_11.j < x_11.s.n ∧ SlT x.g Ty.str x_11.z.f14 ∧ SlT x.g Ty.par x_11.z.f17 ∧ x_11.q ≤ x_11.z.f14.n) ∧ (x_11.k, x_11.j, x_11.s.n) = n_1 →
 Br (decide ((↑x_11.q : Int) < (↑x_11.z.f14.n : Int)))
 (Same ⟨x_11.b4, 14, none⟩ x_11.b4 ∧
 QOpOk Try.prog (opIn Try.f34 41 3) (ixQ 1) ∧
 ∃ (x_12 : IxQX),
 [slice x_11.z.f14.a x_11.z.f14.n x_11.z.f14.cap, int i64 (↑x_11.q : Int)] = [slice (some ⟨x_12.b, x_12.o, none⟩) x_12.len x_12.cap, int i64 x_12.n] ∧
 ((0 : Int) ≤ x_12.n ∧ x_12.n < (↑x_12.len : Int)) ∧
 OpOk Try.prog (opIn Try.f34 41 4) st1C ∧
 true = true ∧
 ∃ (x_13 : StoY),
 [pointer (some ⟨x_12.b, x_12.o + x_12.n.toNat * 1, none⟩), string (ByteArray.mk #[(63 : UInt8)])] = [pointer (some ⟨x_13.b, x_13.o, none⟩), x_13.v] ∧
 [Atom.pred (Wp.rest x.g x_11.D)] = [Atom.pred (Wp.rest x_13.g x_13.D)] ∧
 ((x_13.g x_13.b = some (x_13.t, x_13.n) ∧ x_13.i < x_13.n ∧ x_13.o = x_13.i * x_13.t.len + x_13.j) ∧ x_13.t.ks[x_13.j]? = some x_13.k ∧ WV x_13.g x_13.k x_13.v ∧ ∀ (b p : Nat) (v : Value), x_13.D = some (b, p, v) → ¬(b = x_13.b ∧ p = x_13.o)) ∧
 True ∧
 ∀ (y : Unit),
 True →
 ((-9223372036854775808 : Int) ≤ (↑x_11.q : Int) + (1 : Int) ∧ (↑x_11.q : Int) + (1 : Int) ≤ (9223372036854775807 : Int)) ∧
 ∃ (y : SpI),
 ((y.k < x.w.vb.n ∧ (x.w.vb.a = some ⟨y.bb, 0, none⟩ ∧ x.g y.bb = some (Ty.blk, y.m)) ∧ y.D = some (y.bb, 0 + (↑y.k : Int).toNat * 1 + 0, slice y.s.a y.s.n y.s.cap) ∧ SlT x.g Ty.act y.s ∧ y.j < y.s.n ∧ SlT x.g Ty.str y.z.f14 ∧ SlT x.g Ty.par y.z.f17 ∧ y.q ≤ y.z.f14.n) ∧ (y.k, y.j, y.s.n) = n_1) ∧
 (pointer (some ⟨x_11.b1, 0, none⟩) = pointer (some ⟨y.b1, 0, none⟩) ∧
 func (Fn.func 68) { toList := [] } { toList := [] } = func (Fn.func 68) { toList := [] } { toList := [] } ∧
 int i64 (↑x_11.k : Int) = int i64 (↑y.k : Int) ∧
 int i64 (↑x_11.j : Int) = int i64 (↑y.j : Int) ∧ pointer (some ⟨x_11.b4, 0, none⟩) = pointer (some ⟨y.b4, 0, none⟩) ∧ int i64 (↑x.w.vb.n : Int) = int i64 (↑x.w.vb.n : Int) ∧ int i64 (↑x_11.k : Int) = int i64 (↑y.k : Int) ∧ int i64 (↑x_11.s.n : Int) = int i64 (↑y.s.n : Int) ∧ int i64 (↑x_11.j : Int) = int i64 (↑y.j : Int) ∧ int i64 (↑x_11.z.f14.n : Int) = int i64 (↑y.z.f14.n : Int) ∧ int i64 ((↑x_11.q : Int) + (1 : Int)) = int i64 (↑y.q : Int) ∧ True) ∧
 Ent
 [(0, Atom.pred (Wp.rest x_13.g x_13.D)), (1, F), (2, Atom.cells x_11.b1 (chS x.c x.w) 28),
 (3, Atom.cells x_11.b4 [int i64 x_11.z.f0, string x_11.z.f1, string x_11.z.f2, string x_11.z.f3, string x_11.z.f4, string x_11.z.f5, string x_11.z.f6, string x_11.z.f7, int i64 x_11.z.f8, string x_11.z.f9, string x_11.z.f10, string x_11.z.f11, string x_11.z.f12, string x_11.z.f13, slice x_11.z.f14.a x_11.z.f14.n x_11.z.f14.cap, slice x_11.z.f15.a x_11.z.f15.n x_11.z.f15.cap, int i64 x_11.z.f16, slice x_11.z.f17.a x_11.z.f17.n x_11.z.f17.cap, string x_11.z.f18] 86)]
 [(0, Atom.pred (Wp.rest x.g y.D)), (1, F), (2, Atom.cells y.b1 (chS x.c x.w) 28),
 (3, Atom.cells y.b4 [int i64 y.z.f0, string y.z.f1, string y.z.f2, string y.z.f3, string y.z.f4, string y.z.f5, string y.z.f6, string y.z.f7, int i64 y.z.f8, string y.z.f9, string y.z.f10, string y.z.f11, string y.z.f12, string y.z.f13, slice y.z.f14.a y.z.f14.n y.z.f14.cap, slice y.z.f15.a y.z.f15.n y.z.f15.cap, int i64 y.z.f16, slice y.z.f17.a y.z.f17.n y.z.f17.cap, string y.z.f18] 86)] ∧
 y.z.f14.n - y.q < x_11.z.f14.n - x_11.q)
 (Same ⟨x_11.b4, 17, none⟩ x_11.b4 ∧
 ∃ (n_2 : Nat × Nat × Nat),
 (∃ (x_12 : SpI),
 ((x_12.k < x.w.vb.n ∧ (x.w.vb.a = some ⟨x_12.bb, 0, none⟩ ∧ x.g x_12.bb = some (Ty.blk, x_12.m)) ∧ x_12.D = some (x_12.bb, 0 + (↑x_12.k : Int).toNat * 1 + 0, slice x_12.s.a x_12.s.n x_12.s.cap) ∧ SlT x.g Ty.act x_12.s ∧ x_12.j < x_12.s.n ∧ SlT x.g Ty.str x_12.z.f14 ∧ SlT x.g Ty.par x_12.z.f17 ∧ x_12.q ≤ x_12.z.f17.n) ∧ (x_12.k, x_12.j, x_12.s.n) = n_2) ∧
 (pointer (some ⟨x_11.b1, 0, none⟩) = pointer (some ⟨x_12.b1, 0, none⟩) ∧
 func (Fn.func 68) { toList := [] } { toList := [] } = func (Fn.func 68) { toList := [] } { toList := [] } ∧
 int i64 (↑x_11.k : Int) = int i64 (↑x_12.k : Int) ∧ int i64 (↑x_11.j : Int) = int i64 (↑x_12.j : Int) ∧ pointer (some ⟨x_11.b4, 0, none⟩) = pointer (some ⟨x_12.b4, 0, none⟩) ∧ int i64 (↑x.w.vb.n : Int) = int i64 (↑x.w.vb.n : Int) ∧ int i64 (↑x_11.k : Int) = int i64 (↑x_12.k : Int) ∧ int i64 (↑x_11.s.n : Int) = int i64 (↑x_12.s.n : Int) ∧ int i64 (↑x_11.j : Int) = int i64 (↑x_12.j : Int) ∧ int i64 (↑x_11.z.f17.n : Int) = int i64 (↑x_12.z.f17.n : Int) ∧ int i64 (0 : Int) = int i64 (↑x_12.q : Int) ∧ True) ∧
 Ent
 [(0, Atom.pred (Wp.rest x.g x_11.D)), (1, F), (2, Atom.cells x_11.b1 (chS x.c x.w) 28),
 (3, Atom.cells x_11.b4 [int i64 x_11.z.f0, string x_11.z.f1, string x_11.z.f2, string x_11.z.f3, string x_11.z.f4, string x_11.z.f5, string x_11.z.f6, string x_11.z.f7, int i64 x_11.z.f8, string x_11.z.f9, string x_11.z.f10, string x_11.z.f11, string x_11.z.f12, string x_11.z.f13, slice x_11.z.f14.a x_11.z.f14.n x_11.z.f14.cap, slice x_11.z.f15.a x_11.z.f15.n x_11.z.f15.cap, int i64 x_11.z.f16, slice x_11.z.f17.a x_11.z.f17.n x_11.z.f17.cap, string x_11.z.f18] 86)]
 [(0, Atom.pred (Wp.rest x.g x_12.D)), (1, F), (2, Atom.cells x_12.b1 (chS x.c x.w) 28),
 (3, Atom.cells x_12.b4 [int i64 x_12.z.f0, string x_12.z.f1, string x_12.z.f2, string x_12.z.f3, string x_12.z.f4, string x_12.z.f5, string x_12.z.f6, string x_12.z.f7, int i64 x_12.z.f8, string x_12.z.f9, string x_12.z.f10, string x_12.z.f11, string x_12.z.f12, string x_12.z.f13, slice x_12.z.f14.a x_12.z.f14.n x_12.z.f14.cap, slice x_12.z.f15.a x_12.z.f15.n x_12.z.f15.cap, int i64 x_12.z.f16, slice x_12.z.f17.a x_12.z.f17.n x_12.z.f17.cap, string x_12.z.f18] 86)]) ∧
 ∀ (x_12 : SpI) (js : Nat → Value),
 (x_12.k < x.w.vb.n ∧ (x.w.vb.a = some ⟨x_12.bb, 0, none⟩ ∧ x.g x_12.bb = some (Ty.blk, x_12.m)) ∧ x_12.D = some (x_12.bb, 0 + (↑x_12.k : Int).toNat * 1 + 0, slice x_12.s.a x_12.s.n x_12.s.cap) ∧ SlT x.g Ty.act x_12.s ∧ x_12.j < x_12.s.n ∧ SlT x.g Ty.str x_12.z.f14 ∧ SlT x.g Ty.par x_12.z.f17 ∧ x_12.q ≤ x_12.z.f17.n) ∧ (x_12.k, x_12.j, x_12.s.n) = n_2 →
 Br (decide ((↑x_12.q : Int) < (↑x_12.z.f17.n : Int)))
 (Same ⟨x_12.b4, 17, none⟩ x_12.b4 ∧
 QOpOk Try.prog (opIn Try.f34 46 4) (ixQ 2) ∧
 ∃ (x_13 : IxQX),
 [slice x_12.z.f17.a x_12.z.f17.n x_12.z.f17.cap, int i64 (↑x_12.q : Int)] = [slice (some ⟨x_13.b, x_13.o, none⟩) x_13.len x_13.cap, int i64 x_13.n] ∧
 ((0 : Int) ≤ x_13.n ∧ x_13.n < (↑x_13.len : Int)) ∧
 OpOk Try.prog (opIn Try.f34 46 6) st1C ∧
 true = true ∧
 ∃ (x_14 : StoY),
 [pointer (some ⟨x_13.b, x_13.o + x_13.n.toNat * 2 + 1, none⟩), string (ByteArray.mk #[(63 : UInt8)])] = [pointer (some ⟨x_14.b, x_14.o, none⟩), x_14.v] ∧
 [Atom.pred (Wp.rest x.g x_12.D)] = [Atom.pred (Wp.rest x_14.g x_14.D)] ∧
 ((x_14.g x_14.b = some (x_14.t, x_14.n) ∧ x_14.i < x_14.n ∧ x_14.o = x_14.i * x_14.t.len + x_14.j) ∧ x_14.t.ks[x_14.j]? = some x_14.k ∧ WV x_14.g x_14.k x_14.v ∧ ∀ (b p : Nat) (v : Value), x_14.D = some (b, p, v) → ¬(b = x_14.b ∧ p = x_14.o)) ∧
 True ∧
 ∀ (y : Unit),
 True →
 ((-9223372036854775808 : Int) ≤ (↑x_12.q : Int) + (1 : Int) ∧ (↑x_12.q : Int) + (1 : Int) ≤ (9223372036854775807 : Int)) ∧
 ∃ (y : SpI),
 ((y.k < x.w.vb.n ∧ (x.w.vb.a = some ⟨y.bb, 0, none⟩ ∧ x.g y.bb = some (Ty.blk, y.m)) ∧ y.D = some (y.bb, 0 + (↑y.k : Int).toNat * 1 + 0, slice y.s.a y.s.n y.s.cap) ∧ SlT x.g Ty.act y.s ∧ y.j < y.s.n ∧ SlT x.g Ty.str y.z.f14 ∧ SlT x.g Ty.par y.z.f17 ∧ y.q ≤ y.z.f17.n) ∧ (y.k, y.j, y.s.n) = n_2) ∧
 (pointer (some ⟨x_12.b1, 0, none⟩) = pointer (some ⟨y.b1, 0, none⟩) ∧
 func (Fn.func 68) { toList := [] } { toList := [] } = func (Fn.func 68) { toList := [] } { toList := [] } ∧
 int i64 (↑x_12.k : Int) = int i64 (↑y.k : Int) ∧
 int i64 (↑x_12.j : Int) = int i64 (↑y.j : Int) ∧ pointer (some ⟨x_12.b4, 0, none⟩) = pointer (some ⟨y.b4, 0, none⟩) ∧ int i64 (↑x.w.vb.n : Int) = int i64 (↑x.w.vb.n : Int) ∧ int i64 (↑x_12.k : Int) = int i64 (↑y.k : Int) ∧ int i64 (↑x_12.s.n : Int) = int i64 (↑y.s.n : Int) ∧ int i64 (↑x_12.j : Int) = int i64 (↑y.j : Int) ∧ int i64 (↑x_12.z.f17.n : Int) = int i64 (↑y.z.f17.n : Int) ∧ int i64 ((↑x_12.q : Int) + (1 : Int)) = int i64 (↑y.q : Int) ∧ True) ∧
 Ent
 [(0, Atom.pred (Wp.rest x_14.g x_14.D)), (1, F), (2, Atom.cells x_12.b1 (chS x.c x.w) 28),
 (3, Atom.cells x_12.b4 [int i64 x_12.z.f0, string x_12.z.f1, string x_12.z.f2, string x_12.z.f3, string x_12.z.f4, string x_12.z.f5, string x_12.z.f6, string x_12.z.f7, int i64 x_12.z.f8, string x_12.z.f9, string x_12.z.f10, string x_12.z.f11, string x_12.z.f12, string x_12.z.f13, slice x_12.z.f14.a x_12.z.f14.n x_12.z.f14.cap, slice x_12.z.f15.a x_12.z.f15.n x_12.z.f15.cap, int i64 x_12.z.f16, slice x_12.z.f17.a x_12.z.f17.n x_12.z.f17.cap, string x_12.z.f18] 86)]
 [(0, Atom.pred (Wp.rest x.g y.D)), (1, F), (2, Atom.cells y.b1 (chS x.c x.w) 28),
 (3, Atom.cells y.b4 [int i64 y.z.f0, string y.z.f1, string y.z.f2, string y.z.f3, string y.z.f4, string y.z.f5, string y.z.f6, string y.z.f7, int i64 y.z.f8, string y.z.f9, string y.z.f10, string y.z.f11, string y.z.f12, string y.z.f13, slice y.z.f14.a y.z.f14.n y.z.f14.cap, slice y.z.f15.a y.z.f15.n y.z.f15.cap, int i64 y.z.f16, slice y.z.f17.a y.z.f17.n y.z.f17.cap, string y.z.f18] 86)] ∧
 y.z.f17.n - y.q < x_12.z.f17.n - x_12.q)
 (Same ⟨x_12.b1, 5, none⟩ x_12.b1 ∧
 QOpOk Try.prog (opIn Try.f34 48 3) (ixQ 1) ∧
 ∃ (x_13 : IxQX),
 [slice x.w.vb.a x.w.vb.n x.w.vb.cap, int i64 (↑x_12.k : Int)] = [slice (some ⟨x_13.b, x_13.o, none⟩) x_13.len x_13.cap, int i64 x_13.n] ∧
 ((0 : Int) ≤ x_13.n ∧ x_13.n < (↑x_13.len : Int)) ∧
 ∃ (a : Option Addr),
 ∃ (l : Nat),
 ∃ (c : Nat),
 Look (Atom.pred (Wp.rest x.g x_12.D)) ⟨x_13.b, x_13.o + x_13.n.toNat * 1, none⟩ (slice a l c) ∧
 QOpOk Try.prog (opIn Try.f34 48 8) (ixQ 19) ∧
 ∃ (x_14 : IxQX),
 [slice a l c, int i64 (↑x_12.j : Int)] = [slice (some ⟨x_14.b, x_14.o, none⟩) x_14.len x_14.cap, int i64 x_14.n] ∧
 ((0 : Int) ≤ x_14.n ∧ x_14.n < (↑x_14.len : Int)) ∧
 OpOk Try.prog (opIn Try.f34 48 9) (stmT Ty.act) ∧
 true = true ∧
 ∃ (x_15 : StmX),
 [pointer (some ⟨x_14.b, x_14.o + x_14.n.toNat * 19, none⟩), agg { toList := [int i64 (99 : Int), string (ByteArray.mk #[]), string (ByteArray.mk #[]), string (ByteArray.mk #[]), string (ByteArray.mk #[]), string (ByteArray.mk #[]), string (ByteArray.mk #[]), string (ByteArray.mk #[]), int i64 (0 : Int), string (ByteArray.mk #[]), string (ByteArray.mk #[]), string (ByteArray.mk #[]), string (ByteArray.mk #[]), string (ByteArray.mk #[]), slice none 0 0, slice none 0 0, int i64 (0 : Int), slice none 0 0, string (ByteArray.mk #[])] }] =
 [pointer (some ⟨x_15.b, x_15.o, none⟩), agg { toList := x_15.vs }] ∧
 [Atom.pred (Wp.rest x.g x_12.D)] = [Atom.pred (Wp.rest x_15.g x_15.D)] ∧
 (x_15.t = Ty.act ∧ (x_15.g x_15.b = some (x_15.t, x_15.n) ∧ x_15.i < x_15.n ∧ x_15.o = x_15.i * x_15.t.len) ∧ All2 (WV x_15.g) x_15.t.ks x_15.vs ∧ ∀ (b p : Nat) (v : Value), x_15.D' = some (b, p, v) → b ≠ x_15.b ∧ x_15.D = some (b, p, v)) ∧
 True ∧
 ∀ (y : Unit),
 True →
 ((-9223372036854775808 : Int) ≤ (↑x_12.j : Int) + (1 : Int) ∧ (↑x_12.j : Int) + (1 : Int) ≤ (9223372036854775807 : Int)) ∧
 ∃ (y : SpI),
 ((y.k < x.w.vb.n ∧ (x.w.vb.a = some ⟨y.bb, 0, none⟩ ∧ x.g y.bb = some (Ty.blk, y.m)) ∧ y.D = some (y.bb, 0 + (↑y.k : Int).toNat * 1 + 0, slice y.s.a y.s.n y.s.cap) ∧ SlT x.g Ty.act y.s ∧ y.j ≤ y.s.n) ∧ y.k = n) ∧
 (pointer (some ⟨x_12.b1, 0, none⟩) = pointer (some ⟨y.b1, 0, none⟩) ∧ func (Fn.func 68) { toList := [] } { toList := [] } = func (Fn.func 68) { toList := [] } { toList := [] } ∧ int i64 (↑x_12.k : Int) = int i64 (↑y.k : Int) ∧ int i64 (↑x.w.vb.n : Int) = int i64 (↑x.w.vb.n : Int) ∧ int i64 (↑x_12.k : Int) = int i64 (↑y.k : Int) ∧ int i64 (↑x_12.s.n : Int) = int i64 (↑y.s.n : Int) ∧ int i64 ((↑x_12.j : Int) + (1 : Int)) = int i64 (↑y.j : Int) ∧ True) ∧
 Ent
 [(0, Atom.pred (Wp.rest x_15.g x_15.D')), (1, F), (2, Atom.cells x_12.b1 (chS x.c x.w) 28),
 (3, Atom.cells x_12.b4 [int i64 x_12.z.f0, string x_12.z.f1, string x_12.z.f2, string x_12.z.f3, string x_12.z.f4, string x_12.z.f5, string x_12.z.f6, string x_12.z.f7, int i64 x_12.z.f8, string x_12.z.f9, string x_12.z.f10, string x_12.z.f11, string x_12.z.f12, string x_12.z.f13, slice x_12.z.f14.a x_12.z.f14.n x_12.z.f14.cap, slice x_12.z.f15.a x_12.z.f15.n x_12.z.f15.cap, int i64 x_12.z.f16, slice x_12.z.f17.a x_12.z.f17.n x_12.z.f17.cap, string x_12.z.f18] 86)]
 [(0, Atom.pred (Wp.rest x.g y.D)), (1, F), (2, Atom.cells y.b1 (chS x.c x.w) 28)] ∧
 y.s.n - y.j < x_6.s.n - x_6.j)))
 (((-9223372036854775808 : Int) ≤ (↑x_6.k : Int) + (1 : Int) ∧ (↑x_6.k : Int) + (1 : Int) ≤ (9223372036854775807 : Int)) ∧
 ∃ (y : SpI),
 (y.k ≤ x.w.vb.n ∧ kOk x.g y.D Ty.blk) ∧
 (pointer (some ⟨x_6.b1, 0, none⟩) = pointer (some ⟨y.b1, 0, none⟩) ∧ func (Fn.func 68) { toList := [] } { toList := [] } = func (Fn.func 68) { toList := [] } { toList := [] } ∧ int i64 (↑x.w.vb.n : Int) = int i64 (↑x.w.vb.n : Int) ∧ int i64 ((↑x_6.k : Int) + (1 : Int)) = int i64 (↑y.k : Int) ∧ True) ∧
 Ent [(0, Atom.pred (Wp.rest x.g x_6.D)), (1, F), (2, Atom.cells x_6.b1 (chS x.c x.w) 28)] [(0, Atom.pred (Wp.rest x.g y.D)), (1, F), (2, Atom.cells y.b1 (chS x.c x.w) 28)] ∧ x.w.vb.n - y.k < x.w.vb.n - x_3.k))
 (Same ⟨x_3.b1, 6, none⟩ x_3.b1 ∧
 (∃ (x_4 : SpI),
 (x_4.k ≤ x.w.vd.n ∧ kOk x.g x_4.D Ty.blk) ∧
 (pointer (some ⟨x_3.b1, 0, none⟩) = pointer (some ⟨x_4.b1, 0, none⟩) ∧ func (Fn.func 68) { toList := [] } { toList := [] } = func (Fn.func 68) { toList := [] } { toList := [] } ∧ int i64 (↑x.w.vd.n : Int) = int i64 (↑x.w.vd.n : Int) ∧ int i64 (0 : Int) = int i64 (↑x_4.k : Int) ∧ True) ∧
 Ent [(0, Atom.pred (Wp.rest x.g x_3.D)), (1, F), (2, Atom.cells x_3.b1 (chS x.c x.w) 28)] [(0, Atom.pred (Wp.rest x.g x_4.D)), (1, F), (2, Atom.cells x_4.b1 (chS x.c x.w) 28)]) ∧
 ∀ (x_4 : SpI) (js : Nat → Value),
 x_4.k ≤ x.w.vd.n ∧ kOk x.g x_4.D Ty.blk →
 Br (decide ((↑x_4.k : Int) < (↑x.w.vd.n : Int)))
 (Same ⟨x_4.b1, 6, none⟩ x_4.b1 ∧
 QOpOk Try.prog (opIn Try.f34 54 3) (ixQ 3) ∧
 ∃ (x_5 : IxQX),
 [slice x.w.vd.a x.w.vd.n x.w.vd.cap, int i64 (↑x_4.k : Int)] = [slice (some ⟨x_5.b, x_5.o, none⟩) x_5.len x_5.cap, int i64 x_5.n] ∧
 ((0 : Int) ≤ x_5.n ∧ x_5.n < (↑x_5.len : Int)) ∧
 OpOk Try.prog (opIn Try.f34 54 5) st1C ∧
 true = true ∧
 ∃ (x_6 : StoY),
 [pointer (some ⟨x_5.b, x_5.o + x_5.n.toNat * 3, none⟩), string (ByteArray.mk #[(63 : UInt8)])] = [pointer (some ⟨x_6.b, x_6.o, none⟩), x_6.v] ∧
 [Atom.pred (Wp.rest x.g x_4.D)] = [Atom.pred (Wp.rest x_6.g x_6.D)] ∧
 ((x_6.g x_6.b = some (x_6.t, x_6.n) ∧ x_6.i < x_6.n ∧ x_6.o = x_6.i * x_6.t.len + x_6.j) ∧ x_6.t.ks[x_6.j]? = some x_6.k ∧ WV x_6.g x_6.k x_6.v ∧ ∀ (b p : Nat) (v : Value), x_6.D = some (b, p, v) → ¬(b = x_6.b ∧ p = x_6.o)) ∧
 True ∧
 ∀ (y : Unit),
 True →
 ((-9223372036854775808 : Int) ≤ (↑x_4.k : Int) + (1 : Int) ∧ (↑x_4.k : Int) + (1 : Int) ≤ (9223372036854775807 : Int)) ∧
 ∃ (y : SpI),
 (y.k ≤ x.w.vd.n ∧ kOk x.g y.D Ty.blk) ∧
 (pointer (some ⟨x_4.b1, 0, none⟩) = pointer (some ⟨y.b1, 0, none⟩) ∧ func (Fn.func 68) { toList := [] } { toList := [] } = func (Fn.func 68) { toList := [] } { toList := [] } ∧ int i64 (↑x.w.vd.n : Int) = int i64 (↑x.w.vd.n : Int) ∧ int i64 ((↑x_4.k : Int) + (1 : Int)) = int i64 (↑y.k : Int) ∧ True) ∧
 Ent [(0, Atom.pred (Wp.rest x_6.g x_6.D)), (1, F), (2, Atom.cells x_4.b1 (chS x.c x.w) 28)] [(0, Atom.pred (Wp.rest x.g y.D)), (1, F), (2, Atom.cells y.b1 (chS x.c x.w) 28)] ∧ x.w.vd.n - y.k < x.w.vd.n - x_4.k)
 (Same ⟨x_4.b1, 7, none⟩ x_4.b1 ∧
 (∃ (x_5 : SpI),
 x_5.k ≤ x.w.vi.n ∧
 (pointer (some ⟨x_4.b1, 0, none⟩) = pointer (some ⟨x_5.b1, 0, none⟩) ∧ func (Fn.func 68) { toList := [] } { toList := [] } = func (Fn.func 68) { toList := [] } { toList := [] } ∧ int i64 (↑x.w.vi.n : Int) = int i64 (↑x.w.vi.n : Int) ∧ int i64 (0 : Int) = int i64 (↑x_5.k : Int) ∧ True) ∧
 Ent [(0, Atom.pred (Wp.rest x.g x_4.D)), (1, F), (2, Atom.cells x_4.b1 (chS x.c x.w) 28)] [(0, Atom.pred (Wp.rest x.g x_5.D)), (1, F), (2, Atom.cells x_5.b1 (chS x.c x.w) 28)]) ∧
 ∀ (x_5 : SpI) (js : Nat → Value),
 x_5.k ≤ x.w.vi.n →
 Br (decide ((↑x_5.k : Int) < (↑x.w.vi.n : Int)))
 (Same ⟨x_5.b1, 7, none⟩ x_5.b1 ∧
 QOpOk Try.prog (opIn Try.f34 59 3) (ixQ 8) ∧
 ∃ (x_6 : IxQX),
 [slice x.w.vi.a x.w.vi.n x.w.vi.cap, int i64 (↑x_5.k : Int)] = [slice (some ⟨x_6.b, x_6.o, none⟩) x_6.len x_6.cap, int i64 x_6.n] ∧
 ((0 : Int) ≤ x_6.n ∧ x_6.n < (↑x_6.len : Int)) ∧
 OpOk Try.prog { dst := some 199, op := Op.load 57 (Operand.tmp 198), type := 57, pos := "more.go:70", after := { toList := [{ on := 5, ground := Ground.data }] }, guard := none } ldSC ∧
 true = true ∧
 ∃ (x_7 : WldX),
 [pointer (some ⟨x_6.b, x_6.o + x_6.n.toNat * 8 + 4 + 1, none⟩)] = [pointer (some ⟨x_7.b, x_7.o, none⟩)] ∧
 [Atom.pred (Wp.rest x.g x_5.D)] = [Atom.pred (Wp.rest x_7.g x_7.D)] ∧
 ((x_7.g x_7.b = some (x_7.t, x_7.n) ∧ x_7.i < x_7.n ∧ x_7.o = x_7.i * x_7.t.len + x_7.j) ∧ x_7.t.ks[x_7.j]? = some (CK.sl x_7.k)) ∧
 True ∧
 ∀ (y : Sl),
 SlT x_7.g x_7.k y →
 ∃ (n : Nat),
 (∃ (x_8 : SpI),
 ((x_8.k < x.w.vi.n ∧ (x.w.vi.a = some ⟨x_8.bb, 0, none⟩ ∧ x.g x_8.bb = some (Ty.inv, x_8.m) ∧ x.w.vi.n ≤ x_8.m) ∧ x_8.D = some (x_8.bb, 0 + (↑x_8.k : Int).toNat * 8 + 4 + 1, slice x_8.s.a x_8.s.n x_8.s.cap) ∧ SlT x.g Ty.par x_8.s ∧ x_8.j ≤ x_8.s.n) ∧ x_8.k = n) ∧
 (pointer (some ⟨x_5.b1, 0, none⟩) = pointer (some ⟨x_8.b1, 0, none⟩) ∧ func (Fn.func 68) { toList := [] } { toList := [] } = func (Fn.func 68) { toList := [] } { toList := [] } ∧ int i64 (↑x_5.k : Int) = int i64 (↑x_8.k : Int) ∧ int i64 (↑x.w.vi.n : Int) = int i64 (↑x.w.vi.n : Int) ∧ int i64 (↑x_5.k : Int) = int i64 (↑x_8.k : Int) ∧ int i64 (↑y.n : Int) = int i64 (↑x_8.s.n : Int) ∧ int i64 (0 : Int) = int i64 (↑x_8.j : Int) ∧ True) ∧
 Ent [(0, Atom.pred (Wp.rest x_7.g (some (x_7.b, x_7.o, slice y.a y.n y.cap)))), (1, F), (2, Atom.cells x_5.b1 (chS x.c x.w) 28)] [(0, Atom.pred (Wp.rest x.g x_8.D)), (1, F), (2, Atom.cells x_8.b1 (chS x.c x.w) 28)]) ∧
 ∀ (x_8 : SpI) (js : Nat → Value),
 (x_8.k < x.w.vi.n ∧ (x.w.vi.a = some ⟨x_8.bb, 0, none⟩ ∧ x.g x_8.bb = some (Ty.inv, x_8.m) ∧ x.w.vi.n ≤ x_8.m) ∧ x_8.D = some (x_8.bb, 0 + (↑x_8.k : Int).toNat * 8 + 4 + 1, slice x_8.s.a x_8.s.n x_8.s.cap) ∧ SlT x.g Ty.par x_8.s ∧ x_8.j ≤ x_8.s.n) ∧ x_8.k = n →
 Br (decide ((↑x_8.j : Int) < (↑x_8.s.n : Int)))
 (Same ⟨x_8.b1, 7, none⟩ x_8.b1 ∧
 QOpOk Try.prog (opIn Try.f34 62 3) (ixQ 8) ∧
 ∃ (x_9 : IxQX),
 [slice x.w.vi.a x.w.vi.n x.w.vi.cap, int i64 (↑x_8.k : Int)] = [slice (some ⟨x_9.b, x_9.o, none⟩) x_9.len x_9.cap, int i64 x_9.n] ∧
 ((0 : Int) ≤ x_9.n ∧ x_9.n < (↑x_9.len : Int)) ∧
 ∃ (a : Option Addr),
 ∃ (l : Nat),
 ∃ (c : Nat),
 Look (Atom.pred (Wp.rest x.g x_8.D)) ⟨x_9.b, x_9.o + x_9.n.toNat * 8 + 4 + 1, none⟩ (slice a l c) ∧
 QOpOk Try.prog (opIn Try.f34 62 8) (ixQ 2) ∧
 ∃ (x_10 : IxQX),
 [slice a l c, int i64 (↑x_8.j : Int)] = [slice (some ⟨x_10.b, x_10.o, none⟩) x_10.len x_10.cap, int i64 x_10.n] ∧
 ((0 : Int) ≤ x_10.n ∧ x_10.n < (↑x_10.len : Int)) ∧
 OpOk Try.prog (opIn Try.f34 62 10) st1C ∧
 true = true ∧
 ∃ (x_11 : StoY),
 [pointer (some ⟨x_10.b, x_10.o + x_10.n.toNat * 2, none⟩), string (ByteArray.mk #[(63 : UInt8)])] = [pointer (some ⟨x_11.b, x_11.o, none⟩), x_11.v] ∧
 [Atom.pred (Wp.rest x.g x_8.D)] = [Atom.pred (Wp.rest x_11.g x_11.D)] ∧
 ((x_11.g x_11.b = some (x_11.t, x_11.n) ∧ x_11.i < x_11.n ∧ x_11.o = x_11.i * x_11.t.len + x_11.j) ∧ x_11.t.ks[x_11.j]? = some x_11.k ∧ WV x_11.g x_11.k x_11.v ∧ ∀ (b p : Nat) (v : Value), x_11.D = some (b, p, v) → ¬(b = x_11.b ∧ p = x_11.o)) ∧
 True ∧
 ∀ (y : Unit),
 True →
 ((-9223372036854775808 : Int) ≤ (↑x_8.j : Int) + (1 : Int) ∧ (↑x_8.j : Int) + (1 : Int) ≤ (9223372036854775807 : Int)) ∧
 ∃ (y : SpI),
 ((y.k < x.w.vi.n ∧ (x.w.vi.a = some ⟨y.bb, 0, none⟩ ∧ x.g y.bb = some (Ty.inv, y.m) ∧ x.w.vi.n ≤ y.m) ∧ y.D = some (y.bb, 0 + (↑y.k : Int).toNat * 8 + 4 + 1, slice y.s.a y.s.n y.s.cap) ∧ SlT x.g Ty.par y.s ∧ y.j ≤ y.s.n) ∧ y.k = n) ∧
 (pointer (some ⟨x_8.b1, 0, none⟩) = pointer (some ⟨y.b1, 0, none⟩) ∧ func (Fn.func 68) { toList := [] } { toList := [] } = func (Fn.func 68) { toList := [] } { toList := [] } ∧ int i64 (↑x_8.k : Int) = int i64 (↑y.k : Int) ∧ int i64 (↑x.w.vi.n : Int) = int i64 (↑x.w.vi.n : Int) ∧ int i64 (↑x_8.k : Int) = int i64 (↑y.k : Int) ∧ int i64 (↑x_8.s.n : Int) = int i64 (↑y.s.n : Int) ∧ int i64 ((↑x_8.j : Int) + (1 : Int)) = int i64 (↑y.j : Int) ∧ True) ∧
 Ent [(0, Atom.pred (Wp.rest x_11.g x_11.D)), (1, F), (2, Atom.cells x_8.b1 (chS x.c x.w) 28)] [(0, Atom.pred (Wp.rest x.g y.D)), (1, F), (2, Atom.cells y.b1 (chS x.c x.w) 28)] ∧ y.s.n - y.j < x_8.s.n - x_8.j)
 (Same ⟨x_8.b1, 7, none⟩ x_8.b1 ∧
 QOpOk Try.prog (opIn Try.f34 64 3) (ixQ 8) ∧
 ∃ (x_9 : IxQX),
 [slice x.w.vi.a x.w.vi.n x.w.vi.cap, int i64 (↑x_8.k : Int)] = [slice (some ⟨x_9.b, x_9.o, none⟩) x_9.len x_9.cap, int i64 x_9.n] ∧
 ((0 : Int) ≤ x_9.n ∧ x_9.n < (↑x_9.len : Int)) ∧
 OpOk Try.prog (opIn Try.f34 64 5) st1C ∧
 true = true ∧
 ∃ (x_10 : StoY),
 [pointer (some ⟨x_9.b, x_9.o + x_9.n.toNat * 8, none⟩), string (ByteArray.mk #[(63 : UInt8)])] = [pointer (some ⟨x_10.b, x_10.o, none⟩), x_10.v] ∧
 [Atom.pred (Wp.rest x.g x_8.D)] = [Atom.pred (Wp.rest x_10.g x_10.D)] ∧
 ((x_10.g x_10.b = some (x_10.t, x_10.n) ∧ x_10.i < x_10.n ∧ x_10.o = x_10.i * x_10.t.len + x_10.j) ∧ x_10.t.ks[x_10.j]? = some x_10.k ∧ WV x_10.g x_10.k x_10.v ∧ ∀ (b p : Nat) (v : Value), x_10.D = some (b, p, v) → ¬(b = x_10.b ∧ p = x_10.o)) ∧
 True ∧
 ∀ (y : Unit),
 True →
 ((-9223372036854775808 : Int) ≤ (↑x_8.k : Int) + (1 : Int) ∧ (↑x_8.k : Int) + (1 : Int) ≤ (9223372036854775807 : Int)) ∧
 ∃ (y : SpI),
 y.k ≤ x.w.vi.n ∧
 (pointer (some ⟨x_8.b1, 0, none⟩) = pointer (some ⟨y.b1, 0, none⟩) ∧ func (Fn.func 68) { toList := [] } { toList := [] } = func (Fn.func 68) { toList := [] } { toList := [] } ∧ int i64 (↑x.w.vi.n : Int) = int i64 (↑x.w.vi.n : Int) ∧ int i64 ((↑x_8.k : Int) + (1 : Int)) = int i64 (↑y.k : Int) ∧ True) ∧
 Ent [(0, Atom.pred (Wp.rest x_10.g x_10.D)), (1, F), (2, Atom.cells x_8.b1 (chS x.c x.w) 28)] [(0, Atom.pred (Wp.rest x.g y.D)), (1, F), (2, Atom.cells y.b1 (chS x.c x.w) 28)] ∧ x.w.vi.n - y.k < x.w.vi.n - x_5.k))
 (Done spC x F (Ending.returned (tuple { toList := [] })) [(0, Atom.pred (Wp.rest x.g x_5.D)), (1, F), (2, Atom.cells x_5.b1 (chS x.c x.w) 28)]))))) := by
  obtain ⟨g, c, ⟨⟨sa, sn, sc⟩, ⟨ta, tn, tc⟩, ⟨ba, bn, bc⟩, ⟨da, dn, dc⟩, ⟨ia, ni, ic⟩⟩⟩ := x
  obtain ⟨⟨ls, hs⟩, ⟨lt, ht⟩, ⟨lb, hb⟩, ⟨ld, hd⟩, ⟨li, hi⟩⟩ := hc
  dsimp only at ls hs lt ht lb hb ld hd li hi
  have ne : ∀ {b b' : Nat} {t t' : Ty} {m m' : Nat}, g b = some (t, m) → g b' = some (t', m') → t ≠ t' → b ≠ b' := fun e e' h hb => by
    rw [hb, e'] at e
    cases e
    exact h rfl
  intro b1
  repeat (first | refine ⟨⟨rfl, rfl⟩, ?_⟩ | refine ⟨rfl, ?_⟩)
  refine ⟨⟨{ k := 0, b1 := b1 }, ⟨Nat.zero_le _, rfl⟩, ⟨rfl, rfl, rfl, rfl, trivial⟩, Ent.pick [0, 1, 1000] rfl rfl⟩, ?_⟩
  clear b1
  rintro ⟨k, b1, j0, q0, b40, D0, s0, bb0, m0, y0, z0⟩ js ⟨hk, hD⟩
  dsimp only at hk hD ⊢
  subst hD
  refine br_decide (fun hlt => ?_) (fun hge => ?_)
  · obtain ⟨b, m, ea, eg, em⟩ := hs (by omega)
    repeat (first | refine ⟨⟨rfl, rfl⟩, ?_⟩ | refine ⟨rfl, ?_⟩)
    refine ⟨ixq_ok 13 rfl rfl rfl rfl, ⟨b, 0, sn, sc, k⟩, by rw [ea], by dsimp only; omega, ldSt_ok (P := Try.prog) rfl rfl rfl rfl, rfl, ⟨g, none, b, 0 + (k : Int).toNat * 13, .st, m, k, 0, .int⟩, rfl, rfl, ⟨eg, by dsimp only; omega, by dsimp only; omega⟩, trivial, fun y hy b4 => ?_⟩
    obtain ⟨y3, y5, y6, y7, y8, y9, y11⟩ := hy
    repeat (first | refine ⟨⟨rfl, rfl⟩, ?_⟩ | refine ⟨rfl, ?_⟩)
    refine ⟨spi_ok, rfl, ⟨g, none, y.f3⟩, rfl, rfl, ⟨y3, fun _ _ _ e => nomatch e⟩, trivial, fun _ _ => ?_⟩
    repeat (first | refine ⟨⟨rfl, rfl⟩, ?_⟩ | refine ⟨rfl, ?_⟩)
    refine ⟨spi_ok, rfl, ⟨g, none, y.f5⟩, rfl, rfl, ⟨y5, fun _ _ _ e => nomatch e⟩, trivial, fun _ _ => ?_⟩
    repeat (first | refine ⟨⟨rfl, rfl⟩, ?_⟩ | refine ⟨rfl, ?_⟩)
    refine ⟨spi_ok, rfl, ⟨g, none, y.f6⟩, rfl, rfl, ⟨y6, fun _ _ _ e => nomatch e⟩, trivial, fun _ _ => ?_⟩
    repeat (first | refine ⟨⟨rfl, rfl⟩, ?_⟩ | refine ⟨rfl, ?_⟩)
    refine ⟨spi_ok, rfl, ⟨g, none, y.f7⟩, rfl, rfl, ⟨y7, fun _ _ _ e => nomatch e⟩, trivial, fun _ _ => ?_⟩
    repeat (first | refine ⟨⟨rfl, rfl⟩, ?_⟩ | refine ⟨rfl, ?_⟩)
    refine ⟨spi_ok, rfl, ⟨g, none, y.f8⟩, rfl, rfl, ⟨y8, fun _ _ _ e => nomatch e⟩, trivial, fun _ _ => ?_⟩
    repeat (first | refine ⟨⟨rfl, rfl⟩, ?_⟩ | refine ⟨rfl, ?_⟩)
    refine ⟨spi_ok, rfl, ⟨g, none, y.f9⟩, rfl, rfl, ⟨y9, fun _ _ _ e => nomatch e⟩, trivial, fun _ _ => ?_⟩
    repeat (first | refine ⟨⟨rfl, rfl⟩, ?_⟩ | refine ⟨rfl, ?_⟩)
    refine ⟨k, ⟨{ k := k, b1 := b1, b4 := b4, y := y }, ⟨⟨by dsimp only; omega, rfl, y11, Nat.zero_le _⟩, rfl⟩, ⟨rfl, rfl, rfl, rfl, rfl, rfl, rfl, rfl, trivial⟩, Ent.pick [0, 1, 2, 6050] rfl rfl⟩, ?_⟩
    clear y3 y5 y6 y7 y8 y9 y11 y
    rintro ⟨k2, b1, j, q0, b4, D0, s0, bb0, m0, y, z0⟩ js2 ⟨⟨hk2, hD, hy, hj⟩, hkk⟩
    dsimp only at hk2 hD hy hj hkk ⊢
    subst hD
    subst hkk
    have ly := hy.1
    refine br_decide (fun hlt2 => ?_) (fun hge2 => ?_)
    · obtain ⟨b', m', ea', eg', em'⟩ := hy.2 (by omega)
      repeat (first | refine ⟨⟨rfl, rfl⟩, ?_⟩ | refine ⟨rfl, ?_⟩)
      exact ⟨ixq_ok 2 rfl rfl rfl rfl, ⟨b', 0, y.f11.n, y.f11.cap, j⟩, by rw [ea'], by dsimp only; omega, st1_ok (P := Try.prog) rfl rfl rfl, rfl, ⟨g, none, b', 0 + (j : Int).toNat * 2, .par, m', j, 0, .s, _⟩, rfl, rfl, ⟨⟨eg', by dsimp only; omega, by simp only [Ty.len]; omega⟩, rfl, ⟨_, rfl⟩, fun _ _ _ e => nomatch e⟩, trivial, fun _ _ => ⟨by omega, { k := k2, b1 := b1, j := j + 1, b4 := b4, y := y }, ⟨⟨hk2, rfl, hy, by dsimp only; omega⟩, rfl⟩, ⟨rfl, rfl, rfl, rfl, rfl, rfl, rfl, rfl, trivial⟩, Ent.pick [0, 1, 2, 3] rfl rfl, by dsimp only; omega⟩⟩
    · repeat (first | refine ⟨⟨rfl, rfl⟩, ?_⟩ | refine ⟨rfl, ?_⟩)
      exact ⟨ixq_ok 13 rfl rfl rfl rfl, ⟨b, 0, sn, sc, k2⟩, by rw [ea], by dsimp only; omega, stm_ok (P := Try.prog) .st rfl rfl rfl, rfl, ⟨g, none, none, b, 0 + (k2 : Int).toNat * 13, .st, m, k2, _⟩, rfl, rfl, ⟨rfl, ⟨eg, by dsimp only; omega, by simp only [Ty.len]; omega⟩, by repeat (first | exact all2n | refine all2c (wvi _ _) ?_ | refine all2c (wvs _ _) ?_ | refine all2c (wvb _ _) ?_ | refine all2c (wvn _ _) ?_), fun _ _ _ e => nomatch e⟩, trivial, fun _ _ => ⟨by omega, { k := k2 + 1, b1 := b1 }, ⟨by dsimp only; omega, rfl⟩, ⟨rfl, rfl, rfl, rfl, trivial⟩, Ent.pick [0, 1, 2] rfl rfl, by dsimp only; omega⟩⟩
  repeat (first | refine ⟨⟨rfl, rfl⟩, ?_⟩ | refine ⟨rfl, ?_⟩)
  refine ⟨⟨{ k := 0, b1 := b1 }, ⟨Nat.zero_le _, rfl⟩, ⟨rfl, rfl, rfl, rfl, trivial⟩, Ent.pick [0, 1, 2] rfl rfl⟩, ?_⟩
  clear hk hge js y0 z0 k b1
  rintro ⟨k, b1, j0, q0, b40, D0, s0, bb0, m0, y0, z0⟩ js ⟨hk, hD⟩
  dsimp only at hk hD ⊢
  subst hD
  refine br_decide (fun hlt => ?_) (fun hge => ?_)
  · obtain ⟨b, m, ea, eg, em⟩ := ht (by omega)
    repeat (first | refine ⟨⟨rfl, rfl⟩, ?_⟩ | refine ⟨rfl, ?_⟩)
    refine ⟨ixq_ok 6 rfl rfl rfl rfl, ⟨b, 0, tn, tc, k⟩, by rw [ea], by dsimp only; omega, ldS_ok (P := Try.prog) rfl rfl, rfl, ⟨g, none, b, 0 + (k : Int).toNat * 6 + 3, .tr, m, k, 3, .int⟩, rfl, rfl, ⟨⟨eg, by dsimp only; omega, by simp only [Ty.len]; omega⟩, rfl⟩, trivial, fun y hy => ?_⟩
    refine ⟨spi_ok, rfl, ⟨g, some (b, 0 + (k : Int).toNat * 6 + 3, .slice y.a y.n y.cap), y⟩, rfl, rfl, ⟨hy, fun b' p v e m' h => by cases e; dsimp only at h; rw [eg] at h; cases h⟩, trivial, fun _ _ => ?_⟩
    repeat (first | refine ⟨⟨rfl, rfl⟩, ?_⟩ | refine ⟨rfl, ?_⟩)
    refine ⟨ixq_ok 6 rfl rfl rfl rfl, ⟨b, 0, tn, tc, k⟩, by rw [ea], by dsimp only; omega, ldS_ok (P := Try.prog) rfl rfl, rfl, ⟨g, _, b, 0 + (k : Int).toNat * 6 + 1, .tr, m, k, 1, .str⟩, rfl, rfl, ⟨⟨eg, by dsimp only; omega, by simp only [Ty.len]; omega⟩, rfl⟩, trivial, fun y2 hy2 => ?_⟩
    refine ⟨k, ⟨{ k := k, b1 := b1, D := some (b, 0 + (k : Int).toNat * 6 + 1, .slice y2.a y2.n y2.cap), s := y2, bb := b, m := m }, ⟨⟨by dsimp only; omega, ⟨ea, eg⟩, rfl, hy2, Nat.zero_le _⟩, rfl⟩, ⟨rfl, rfl, rfl, rfl, rfl, rfl, rfl, trivial⟩, Ent.pick [0, 1, 2] rfl rfl⟩, ?_⟩
    clear hy hy2 y y2
    rintro ⟨k2, b1, j, q0, b40, D, s, bb, m2, y0, z0⟩ js2 ⟨⟨hk2, ⟨ea2, eg2⟩, hD, hy, hj⟩, hkk⟩
    dsimp only at hk2 ea2 eg2 hD hy hj hkk ⊢
    subst hkk
    have e0 : b = bb := by rw [ea2] at ea; cases ea; rfl
    subst e0
    have e0 : m = m2 := by rw [eg2] at eg; cases eg; rfl
    subst e0
    have ly := hy.1
    refine br_decide (fun hlt2 => ?_) (fun hge2 => ?_)
    · obtain ⟨b', m', ea', eg', em'⟩ := hy.2 (by omega)
      repeat (first | refine ⟨⟨rfl, rfl⟩, ?_⟩ | refine ⟨rfl, ?_⟩)
      exact ⟨ixq_ok 6 rfl rfl rfl rfl, ⟨b, 0, tn, tc, k2⟩, by rw [ea2], by dsimp only; omega, _, _, _, by rw [hD]; exact wa_look, ixq_ok 1 rfl rfl rfl rfl, ⟨b', 0, s.n, s.cap, j⟩, by rw [ea'], by dsimp only; omega, st1_ok (P := Try.prog) rfl rfl rfl, rfl, ⟨g, D, b', 0 + (j : Int).toNat * 1, .str, m', j, 0, .s, _⟩, rfl, rfl, ⟨⟨eg', by dsimp only; omega, by simp only [Ty.len]; omega⟩, rfl, ⟨_, rfl⟩, fun _ _ _ e h => by rw [hD] at e; cases e; exact ne eg2 eg' (fun h => nomatch h) h.1⟩, trivial, fun _ _ => ⟨by omega, { k := k2, b1 := b1, j := j + 1, D := D, s := s, bb := b, m := m }, ⟨⟨hk2, ⟨ea2, eg2⟩, hD, hy, by dsimp only; omega⟩, rfl⟩, ⟨rfl, rfl, rfl, rfl, rfl, rfl, rfl, trivial⟩, Ent.pick [0, 1, 2] rfl rfl, by dsimp only; omega⟩⟩
    · repeat (first | refine ⟨⟨rfl, rfl⟩, ?_⟩ | refine ⟨rfl, ?_⟩)
      exact ⟨ixq_ok 6 rfl rfl rfl rfl, ⟨b, 0, tn, tc, k2⟩, by rw [ea2], by dsimp only; omega, stm_ok (P := Try.prog) .tr rfl rfl rfl, rfl, ⟨g, D, none, b, 0 + (k2 : Int).toNat * 6, .tr, m, k2, _⟩, rfl, rfl, ⟨rfl, ⟨eg2, by dsimp only; omega, by simp only [Ty.len]; omega⟩, by repeat (first | exact all2n | refine all2c (wvi _ _) ?_ | refine all2c (wvs _ _) ?_ | refine all2c (wvb _ _) ?_ | refine all2c (wvn _ _) ?_), fun _ _ _ e => nomatch e⟩, trivial, fun _ _ => ⟨by omega, { k := k2 + 1, b1 := b1 }, ⟨by dsimp only; omega, rfl⟩, ⟨rfl, rfl, rfl, rfl, trivial⟩, Ent.pick [0, 1, 2] rfl rfl, by dsimp only; omega⟩⟩
  repeat (first | refine ⟨⟨rfl, rfl⟩, ?_⟩ | refine ⟨rfl, ?_⟩)
  refine ⟨⟨{ k := 0, b1 := b1 }, ⟨Nat.zero_le _, fun _ _ _ e => nomatch e⟩, ⟨rfl, rfl, rfl, rfl, trivial⟩, Ent.pick [0, 1, 2] rfl rfl⟩, ?_⟩
  clear hk hge js y0 z0 k b1
  rintro ⟨k, b1, j0, q0, b40, D0, s0, bb0, m0, y0, z0⟩ js ⟨hk, hD0⟩
  dsimp only at hk hD0 ⊢
  refine br_decide (fun hlt => ?_) (fun hge => ?_)
  · obtain ⟨b, m, ea, eg, em⟩ := hb (by omega)
    repeat (first | refine ⟨⟨rfl, rfl⟩, ?_⟩ | refine ⟨rfl, ?_⟩)
    refine ⟨ixq_ok 1 rfl rfl rfl rfl, ⟨b, 0, bn, bc, k⟩, by rw [ea], by dsimp only; omega, ldS_ok (P := Try.prog) rfl rfl, rfl, ⟨g, D0, b, 0 + (k : Int).toNat * 1 + 0, .blk, m, k, 0, .act⟩, rfl, rfl, ⟨⟨eg, by dsimp only; omega, by simp only [Ty.len]; omega⟩, rfl⟩, trivial, fun y hy => ?_⟩
    refine ⟨k, ⟨{ k := k, b1 := b1, D := some (b, 0 + (k : Int).toNat * 1 + 0, .slice y.a y.n y.cap), s := y, bb := b, m := m }, ⟨⟨by dsimp only; omega, ⟨ea, eg⟩, rfl, hy, Nat.zero_le _⟩, rfl⟩, ⟨rfl, rfl, rfl, rfl, rfl, rfl, rfl, trivial⟩, Ent.pick [0, 1, 2] rfl rfl⟩, ?_⟩
    clear hy y hD0 D0
    rintro ⟨k2, b1, j, q0, b40, D, s, bb, m2, y0, z0⟩ js2 ⟨⟨hk2, ⟨ea2, eg2⟩, hD, hs2, hj⟩, hkk⟩
    dsimp only at hk2 ea2 eg2 hD hs2 hj hkk ⊢
    subst hkk
    have e0 : b = bb := by rw [ea2] at ea; cases ea; rfl
    subst e0
    have e0 : m = m2 := by rw [eg2] at eg; cases eg; rfl
    subst e0
    have ly := hs2.1
    refine br_decide (fun hlt2 => ?_) (fun hge2 => ⟨by omega, { k := k2 + 1, b1 := b1, D := D }, ⟨by dsimp only; omega, fun _ _ _ e => by dsimp only at e; rw [hD] at e; cases e; exact ⟨_, eg2⟩⟩, ⟨rfl, rfl, rfl, rfl, trivial⟩, Ent.pick [0, 1, 2] rfl rfl, by dsimp only; omega⟩)
    obtain ⟨b', m', ea', eg', em'⟩ := hs2.2 (by omega)
    repeat (first | refine ⟨⟨rfl, rfl⟩, ?_⟩ | refine ⟨rfl, ?_⟩)
    refine ⟨ixq_ok 1 rfl rfl rfl rfl, ⟨b, 0, bn, bc, k2⟩, by rw [ea2], by dsimp only; omega, _, _, _, by rw [hD]; exact wa_look, ixq_ok 19 rfl rfl rfl rfl, ⟨b', 0, s.n, s.cap, j⟩, by rw [ea'], by dsimp only; omega, ldAc_ok (P := Try.prog) rfl rfl rfl rfl, rfl, ⟨g, D, b', 0 + (j : Int).toNat * 19, .act, m', j, 0, .int⟩, rfl, rfl, ⟨eg', by dsimp only; omega, by dsimp only; omega⟩, trivial, fun z hz b4 => ?_⟩
    obtain ⟨z14, z15, z17⟩ := hz
    repeat (first | refine ⟨⟨rfl, rfl⟩, ?_⟩ | refine ⟨rfl, ?_⟩)
    refine ⟨spi_ok, rfl, ⟨g, D, z.f15⟩, rfl, rfl, ⟨z15, fun b' p v e m' h => by dsimp only at e; rw [hD] at e; cases e; dsimp only at h; rw [eg2] at h; cases h⟩, trivial, fun _ _ => ?_⟩
    repeat (first | refine ⟨⟨rfl, rfl⟩, ?_⟩ | refine ⟨rfl, ?_⟩)
    refine ⟨(k2, j, s.n), ⟨{ k := k2, b1 := b1, j := j, b4 := b4, D := D, s := s, bb := b, m := m, z := z }, ⟨⟨hk2, ⟨ea2, eg2⟩, hD, hs2, by dsimp only; omega, z14, z17, Nat.zero_le _⟩, rfl⟩, ⟨rfl, rfl, rfl, rfl, rfl, rfl, rfl, rfl, rfl, rfl, rfl, trivial⟩, Ent.pick [0, 1, 2, 37090] rfl rfl⟩, ?_⟩
    clear z14 z15 z17 z
    rintro ⟨k3, b1, j3, q, b4, D3, s3, bb3, m3, y0, z⟩ js3 ⟨⟨hk3, ⟨ea3, eg3⟩, hD3, hs3, hj3, hz14, hz17, hq⟩, hkk⟩
    dsimp only at hk3 ea3 eg3 hD3 hs3 hj3 hz14 hz17 hq hkk ⊢
    obtain ⟨e1, e2⟩ := Prod.mk.inj hkk
    obtain ⟨e2, e4⟩ := Prod.mk.inj e2
    subst e1
    subst e2
    have e0 : b = bb3 := by rw [ea2] at ea3; cases ea3; rfl
    subst e0
    have lz := hz14.1
    refine br_decide (fun hlt3 => ?_) (fun hge3 => ?_)
    · obtain ⟨b5, m5, ea5, eg5, em5⟩ := hz14.2 (by omega)
      repeat (first | refine ⟨⟨rfl, rfl⟩, ?_⟩ | refine ⟨rfl, ?_⟩)
      exact ⟨ixq_ok 1 rfl rfl rfl rfl, ⟨b5, 0, z.f14.n, z.f14.cap, q⟩, by rw [ea5], by dsimp only; omega, st1_ok (P := Try.prog) rfl rfl rfl, rfl, ⟨g, D3, b5, 0 + (q : Int).toNat * 1, .str, m5, q, 0, .s, _⟩, rfl, rfl, ⟨⟨eg5, by dsimp only; omega, by simp only [Ty.len]; omega⟩, rfl, ⟨_, rfl⟩, fun _ _ _ e h => by dsimp only at e; rw [hD3] at e; cases e; exact ne eg2 eg5 (fun h => nomatch h) h.1⟩, trivial, fun _ _ => ⟨by omega, { k := k3, b1 := b1, j := j3, q := q + 1, b4 := b4, D := D3, s := s3, bb := b, m := m3, z := z }, ⟨⟨hk3, ⟨ea2, eg3⟩, hD3, hs3, hj3, hz14, hz17, by dsimp only; omega⟩, by dsimp only; rw [e4]⟩, ⟨rfl, rfl, rfl, rfl, rfl, rfl, rfl, rfl, rfl, rfl, rfl, trivial⟩, Ent.pick [0, 1, 2, 3] rfl rfl, by dsimp only; omega⟩⟩
    repeat (first | refine ⟨⟨rfl, rfl⟩, ?_⟩ | refine ⟨rfl, ?_⟩)
    refine ⟨(k3, j3, s3.n), ⟨{ k := k3, b1 := b1, j := j3, b4 := b4, D := D3, s := s3, bb := b, m := m3, z := z }, ⟨⟨hk3, ⟨ea2, eg3⟩, hD3, hs3, hj3, hz14, hz17, Nat.zero_le _⟩, rfl⟩, ⟨rfl, rfl, rfl, rfl, rfl, rfl, rfl, rfl, rfl, rfl, rfl, trivial⟩, Ent.pick [0, 1, 2, 3] rfl rfl⟩, ?_⟩
    clear hz14 hz17 hq lz z hge3 hs3 hD3 hkk eg3 hj3 hk3
    rintro ⟨k3, b1, j3, q, b4, D3, s3, bb3, m3, y0, z⟩ js3 ⟨⟨hk3, ⟨ea3, eg3⟩, hD3, hs3, hj3, hz14, hz17, hq⟩, hkk⟩
    dsimp only at hk3 ea3 eg3 hD3 hs3 hj3 hz14 hz17 hq hkk ⊢
    obtain ⟨e1, e2⟩ := Prod.mk.inj hkk
    obtain ⟨e2, e5⟩ := Prod.mk.inj e2
    subst e1
    subst e2
    have e0 : b = bb3 := by rw [ea2] at ea3; cases ea3; rfl
    subst e0
    have lz := hz17.1
    refine br_decide (fun hlt3 => ?_) (fun hge3 => ?_)
    · obtain ⟨b5, m5, ea5, eg5, em5⟩ := hz17.2 (by omega)
      repeat (first | refine ⟨⟨rfl, rfl⟩, ?_⟩ | refine ⟨rfl, ?_⟩)
      exact ⟨ixq_ok 2 rfl rfl rfl rfl, ⟨b5, 0, z.f17.n, z.f17.cap, q⟩, by rw [ea5], by dsimp only; omega, st1_ok (P := Try.prog) rfl rfl rfl, rfl, ⟨g, D3, b5, 0 + (q : Int).toNat * 2 + 1, .par, m5, q, 1, .s, _⟩, rfl, rfl, ⟨⟨eg5, by dsimp only; omega, by simp only [Ty.len]; omega⟩, rfl, ⟨_, rfl⟩, fun _ _ _ e h => by dsimp only at e; rw [hD3] at e; cases e; exact ne eg2 eg5 (fun h => nomatch h) h.1⟩, trivial, fun _ _ => ⟨by omega, { k := k3, b1 := b1, j := j3, q := q + 1, b4 := b4, D := D3, s := s3, bb := b, m := m3, z := z }, ⟨⟨hk3, ⟨ea2, eg3⟩, hD3, hs3, hj3, hz14, hz17, by dsimp only; omega⟩, by dsimp only; rw [e5]⟩, ⟨rfl, rfl, rfl, rfl, rfl, rfl, rfl, rfl, rfl, rfl, rfl, trivial⟩, Ent.pick [0, 1, 2, 3] rfl rfl, by dsimp only; omega⟩⟩
    repeat (first | refine ⟨⟨rfl, rfl⟩, ?_⟩ | refine ⟨rfl, ?_⟩)
    have l3 := hs3.1
    obtain ⟨b6, m6, ea6, eg6, em6⟩ := hs3.2 (by omega)
    exact ⟨ixq_ok 1 rfl rfl rfl rfl, ⟨b, 0, bn, bc, k3⟩, by rw [ea2], by dsimp only; omega, _, _, _, by rw [hD3]; exact wa_look, ixq_ok 19 rfl rfl rfl rfl, ⟨b6, 0, s3.n, s3.cap, j3⟩, by rw [ea6], by dsimp only; omega, stm_ok (P := Try.prog) .act rfl rfl rfl, rfl, ⟨g, D3, D3, b6, 0 + (j3 : Int).toNat * 19, .act, m6, j3, _⟩, rfl, rfl, ⟨rfl, ⟨eg6, by dsimp only; omega, by simp only [Ty.len]; omega⟩, by repeat (first | exact all2n | refine all2c (wvi _ _) ?_ | refine all2c (wvs _ _) ?_ | refine all2c (wvb _ _) ?_ | refine all2c (wvn _ _) ?_), fun _ _ _ e => by dsimp only at e ⊢; refine ⟨?_, e⟩; rw [hD3] at e; cases e; exact ne eg2 eg6 (fun h => nomatch h)⟩, trivial, fun _ _ => ⟨by omega, { k := k3, b1 := b1, j := j3 + 1, D := D3, s := s3, bb := b, m := m3 }, ⟨⟨hk3, ⟨ea2, eg3⟩, hD3, hs3, by dsimp only; omega⟩, rfl⟩, ⟨rfl, rfl, rfl, rfl, rfl, rfl, rfl, trivial⟩, Ent.pick [0, 1, 2] rfl rfl, by dsimp only; omega⟩⟩
  repeat (first | refine ⟨⟨rfl, rfl⟩, ?_⟩ | refine ⟨rfl, ?_⟩)
  refine ⟨⟨{ k := 0, b1 := b1, D := D0 }, ⟨Nat.zero_le _, hD0⟩, ⟨rfl, rfl, rfl, rfl, trivial⟩, Ent.pick [0, 1, 2] rfl rfl⟩, ?_⟩
  clear hk hge js y0 z0 k b1 hD0 D0
  rintro ⟨k, b1, j0, q0, b40, D0, s0, bb0, m0, y0, z0⟩ js ⟨hk, hD0⟩
  dsimp only at hk hD0 ⊢
  refine br_decide (fun hlt => ?_) (fun hge => ?_)
  · obtain ⟨b, m, ea, eg, em⟩ := hd (by omega)
    repeat (first | refine ⟨⟨rfl, rfl⟩, ?_⟩ | refine ⟨rfl, ?_⟩)
    exact ⟨ixq_ok 3 rfl rfl rfl rfl, ⟨b, 0, dn, dc, k⟩, by rw [ea], by dsimp only; omega, st1_ok (P := Try.prog) rfl rfl rfl, rfl, ⟨g, D0, b, 0 + (k : Int).toNat * 3, .dat, m, k, 0, .s, _⟩, rfl, rfl, ⟨⟨eg, by dsimp only; omega, by simp only [Ty.len]; omega⟩, rfl, ⟨_, rfl⟩, fun _ _ _ e h => by obtain ⟨m2, e2⟩ := hD0 _ _ _ e; exact ne e2 eg (fun h => nomatch h) h.1⟩, trivial, fun _ _ => ⟨by omega, { k := k + 1, b1 := b1, D := D0 }, ⟨by dsimp only; omega, hD0⟩, ⟨rfl, rfl, rfl, rfl, trivial⟩, Ent.pick [0, 1, 2] rfl rfl, by dsimp only; omega⟩⟩
  repeat (first | refine ⟨⟨rfl, rfl⟩, ?_⟩ | refine ⟨rfl, ?_⟩)
  refine ⟨⟨{ k := 0, b1 := b1, D := D0 }, Nat.zero_le _, ⟨rfl, rfl, rfl, rfl, trivial⟩, Ent.pick [0, 1, 2] rfl rfl⟩, ?_⟩
  clear hk hge js y0 z0 k b1 hD0 D0
  rintro ⟨k, b1, j0, q0, b40, D0, s0, bb0, m0, y0, z0⟩ js hk
  dsimp only at hk ⊢
  refine br_decide (fun hlt => ?_) (fun hge => ⟨D0, trivial, rfl, Ent.pick [0, 1] rfl rfl⟩)
  obtain ⟨b, m, ea, eg, em⟩ := hi (by omega)
  repeat (first | refine ⟨⟨rfl, rfl⟩, ?_⟩ | refine ⟨rfl, ?_⟩)
  refine ⟨ixq_ok 8 rfl rfl rfl rfl, ⟨b, 0, ni, ic, k⟩, by rw [ea], by dsimp only; omega, ldS_ok (P := Try.prog) rfl rfl, rfl, ⟨g, D0, b, 0 + (k : Int).toNat * 8 + 4 + 1, .inv, m, k, 5, .par⟩, rfl, rfl, ⟨⟨eg, by dsimp only; omega, by simp only [Ty.len]; omega⟩, rfl⟩, trivial, fun y hy => ?_⟩
  refine ⟨k, ⟨{ k := k, b1 := b1, D := some (b, 0 + (k : Int).toNat * 8 + 4 + 1, .slice y.a y.n y.cap), s := y, bb := b, m := m }, ⟨⟨by dsimp only; omega, ⟨ea, eg, em⟩, rfl, hy, Nat.zero_le _⟩, rfl⟩, ⟨rfl, rfl, rfl, rfl, rfl, rfl, rfl, trivial⟩, Ent.pick [0, 1, 2] rfl rfl⟩, ?_⟩
  clear hy y D0
  rintro ⟨k2, b1, j, q0, b40, D, s, bb, m2, y0, z0⟩ js2 ⟨⟨hk2, ⟨ea2, eg2, em2⟩, hD, hs2, hj⟩, hkk⟩
  dsimp only at hk2 ea2 eg2 em2 hD hs2 hj hkk ⊢
  subst hkk
  have e0 : b = bb := by rw [ea2] at ea; cases ea; rfl
  subst e0
  have e0 : m = m2 := by rw [eg2] at eg; cases eg; rfl
  subst e0
  have ly := hs2.1
  refine br_decide (fun hlt2 => ?_) (fun hge2 => ?_)
  · obtain ⟨b', m', ea', eg', em'⟩ := hs2.2 (by omega)
    repeat (first | refine ⟨⟨rfl, rfl⟩, ?_⟩ | refine ⟨rfl, ?_⟩)
    exact ⟨ixq_ok 8 rfl rfl rfl rfl, ⟨b, 0, ni, ic, k2⟩, by rw [ea2], by dsimp only; omega, _, _, _, by rw [hD]; exact wa_look, ixq_ok 2 rfl rfl rfl rfl, ⟨b', 0, s.n, s.cap, j⟩, by rw [ea'], by dsimp only; omega, st1_ok (P := Try.prog) rfl rfl rfl, rfl, ⟨g, D, b', 0 + (j : Int).toNat * 2, .par, m', j, 0, .s, _⟩, rfl, rfl, ⟨⟨eg', by dsimp only; omega, by simp only [Ty.len]; omega⟩, rfl, ⟨_, rfl⟩, fun _ _ _ e h => by dsimp only at e; rw [hD] at e; cases e; exact ne eg2 eg' (fun h => nomatch h) h.1⟩, trivial, fun _ _ => ⟨by omega, { k := k2, b1 := b1, j := j + 1, D := D, s := s, bb := b, m := m }, ⟨⟨hk2, ⟨ea2, eg2, em2⟩, hD, hs2, by dsimp only; omega⟩, rfl⟩, ⟨rfl, rfl, rfl, rfl, rfl, rfl, rfl, trivial⟩, Ent.pick [0, 1, 2] rfl rfl, by dsimp only; omega⟩⟩
  · repeat (first | refine ⟨⟨rfl, rfl⟩, ?_⟩ | refine ⟨rfl, ?_⟩)
    exact ⟨ixq_ok 8 rfl rfl rfl rfl, ⟨b, 0, ni, ic, k2⟩, by rw [ea2], by dsimp only; omega, st1_ok (P := Try.prog) rfl rfl rfl, rfl, ⟨g, D, b, 0 + (k2 : Int).toNat * 8, .inv, m, k2, 0, .s, _⟩, rfl, rfl, ⟨⟨eg2, by dsimp only; omega, by simp only [Ty.len]; omega⟩, rfl, ⟨_, rfl⟩, fun _ _ _ e h => by dsimp only at e h; rw [hD] at e; cases e; omega⟩, trivial, fun _ _ => ⟨by omega, { k := k2 + 1, b1 := b1, D := D }, by dsimp only; omega, ⟨rfl, rfl, rfl, rfl, trivial⟩, Ent.pick [0, 1, 2] rfl rfl, by dsimp only; omega⟩⟩
set_option maxRecDepth 100000 in
theorem sp_ok : FnOk Try.prog 34 spC :=
  fnOk (N := 221) (by kernel_rfl) Try.func34 rfl (by kernel_rfl) (fun _ => Nat.le_of_ble_eq_true rfl) sp_H [] fun x F hc hr => Eq.mpr (by kernel_rfl) (sp_vc x F hc hr)
end Go.Proofs.Ytfmadkaiigiaiaa
