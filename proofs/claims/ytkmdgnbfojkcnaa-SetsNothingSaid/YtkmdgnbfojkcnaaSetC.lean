/- The walker, where targets are atomic: regions, down, up. -/
import Derived.Test.YtkmdgnbfojkcnaaSetB
set_option linter.all false
namespace Go.Proofs.Ytkmdgnbfojkcnaa
open Go
set_option maxHeartbeats 1000000
/-- What is never called. -/
def offC : Con where
  X := List Value
  Y := Unit
  args x := x
  pre _ := []
  cond _ := False
  rdc _ _ := True
  rel _ _ := True
  val _ _ := .returned undef
  post _ _ := []
theorem off_ok {f : Nat} : FnOk Try.prog f offC := ⟨fun _ _ _ _ hc => False.elim hc⟩
theorem offO_ok {P : Program} {o : Oper} : OpOk P o offC := ⟨fun _ _ _ _ _ _ hc => False.elim hc⟩
structure WkIn (F : Atom) (wb b : Nat) (c : ChD) (eb gb : Nat) : Prop where
  l : Look F ⟨wb, 0, none⟩ (.pointer (some ⟨b, 0, none⟩))
  e : Look F ⟨wb, 2, none⟩ (.map (some eb))
  g : Look F ⟨wb, 6, none⟩ (.map (some gb))
  lat : LatIn F b c
theorem WkIn.sub {A B : Atom} {wb b eb gb : Nat} {c : ChD} (hs : Sub A B) (h : WkIn A wb b c eb gb) : WkIn B wb b c eb gb := ⟨h.l.sub hs, h.e.sub hs, h.g.sub hs, h.lat.sub hs⟩
structure WkX where
  wb : Nat
  b : Nat
  c : ChD
  eb : Nat
  el : List Int
  gb : Nat
  gl : List Int
  s : Int
/-- regions, at a state that is not parallel. -/
def rg0C : Con where
  X := WkX
  Y := Unit
  args x := [.pointer (some ⟨x.wb, 0, none⟩), .int .i64 x.s]
  pre _ := []
  cond x := isS x.c x.s = true ∧ kd x.c x.s.toNat ≠ 2
  rdc x F := WkIn F x.wb x.b x.c x.eb x.gb
  rel _ _ := True
  val _ _ := .returned (.tuple #[])
  post _ _ := []
  rmono _ _ _ h hk := hk.sub h
def rg0Inv (_x : WkX) (F : Atom) : Nat → Option Inv := fun
  | 0 => some { X := Unit, P := fun _ => False, mu := fun _ => 0, lv := fun _ => [(0, .pointer (some ⟨0, 0, none⟩)), (1, .int .i64 0), (22, .slice none 0 0), (23, .int .i64 0), (24, .int .i64 0)], st := fun _ => [F] }
  | _ => none
def rg0Ov (x : WkX) (_F : Atom) : List (Nat × Nat × OH) := [(0, 3, .q [.ex 0 (.is (.pointer (some ⟨x.b, 0, none⟩)))]), (0, 4, .c chtC [] []), (0, 7, .qo (ixQ 13)), (0, 9, .q [.ex 0 (.int .i64)]), (1, 3, .q [.ex 0 (.is (.pointer (some ⟨x.b, 0, none⟩)))]), (1, 5, .c offC [] [])]
noncomputable def rg0_H (x : Con.X rg0C) (F : Atom) : Hints where
  op := hk ((rg0Ov x F) ++ [])
  inv := rg0Inv x F
  cut := (fun _ _ _ => none) x F
  ord := (fun _ => [])
open Go.Value (int slice string bool pointer agg tuple func) in
open Go.IntKind (i64) in
set_option maxRecDepth 100000 in
theorem rg0_vc (x : WkX) (F : Atom) (hc : Con.cond rg0C x) (hr : Con.rdc rg0C x F) :
  Look F ⟨x.wb, 0, none⟩ (pointer (some ⟨x.b, 0, none⟩)) ∧
 FnOk Try.prog 17 chtC ∧
 true = true ∧
 ∃ (x_1 : ChtX),
 [pointer (some ⟨x.b, 0, none⟩)] = [pointer (some ⟨x_1.b, 0, none⟩)] ∧
 ([] : List Atom) = [] ∧
 True ∧
 (∀ (j : Nat) (u : Value), (chS x_1.c x_1.w)[j]? = some u → Look (Atom.pred (rest [(0, F)] [])) ⟨x_1.b, j, none⟩ u) ∧
 ∀ (y : Unit), True → QOpOk Try.prog (opIn Try.f114 0 7) (ixQ 13) ∧ ∃ (x_2 : IxQX), [slice x_1.w.vs.a x_1.w.vs.n x_1.w.vs.cap, int i64 x.s] = [slice (some ⟨x_2.b, x_2.o, none⟩) x_2.len x_2.cap, int i64 x_2.n] ∧ ((0 : Int) ≤ x_2.n ∧ x_2.n < (↑x_2.len : Int)) ∧ ∃ (n : Int), Look F ⟨x_2.b, x_2.o + x_2.n.toNat * 13 + 1, none⟩ (int i64 n) ∧ Br (n != (2 : Int)) (Done rg0C x F (Ending.returned (tuple { toList := [] })) [(0, F)]) (Look F ⟨x.wb, 0, none⟩ (pointer (some ⟨x.b, 0, none⟩)) ∧ FnOk Try.prog 33 offC ∧ true = true ∧ ∃ (x_3 : List Value), [pointer (some ⟨x.b, 0, none⟩), int i64 x.s] = x_3 ∧ ([] : List Atom) = [] ∧ False ∧ True ∧ ∀ (y : Unit), True → False) := by
  obtain ⟨wb, b, c, eb, el, gb, gl, s⟩ := x
  obtain ⟨hs, hk⟩ := hc
  replace hr : WkIn F wb b c eb gb := hr
  dsimp only at hs hk ⊢
  obtain ⟨i, rfl, hi⟩ := isS_spec hs
  obtain ⟨w, hw, e1, -, -, hst⟩ := lat_w hr.lat
  obtain ⟨b0, o0, ea, k1, -⟩ := hst i hi
  refine ⟨hr.l, cht_ok, rfl, ⟨b, c, w⟩, rfl, rfl, trivial, fun j u hj => Look.sub (A := F) (sub_rest 0 (by simp) rfl) (hw j u hj), fun _ _ => ⟨ixq_ok 13 rfl rfl rfl rfl, ⟨b0, o0, w.vs.n, w.vs.cap, i⟩, by dsimp only; rw [ea], by dsimp only; rw [e1]; omega, kd c i, k1, br_intro (fun _ => ⟨(), trivial, rfl, Ent.pick [0] rfl rfl⟩) (fun h => ?_)⟩⟩
  rw [Int.toNat_natCast] at hk
  exact absurd (by simpa using h) hk
set_option maxRecDepth 100000 in
theorem rg0_ok : FnOk Try.prog 114 rg0C :=
  fnOk (N := 35) (by kernel_rfl) Try.func114 rfl (by kernel_rfl) (fun _ => Nat.le_of_ble_eq_true rfl) rg0_H [] fun x F hc hr => Eq.mpr (by kernel_rfl) (rg0_vc x F hc hr)
def sh13k (k : Nat) : List LH := [.ex k .str, .ex k (.int .i64), .ex k (.int .i64), .ex k .slice, .ex k (.int .i64), .ex k .slice, .ex k .slice, .ex k .slice, .ex k .slice, .ex k .slice, .ex k (.int .i64), .ex k .slice, .ex k .str]
def dnEl (el gl : List Int) (s : Int) : List Int := bif memB gl s then el else add1 el s
def dwC : Con where
  X := WkX
  Y := Unit
  args x := [.pointer (some ⟨x.wb, 0, none⟩), .int .i64 x.s]
  pre x := [mpA x.eb (eK x.el), mpA x.gb (gK x.gl)]
  cond x := atB x.c x.s = true ∧ kd x.c x.s.toNat ≠ 2
  rdc x F := WkIn F x.wb x.b x.c x.eb x.gb
  rel _ _ := True
  val _ _ := .returned (.tuple #[])
  post x _ := [mpA x.eb (eK (dnEl x.el x.gl x.s)), mpA x.gb (gK (add1 x.gl x.s))]
  rmono _ _ _ h hk := hk.sub h
def dwOv (x : WkX) (_F : Atom) : List (Nat × Nat × OH) := [(0, 3, .q [.ex 2 (.is (.pointer (some ⟨x.b, 0, none⟩)))]), (0, 4, .c chtC [] []), (0, 7, .qo (ixQ 13)), (0, 8, .q (sh13k 2)), (0, 9, .n 1090), (0, 10, .w (at13 1090)),
  (1, 3, .q [.ex 2 (.is (.map (some x.gb)))]), (1, 5, .o lgC [] []), (2, 3, .q [.ex 2 (.is (.map (some x.gb)))]), (2, 5, .o sgC [1] [1]), (3, 3, .q [.ex 2 (.is (.pointer (some ⟨x.b, 0, none⟩)))]), (3, 5, .c hisC [] []),
  (4, 1, .q [.atj 1090]), (5, 3, .q [.ex 2 (.is (.pointer (some ⟨x.b, 0, none⟩)))]), (5, 7, .q [.ex 2 (.int .i64)]), (5, 9, .c offC [] []),
  (12, 3, .q [.ex 2 (.is (.map (some x.eb)))]), (12, 6, .o seC [0] [0]), (13, 3, .q [.ex 2 (.is (.pointer (some ⟨x.b, 0, none⟩)))]), (13, 5, .c coC [] []), (14, 3, .q [.ex 2 (.is (.map (some x.eb)))]), (14, 6, .o offC [] []), (15, 4, .q [.ex 2 (.is (.pointer (some ⟨x.b, 0, none⟩)))]), (15, 5, .c offC [] []),
  (16, 2, .c rg0C [] [])]
noncomputable def dw_H (x : Con.X dwC) (F : Atom) : Hints where
  op := hk ((dwOv x F) ++ [])
  inv := (fun _ _ _ => none) x F
  cut := (fun _ _ _ => none) x F
  ord := (fun _ => [])
open Go.Value (int slice string bool pointer agg tuple func) in
open Go.IntKind (i64) in
set_option maxRecDepth 100000 in
theorem dw_vc (x : WkX) (F : Atom) (hc : Con.cond dwC x) (hr : Con.rdc dwC x F) :
  Look F ⟨x.wb, 0, none⟩ (pointer (some ⟨x.b, 0, none⟩)) ∧
 FnOk Try.prog 17 chtC ∧
 true = true ∧
 ∃ (x_1 : ChtX),
 [pointer (some ⟨x.b, 0, none⟩)] = [pointer (some ⟨x_1.b, 0, none⟩)] ∧
 ([] : List Atom) = [] ∧
 True ∧
 (∀ (j : Nat) (u : Value), (chS x_1.c x_1.w)[j]? = some u → Look (Atom.pred (rest [(0, Atom.obj x.eb (Obj.map { toList := mEl 0 (eK x.el) } (eK x.el).length)), (1, Atom.obj x.gb (Obj.map { toList := mEl 0 (gK x.gl) } (gK x.gl).length)), (2, F)] [])) ⟨x_1.b, j, none⟩ u) ∧
 ∀ (y : Unit),
 True →
 QOpOk Try.prog (opIn Try.f90 0 7) (ixQ 13) ∧
 ∃ (x_2 : IxQX),
 [slice x_1.w.vs.a x_1.w.vs.n x_1.w.vs.cap, int i64 x.s] = [slice (some ⟨x_2.b, x_2.o, none⟩) x_2.len x_2.cap, int i64 x_2.n] ∧
 ((0 : Int) ≤ x_2.n ∧ x_2.n < (↑x_2.len : Int)) ∧
 ∃ (s : ByteArray),
 Look F ⟨x_2.b, x_2.o + x_2.n.toNat * 13, none⟩ (string s) ∧
 ∃ (n : Int),
 Look F ⟨x_2.b, x_2.o + x_2.n.toNat * 13 + 1, none⟩ (int i64 n) ∧
 ∃ (n_1 : Int),
 Look F ⟨x_2.b, x_2.o + x_2.n.toNat * 13 + 2, none⟩ (int i64 n_1) ∧
 ∃ (a : Option Addr),
 ∃ (l : Nat),
 ∃ (c : Nat),
 Look F ⟨x_2.b, x_2.o + x_2.n.toNat * 13 + 3, none⟩ (slice a l c) ∧
 ∃ (n_2 : Int),
 Look F ⟨x_2.b, x_2.o + x_2.n.toNat * 13 + 4, none⟩ (int i64 n_2) ∧
 ∃ (a_1 : Option Addr),
 ∃ (l_1 : Nat),
 ∃ (c_1 : Nat),
 Look F ⟨x_2.b, x_2.o + x_2.n.toNat * 13 + 5, none⟩ (slice a_1 l_1 c_1) ∧
 ∃ (a_2 : Option Addr),
 ∃ (l_2 : Nat),
 ∃ (c_2 : Nat),
 Look F ⟨x_2.b, x_2.o + x_2.n.toNat * 13 + 6, none⟩ (slice a_2 l_2 c_2) ∧
 ∃ (a_3 : Option Addr),
 ∃ (l_3 : Nat),
 ∃ (c_3 : Nat),
 Look F ⟨x_2.b, x_2.o + x_2.n.toNat * 13 + 7, none⟩ (slice a_3 l_3 c_3) ∧
 ∃ (a_4 : Option Addr),
 ∃ (l_4 : Nat),
 ∃ (c_4 : Nat),
 Look F ⟨x_2.b, x_2.o + x_2.n.toNat * 13 + 8, none⟩ (slice a_4 l_4 c_4) ∧
 ∃ (a_5 : Option Addr),
 ∃ (l_5 : Nat),
 ∃ (c_5 : Nat),
 Look F ⟨x_2.b, x_2.o + x_2.n.toNat * 13 + 9, none⟩ (slice a_5 l_5 c_5) ∧
 ∃ (n_3 : Int),
 Look F ⟨x_2.b, x_2.o + x_2.n.toNat * 13 + 10, none⟩ (int i64 n_3) ∧
 ∃ (a_6 : Option Addr),
 ∃ (l_6 : Nat),
 ∃ (c_6 : Nat),
 Look F ⟨x_2.b, x_2.o + x_2.n.toNat * 13 + 11, none⟩ (slice a_6 l_6 c_6) ∧
 ∃ (s_1 : ByteArray),
 Look F ⟨x_2.b, x_2.o + x_2.n.toNat * 13 + 12, none⟩ (string s_1) ∧
 ∀ (b : Nat),
 Same ⟨b, 0, none⟩ b ∧
 Same ⟨b, 1, none⟩ b ∧
 Same ⟨b, 2, none⟩ b ∧
 Same ⟨b, 3, none⟩ b ∧
 Same ⟨b, 4, none⟩ b ∧
 Same ⟨b, 5, none⟩ b ∧
 Same ⟨b, 6, none⟩ b ∧
 Same ⟨b, 7, none⟩ b ∧
 Same ⟨b, 8, none⟩ b ∧
 Same ⟨b, 9, none⟩ b ∧
 Same ⟨b, 10, none⟩ b ∧
 Same ⟨b, 11, none⟩ b ∧
 Same ⟨b, 12, none⟩ b ∧
 Look F ⟨x.wb, 6, none⟩ (Value.map (some x.gb)) ∧
 OpOk Try.prog { dst := some 21, op := Op.lookup 125 (Operand.tmp 19) (Operand.tmp 20) false, type := 4, pos := "sets.go:132", after := { toList := [{ on := 3, ground := Ground.data }, { on := 4, ground := Ground.data }] }, guard := none } lgC ∧
 true = true ∧
 ∃ (x_3 : GkX),
 [Value.map (some x.gb), int i64 x.s] = [Value.map (some x_3.b), int i64 x_3.k] ∧
 ([] : List Atom) = [] ∧
 True ∧
 MapIn (Atom.pred (rest [(0, Atom.obj x.eb (Obj.map { toList := mEl 0 (eK x.el) } (eK x.el).length)), (1, Atom.obj x.gb (Obj.map { toList := mEl 0 (gK x.gl) } (gK x.gl).length)), (2, F), (1090, Atom.cells b [string s, int i64 n, int i64 n_1, slice a l c, int i64 n_2, slice a_1 l_1 c_1, slice a_2 l_2 c_2, slice a_3 l_3 c_3, slice a_4 l_4 c_4, slice a_5 l_5 c_5, int i64 n_3, slice a_6 l_6 c_6, string s_1] 61)] [])) x_3.b (gK x_3.l) ∧
 ∀ (y : Unit),
 True →
 Br (memB x_3.l x_3.k) (Done dwC x F (Ending.returned (tuple { toList := [] })) [(0, Atom.obj x.eb (Obj.map { toList := mEl 0 (eK x.el) } (eK x.el).length)), (1, Atom.obj x.gb (Obj.map { toList := mEl 0 (gK x.gl) } (gK x.gl).length)), (2, F), (1090, Atom.cells b [string s, int i64 n, int i64 n_1, slice a l c, int i64 n_2, slice a_1 l_1 c_1, slice a_2 l_2 c_2, slice a_3 l_3 c_3, slice a_4 l_4 c_4, slice a_5 l_5 c_5, int i64 n_3, slice a_6 l_6 c_6, string s_1] 61)])
 (Look F ⟨x.wb, 6, none⟩ (Value.map (some x.gb)) ∧
 OpOk Try.prog { dst := none, op := Op.mapUpdate 125 (Operand.tmp 25) (Operand.tmp 26) (Operand.const (bool true)), type := 0, pos := "sets.go:135", after := { toList := [{ on := 3, ground := Ground.data }, { on := 4, ground := Ground.data }, { on := 0, ground := Ground.phase }, { on := 1, ground := Ground.phase }, { on := 2, ground := Ground.phase }, { on := 3, ground := Ground.phase }, { on := 4, ground := Ground.phase }] }, guard := none } sgC ∧
 true = true ∧
 ∃ (x_4 : GkX),
 [Value.map (some x.gb), int i64 x.s, bool true] = [Value.map (some x_4.b), int i64 x_4.k, bool true] ∧
 [Atom.obj x.gb (Obj.map { toList := mEl 0 (gK x.gl) } (gK x.gl).length)] = [Atom.obj x_4.b (Obj.map { toList := mEl 0 (gK x_4.l) } (gK x_4.l).length)] ∧
 True ∧
 True ∧
 ∀ (y : Unit),
 True →
 Look F ⟨x.wb, 0, none⟩ (pointer (some ⟨x.b, 0, none⟩)) ∧
 FnOk Try.prog 109 hisC ∧
 true = true ∧
 ∃ (x_5 : LqX),
 [pointer (some ⟨x.b, 0, none⟩), int i64 x.s] = [pointer (some ⟨x_5.b, 0, none⟩), int i64 x_5.a] ∧
 ([] : List Atom) = [] ∧
 isS x_5.c x_5.a = true ∧
 LatIn (Atom.pred (rest [(0, Atom.obj x.eb (Obj.map { toList := mEl 0 (eK x.el) } (eK x.el).length)), (1, Atom.obj x_4.b (Obj.map { toList := mEl 0 (gK (add1 x_4.l x_4.k)) } (gK (add1 x_4.l x_4.k)).length)), (2, F), (1090, Atom.cells b [string s, int i64 n, int i64 n_1, slice a l c, int i64 n_2, slice a_1 l_1 c_1, slice a_2 l_2 c_2, slice a_3 l_3 c_3, slice a_4 l_4 c_4, slice a_5 l_5 c_5, int i64 n_3, slice a_6 l_6 c_6, string s_1] 61)] [])) x_5.b x_5.c ∧
 ∀ (y : Unit),
 True →
 Br (hisB x_5.c x_5.a) (Same ⟨b, 2, none⟩ b ∧ true = true ∧ Look F ⟨x.wb, 0, none⟩ (pointer (some ⟨x.b, 0, none⟩)) ∧ ∃ (n : Int), Look F ⟨x.wb, 5, none⟩ (int i64 n) ∧ FnOk Try.prog 18 offC ∧ true = true ∧ ∃ (x_6 : List Value), [pointer (some ⟨x.b, 0, none⟩), int i64 n, int i64 n_1] = x_6 ∧ ([] : List Atom) = [] ∧ False ∧ True ∧ ∀ (y : Unit), True → False)
 (Look F ⟨x.wb, 2, none⟩ (Value.map (some x.eb)) ∧
 OpOk Try.prog { dst := none, op := Op.mapUpdate 124 (Operand.tmp 91) (Operand.tmp 92) (Operand.tmp 93), type := 0, pos := "sets.go:149", after := { toList := [{ on := 3, ground := Ground.data }, { on := 4, ground := Ground.data }, { on := 5, ground := Ground.data }, { on := 0, ground := Ground.phase }, { on := 1, ground := Ground.phase }, { on := 2, ground := Ground.phase }, { on := 3, ground := Ground.phase }, { on := 4, ground := Ground.phase }, { on := 5, ground := Ground.phase }] }, guard := none } seC ∧
 true = true ∧
 ∃ (x_6 : GkX),
 [Value.map (some x.eb), int i64 x.s, int i64 x.s] = [Value.map (some x_6.b), int i64 x_6.k, int i64 x_6.k] ∧
 [Atom.obj x.eb (Obj.map { toList := mEl 0 (eK x.el) } (eK x.el).length)] = [Atom.obj x_6.b (Obj.map { toList := mEl 0 (eK x_6.l) } (eK x_6.l).length)] ∧
 True ∧
 True ∧
 ∀ (y : Unit),
 True →
 Look F ⟨x.wb, 0, none⟩ (pointer (some ⟨x.b, 0, none⟩)) ∧
 FnOk Try.prog 22 coC ∧
 true = true ∧
 ∃ (x_7 : LqX),
 [pointer (some ⟨x.b, 0, none⟩), int i64 x.s] = [pointer (some ⟨x_7.b, 0, none⟩), int i64 x_7.a] ∧
 ([] : List Atom) = [] ∧
 True ∧
 LatIn (Atom.pred (rest [(0, Atom.obj x_6.b (Obj.map { toList := mEl 0 (eK (add1 x_6.l x_6.k)) } (eK (add1 x_6.l x_6.k)).length)), (1, Atom.obj x_4.b (Obj.map { toList := mEl 0 (gK (add1 x_4.l x_4.k)) } (gK (add1 x_4.l x_4.k)).length)), (2, F), (1090, Atom.cells b [string s, int i64 n, int i64 n_1, slice a l c, int i64 n_2, slice a_1 l_1 c_1, slice a_2 l_2 c_2, slice a_3 l_3 c_3, slice a_4 l_4 c_4, slice a_5 l_5 c_5, int i64 n_3, slice a_6 l_6 c_6, string s_1] 61)] [])) x_7.b x_7.c ∧
 ∀ (y : Unit),
 True →
 Br (coB x_7.c x_7.a)
 (Look F ⟨x.wb, 3, none⟩ (Value.map (some x.eb)) ∧
 OpOk Try.prog { dst := none, op := Op.mapUpdate 124 (Operand.tmp 103) (Operand.tmp 104) (Operand.tmp 105), type := 0, pos := "sets.go:151", after := { toList := [{ on := 3, ground := Ground.data }, { on := 4, ground := Ground.data }, { on := 5, ground := Ground.data }, { on := 0, ground := Ground.phase }, { on := 1, ground := Ground.phase }, { on := 2, ground := Ground.phase }, { on := 3, ground := Ground.phase }, { on := 4, ground := Ground.phase }, { on := 5, ground := Ground.phase }] }, guard := none } offC ∧
 true = true ∧ ∃ (x_8 : List Value), [Value.map (some x.eb), int i64 x.s, int i64 x.s] = x_8 ∧ ([] : List Atom) = [] ∧ False ∧ True ∧ ∀ (y : Unit), True → true = true ∧ Look F ⟨x.wb, 0, none⟩ (pointer (some ⟨x.b, 0, none⟩)) ∧ FnOk Try.prog 17 offC ∧ true = true ∧ ∃ (x_9 : List Value), [pointer (some ⟨x.b, 0, none⟩)] = x_9 ∧ ([] : List Atom) = [] ∧ False ∧ True ∧ ∀ (y : Unit), True → False)
 (FnOk Try.prog 114 rg0C ∧
 true = true ∧
 ∃ (x_8 : WkX),
 [pointer (some ⟨x.wb, 0, none⟩), int i64 x.s] = [pointer (some ⟨x_8.wb, 0, none⟩), int i64 x_8.s] ∧
 ([] : List Atom) = [] ∧
 (isS x_8.c x_8.s = true ∧ kd x_8.c x_8.s.toNat ≠ (2 : Int)) ∧
 WkIn (Atom.pred (rest [(0, Atom.obj x_6.b (Obj.map { toList := mEl 0 (eK (add1 x_6.l x_6.k)) } (eK (add1 x_6.l x_6.k)).length)), (1, Atom.obj x_4.b (Obj.map { toList := mEl 0 (gK (add1 x_4.l x_4.k)) } (gK (add1 x_4.l x_4.k)).length)), (2, F), (1090, Atom.cells b [string s, int i64 n, int i64 n_1, slice a l c, int i64 n_2, slice a_1 l_1 c_1, slice a_2 l_2 c_2, slice a_3 l_3 c_3, slice a_4 l_4 c_4, slice a_5 l_5 c_5, int i64 n_3, slice a_6 l_6 c_6, string s_1] 61)] [])) x_8.wb x_8.b x_8.c x_8.eb x_8.gb ∧
 ∀ (y : Unit), True → Done dwC x F (Ending.returned (tuple { toList := [] })) [(0, Atom.obj x_6.b (Obj.map { toList := mEl 0 (eK (add1 x_6.l x_6.k)) } (eK (add1 x_6.l x_6.k)).length)), (1, Atom.obj x_4.b (Obj.map { toList := mEl 0 (gK (add1 x_4.l x_4.k)) } (gK (add1 x_4.l x_4.k)).length)), (2, F), (1090, Atom.cells b [string s, int i64 n, int i64 n_1, slice a l c, int i64 n_2, slice a_1 l_1 c_1, slice a_2 l_2 c_2, slice a_3 l_3 c_3, slice a_4 l_4 c_4, slice a_5 l_5 c_5, int i64 n_3, slice a_6 l_6 c_6, string s_1] 61)]))) := by
  obtain ⟨wb, b, c, eb, el, gb, gl, s⟩ := x
  obtain ⟨hat, hk⟩ := hc
  replace hr : WkIn F wb b c eb gb := hr
  dsimp only at hat hk ⊢
  obtain ⟨⟨hs, hlt⟩, hkids⟩ : (isS c s = true ∧ kd c s.toNat < 4) ∧ ((kidsP c s.toNat).length : Int) = 0 := by
    unfold atB at hat
    simpa only [Bool.and_eq_true, decide_eq_true_eq, beq_iff_eq] using hat
  have hhis : hisB c s = false := by unfold hisB; exact decide_eq_false (by omega)
  have hco : coB c s = false := by
    unfold coB
    rw [decide_eq_false (show ¬ ((kidsP c s.toNat).length : Int) > 0 by omega), Bool.and_false]
  obtain ⟨i, rfl, hi⟩ := isS_spec hs
  obtain ⟨st, hst⟩ := get_st hi
  obtain ⟨w, hw, hch⟩ := hr.lat.chs
  obtain ⟨⟨va, vn, vcap⟩, vt, wbb, wd, wi⟩ := w
  have h1 := hch.sts
  dsimp only [ChS.v] at h1
  obtain ⟨n1, -, -⟩ := h1.num
  have e1 : vn = nS c := n1
  obtain ⟨b0, o0, r, rfl, ⟨vk, ve, vx, vtt, vd, vi, vp, rfl, p1, p2, p3, p4, p5, p6, p7⟩, hL⟩ := h1.at' hst
  obtain ⟨ka, kc, rfl, -⟩ := SlIn.open p1
  obtain ⟨ea2, ec, rfl, -⟩ := SlIn.open p2
  obtain ⟨xa, xc, rfl, -⟩ := SlIn.open p3
  obtain ⟨ta, tc, rfl, -⟩ := SlIn.open p4
  obtain ⟨da, dc, rfl, -⟩ := SlIn.open p5
  obtain ⟨ia, ic, rfl, -⟩ := SlIn.open p6
  obtain ⟨pa, pc, rfl, -⟩ := SlIn.open p7
  refine ⟨hr.l, cht_ok, rfl, ⟨b, c, _⟩, rfl, rfl, trivial, fun j u hj => Look.sub (A := F) (sub_rest 2 (by simp) rfl) (hw j u hj), fun _ _ => ⟨ixq_ok 13 rfl rfl rfl rfl, ⟨b0, o0, vn, vcap, i⟩, rfl, by dsimp only; omega, st.id, hL 0 _ rfl, st.kind, hL 1 _ rfl, st.parent, hL 2 _ rfl, _, _, _, hL 3 _ rfl, st.init, hL 4 _ rfl, _, _, _, hL 5 _ rfl, _, _, _, hL 6 _ rfl, _, _, _, hL 7 _ rfl, _, _, _, hL 8 _ rfl, _, _, _, hL 9 _ rfl, st.done.kind, hL 10 _ rfl, _, _, _, hL 11 _ rfl, st.done.body, hL 12 _ rfl, fun bs => ?_⟩⟩
  iterate 13 refine ⟨⟨rfl, rfl⟩, ?_⟩
  refine ⟨hr.g, lg_ok rfl Try.underlying125 Try.underlying3 rfl rfl, rfl, ⟨gb, gl, i⟩, rfl, rfl, trivial, MapIn.sub (A := mpA gb (gK gl)) (sub_rest 1 (by simp) rfl) MapIn.own, fun _ _ => br_intro (fun hm => ⟨(), trivial, rfl, ?_⟩) (fun hm => ⟨hr.g, sg_ok rfl Try.underlying125 Try.underlying3, rfl, ⟨gb, gl, i⟩, rfl, rfl, trivial, trivial, fun _ _ => ⟨hr.l, his_ok, rfl, ⟨b, c, i⟩, rfl, rfl, hs, hr.lat.sub (sub_rest 2 (by simp) rfl), fun _ _ => br_intro (fun h => ?_) (fun _ => ⟨hr.e, se_ok rfl Try.underlying124 Try.underlying3, rfl, ⟨eb, el, i⟩, rfl, rfl, trivial, trivial, fun _ _ => ⟨hr.l, co_ok, rfl, ⟨b, c, i⟩, rfl, rfl, trivial, hr.lat.sub (sub_rest 2 (by simp) rfl), fun _ _ => br_intro (fun h => ?_) (fun _ => ⟨rg0_ok, rfl, ⟨wb, b, c, eb, el, gb, gl, i⟩, rfl, rfl, ⟨hs, hk⟩, hr.sub (sub_rest 2 (by simp) rfl), fun _ _ => ⟨(), trivial, rfl, ?_⟩⟩)⟩⟩)⟩⟩)⟩
  · dsimp only at hm
    show Ent _ [(0, mpA eb (eK (dnEl el gl i))), (1, mpA gb (gK (add1 gl i))), (2, F)]
    unfold dnEl add1
    rw [hm]
    exact Ent.pick [0, 1, 2] rfl rfl
  · dsimp only at h
    rw [hhis] at h; cases h
  · dsimp only at h
    rw [hco] at h; cases h
  · dsimp only at hm
    show Ent _ [(0, mpA eb (eK (dnEl el gl i))), (1, mpA gb (gK (add1 gl i))), (2, F)]
    unfold dnEl
    rw [hm]
    exact Ent.pick [0, 1, 2] rfl rfl
set_option maxRecDepth 100000 in
theorem dw_ok : FnOk Try.prog 90 dwC :=
  fnOk (N := 123) (by kernel_rfl) Try.func90 rfl (by kernel_rfl) (fun _ => Nat.le_of_ble_eq_true rfl) dw_H [] fun x F hc hr => Eq.mpr (by kernel_rfl) (dw_vc x F hc hr)
def rgS (c : ChD) (st : List Int × List Int) (k : Int) : List Int × List Int := bif frB c st.1 k then (dnEl st.1 st.2 k, add1 st.2 k) else st
def regV (c : ChD) (st : List Int × List Int) (s : Int) : List Int × List Int := bif kd c s.toNat == 2 then (kidsP c s.toNat).foldl (rgS c) st else st
def Flat (c : ChD) : Prop := ∀ s : Nat, s < nS c → kd c s = 2 → ∀ k ∈ kidsP c s, atB c k = true ∧ kd c k.toNat ≠ 2
def rgnC : Con where
  X := WkX
  Y := Unit
  args x := [.pointer (some ⟨x.wb, 0, none⟩), .int .i64 x.s]
  pre x := [mpA x.eb (eK x.el), mpA x.gb (gK x.gl)]
  cond x := Flat x.c ∧ isS x.c x.s = true
  rdc x F := WkIn F x.wb x.b x.c x.eb x.gb
  rel _ _ := True
  val _ _ := .returned (.tuple #[])
  post x _ := [mpA x.eb (eK (regV x.c (x.el, x.gl) x.s).1), mpA x.gb (gK (regV x.c (x.el, x.gl) x.s).2)]
  rmono _ _ _ h hk := hk.sub h
structure RnI where
  j : Nat
  st : List Int × List Int
  r : Row
structure RnP (x : WkX) (i : RnI) : Prop where
  par : kd x.c x.s.toNat = 2
  row : IsRow 3 1 (ints (kidsP x.c x.s.toNat)) i.r
  n : i.r.n = (kidsP x.c x.s.toNat).length
  j : i.j ≤ (kidsP x.c x.s.toNat).length
  st : i.st = ((kidsP x.c x.s.toNat).take i.j).foldl (rgS x.c) (x.el, x.gl)
def rgnInv (x : WkX) (F : Atom) : Nat → Option Inv := fun
  | 0 => some { X := RnI, P := fun i => RnP x i, mu := fun i => (kidsP x.c x.s.toNat).length - i.j, lv := fun i => [(0, .pointer (some ⟨x.wb, 0, none⟩)), (22, .slice i.r.a i.r.n i.r.cap), (23, .int .i64 i.r.n), (24, .int .i64 i.j)], st := fun i => [mpA x.eb (eK i.st.1), mpA x.gb (gK i.st.2), i.r.A, F] }
  | _ => none
def rgnOv (x : WkX) (_F : Atom) : List (Nat × Nat × OH) := [(0, 3, .q [.ex 2 (.is (.pointer (some ⟨x.b, 0, none⟩)))]), (0, 4, .c chtC [] []), (0, 7, .qo (ixQ 13)), (0, 9, .q [.ex 2 (.int .i64)]), (1, 3, .q [.ex 2 (.is (.pointer (some ⟨x.b, 0, none⟩)))]), (1, 5, .c kidsC [] [2050]),
  (3, 0, .qo (ixQ 1)), (3, 1, .q [.ex 2 (.int .i64)]), (4, 2, .c frC [] []), (5, 2, .c dwC [0, 1] [0, 1])]
noncomputable def rgn_H (x : Con.X rgnC) (F : Atom) : Hints where
  op := hk ((rgnOv x F) ++ [])
  inv := rgnInv x F
  cut := (fun _ _ _ => none) x F
  ord := (fun _ => [])
open Go.Value (int slice string bool pointer agg tuple func) in
open Go.IntKind (i64) in
set_option maxRecDepth 100000 in
theorem rgn_vc (x : WkX) (F : Atom) (hc : Con.cond rgnC x) (hr : Con.rdc rgnC x F) :
  Look F ⟨x.wb, 0, none⟩ (pointer (some ⟨x.b, 0, none⟩)) ∧
 FnOk Try.prog 17 chtC ∧
 true = true ∧
 ∃ (x_1 : ChtX),
 [pointer (some ⟨x.b, 0, none⟩)] = [pointer (some ⟨x_1.b, 0, none⟩)] ∧
 ([] : List Atom) = [] ∧
 True ∧
 (∀ (j : Nat) (u : Value), (chS x_1.c x_1.w)[j]? = some u → Look (Atom.pred (rest [(0, Atom.obj x.eb (Obj.map { toList := mEl 0 (eK x.el) } (eK x.el).length)), (1, Atom.obj x.gb (Obj.map { toList := mEl 0 (gK x.gl) } (gK x.gl).length)), (2, F)] [])) ⟨x_1.b, j, none⟩ u) ∧
 ∀ (y : Unit),
 True →
 QOpOk Try.prog (opIn Try.f114 0 7) (ixQ 13) ∧
 ∃ (x_2 : IxQX),
 [slice x_1.w.vs.a x_1.w.vs.n x_1.w.vs.cap, int i64 x.s] = [slice (some ⟨x_2.b, x_2.o, none⟩) x_2.len x_2.cap, int i64 x_2.n] ∧
 ((0 : Int) ≤ x_2.n ∧ x_2.n < (↑x_2.len : Int)) ∧
 ∃ (n : Int),
 Look F ⟨x_2.b, x_2.o + x_2.n.toNat * 13 + 1, none⟩ (int i64 n) ∧
 Br (n != (2 : Int)) (Done rgnC x F (Ending.returned (tuple { toList := [] })) [(0, Atom.obj x.eb (Obj.map { toList := mEl 0 (eK x.el) } (eK x.el).length)), (1, Atom.obj x.gb (Obj.map { toList := mEl 0 (gK x.gl) } (gK x.gl).length)), (2, F)])
 (Look F ⟨x.wb, 0, none⟩ (pointer (some ⟨x.b, 0, none⟩)) ∧
 FnOk Try.prog 33 kidsC ∧
 true = true ∧
 ∃ (x_3 : LqX),
 [pointer (some ⟨x.b, 0, none⟩), int i64 x.s] = [pointer (some ⟨x_3.b, 0, none⟩), int i64 x_3.a] ∧
 ([] : List Atom) = [] ∧
 True ∧
 LatIn (Atom.pred (rest [(0, Atom.obj x.eb (Obj.map { toList := mEl 0 (eK x.el) } (eK x.el).length)), (1, Atom.obj x.gb (Obj.map { toList := mEl 0 (gK x.gl) } (gK x.gl).length)), (2, F)] [])) x_3.b x_3.c ∧
 ∀ (y : Row),
 IsRow 3 1 (ints (bif isS x_3.c x_3.a then kidsP x_3.c x_3.a.toNat else [])) y ∧ y.n = (bif isS x_3.c x_3.a then kidsP x_3.c x_3.a.toNat else []).length →
 (∃ (x_4 : RnI), RnP x x_4 ∧ (pointer (some ⟨x.wb, 0, none⟩) = pointer (some ⟨x.wb, 0, none⟩) ∧ slice y.a y.n y.cap = slice x_4.r.a x_4.r.n x_4.r.cap ∧ int i64 (↑y.n : Int) = int i64 (↑x_4.r.n : Int) ∧ int i64 (0 : Int) = int i64 (↑x_4.j : Int) ∧ True) ∧ Ent [(0, Atom.obj x.eb (Obj.map { toList := mEl 0 (eK x.el) } (eK x.el).length)), (1, Atom.obj x.gb (Obj.map { toList := mEl 0 (gK x.gl) } (gK x.gl).length)), (2, F), (2050, y.A)] [(0, Atom.obj x.eb (Obj.map { toList := mEl 0 (eK x_4.st.fst) } (eK x_4.st.fst).length)), (1, Atom.obj x.gb (Obj.map { toList := mEl 0 (gK x_4.st.snd) } (gK x_4.st.snd).length)), (2, x_4.r.A), (3, F)]) ∧
 ∀ (x_4 : RnI) (js : Nat → Value),
 RnP x x_4 →
 Br (decide ((↑x_4.j : Int) < (↑x_4.r.n : Int)))
 (QOpOk Try.prog (opIn Try.f114 3 0) (ixQ 1) ∧
 ∃ (x_5 : IxQX),
 [slice x_4.r.a x_4.r.n x_4.r.cap, int i64 (↑x_4.j : Int)] = [slice (some ⟨x_5.b, x_5.o, none⟩) x_5.len x_5.cap, int i64 x_5.n] ∧
 ((0 : Int) ≤ x_5.n ∧ x_5.n < (↑x_5.len : Int)) ∧
 ∃ (n : Int),
 Look x_4.r.A ⟨x_5.b, x_5.o + x_5.n.toNat * 1, none⟩ (int i64 n) ∧
 FnOk Try.prog 124 frC ∧
 true = true ∧
 ∃ (x_6 : FrX),
 [pointer (some ⟨x.wb, 0, none⟩), int i64 n] = [pointer (some ⟨x_6.wb, 0, none⟩), int i64 x_6.s] ∧
 ([] : List Atom) = [] ∧
 True ∧
 (Look (Atom.pred (rest [(0, Atom.obj x.eb (Obj.map { toList := mEl 0 (eK x_4.st.fst) } (eK x_4.st.fst).length)), (1, Atom.obj x.gb (Obj.map { toList := mEl 0 (gK x_4.st.snd) } (gK x_4.st.snd).length)), (2, x_4.r.A), (3, F)] [])) ⟨x_6.wb, 0, none⟩ (pointer (some ⟨x_6.b, 0, none⟩)) ∧
 Look (Atom.pred (rest [(0, Atom.obj x.eb (Obj.map { toList := mEl 0 (eK x_4.st.fst) } (eK x_4.st.fst).length)), (1, Atom.obj x.gb (Obj.map { toList := mEl 0 (gK x_4.st.snd) } (gK x_4.st.snd).length)), (2, x_4.r.A), (3, F)] [])) ⟨x_6.wb, 2, none⟩ (Value.map (some x_6.eb)) ∧
 MapIn (Atom.pred (rest [(0, Atom.obj x.eb (Obj.map { toList := mEl 0 (eK x_4.st.fst) } (eK x_4.st.fst).length)), (1, Atom.obj x.gb (Obj.map { toList := mEl 0 (gK x_4.st.snd) } (gK x_4.st.snd).length)), (2, x_4.r.A), (3, F)] [])) x_6.eb (eK x_6.el) ∧ LatIn (Atom.pred (rest [(0, Atom.obj x.eb (Obj.map { toList := mEl 0 (eK x_4.st.fst) } (eK x_4.st.fst).length)), (1, Atom.obj x.gb (Obj.map { toList := mEl 0 (gK x_4.st.snd) } (gK x_4.st.snd).length)), (2, x_4.r.A), (3, F)] [])) x_6.b x_6.c) ∧
 ∀ (y : Unit),
 True →
 Br (frB x_6.c x_6.el x_6.s)
 (FnOk Try.prog 90 dwC ∧
 true = true ∧
 ∃ (x_7 : WkX),
 [pointer (some ⟨x.wb, 0, none⟩), int i64 n] = [pointer (some ⟨x_7.wb, 0, none⟩), int i64 x_7.s] ∧
 [Atom.obj x.eb (Obj.map { toList := mEl 0 (eK x_4.st.fst) } (eK x_4.st.fst).length), Atom.obj x.gb (Obj.map { toList := mEl 0 (gK x_4.st.snd) } (gK x_4.st.snd).length)] = [Atom.obj x_7.eb (Obj.map { toList := mEl 0 (eK x_7.el) } (eK x_7.el).length), Atom.obj x_7.gb (Obj.map { toList := mEl 0 (gK x_7.gl) } (gK x_7.gl).length)] ∧
 (atB x_7.c x_7.s = true ∧ kd x_7.c x_7.s.toNat ≠ (2 : Int)) ∧
 WkIn (Atom.pred (rest [(0, Atom.obj x.eb (Obj.map { toList := mEl 0 (eK x_4.st.fst) } (eK x_4.st.fst).length)), (1, Atom.obj x.gb (Obj.map { toList := mEl 0 (gK x_4.st.snd) } (gK x_4.st.snd).length)), (2, x_4.r.A), (3, F)] [0, 1])) x_7.wb x_7.b x_7.c x_7.eb x_7.gb ∧
 ∀ (y : Unit),
 True →
 ((-9223372036854775808 : Int) ≤ (↑x_4.j : Int) + (1 : Int) ∧ (↑x_4.j : Int) + (1 : Int) ≤ (9223372036854775807 : Int)) ∧
 ∃ (y : RnI),
 RnP x y ∧
 (pointer (some ⟨x.wb, 0, none⟩) = pointer (some ⟨x.wb, 0, none⟩) ∧ slice x_4.r.a x_4.r.n x_4.r.cap = slice y.r.a y.r.n y.r.cap ∧ int i64 (↑x_4.r.n : Int) = int i64 (↑y.r.n : Int) ∧ int i64 ((↑x_4.j : Int) + (1 : Int)) = int i64 (↑y.j : Int) ∧ True) ∧
 Ent [(0, Atom.obj x_7.eb (Obj.map { toList := mEl 0 (eK (dnEl x_7.el x_7.gl x_7.s)) } (eK (dnEl x_7.el x_7.gl x_7.s)).length)), (1, Atom.obj x_7.gb (Obj.map { toList := mEl 0 (gK (add1 x_7.gl x_7.s)) } (gK (add1 x_7.gl x_7.s)).length)), (2, x_4.r.A), (3, F)] [(0, Atom.obj x.eb (Obj.map { toList := mEl 0 (eK y.st.fst) } (eK y.st.fst).length)), (1, Atom.obj x.gb (Obj.map { toList := mEl 0 (gK y.st.snd) } (gK y.st.snd).length)), (2, y.r.A), (3, F)] ∧ (kidsP x.c x.s.toNat).length - y.j < (kidsP x.c x.s.toNat).length - x_4.j)
 (((-9223372036854775808 : Int) ≤ (↑x_4.j : Int) + (1 : Int) ∧ (↑x_4.j : Int) + (1 : Int) ≤ (9223372036854775807 : Int)) ∧
 ∃ (y : RnI),
 RnP x y ∧
 (pointer (some ⟨x.wb, 0, none⟩) = pointer (some ⟨x.wb, 0, none⟩) ∧ slice x_4.r.a x_4.r.n x_4.r.cap = slice y.r.a y.r.n y.r.cap ∧ int i64 (↑x_4.r.n : Int) = int i64 (↑y.r.n : Int) ∧ int i64 ((↑x_4.j : Int) + (1 : Int)) = int i64 (↑y.j : Int) ∧ True) ∧
 Ent [(0, Atom.obj x.eb (Obj.map { toList := mEl 0 (eK x_4.st.fst) } (eK x_4.st.fst).length)), (1, Atom.obj x.gb (Obj.map { toList := mEl 0 (gK x_4.st.snd) } (gK x_4.st.snd).length)), (2, x_4.r.A), (3, F)] [(0, Atom.obj x.eb (Obj.map { toList := mEl 0 (eK y.st.fst) } (eK y.st.fst).length)), (1, Atom.obj x.gb (Obj.map { toList := mEl 0 (gK y.st.snd) } (gK y.st.snd).length)), (2, y.r.A), (3, F)] ∧ (kidsP x.c x.s.toNat).length - y.j < (kidsP x.c x.s.toNat).length - x_4.j))
 (Done rgnC x F (Ending.returned (tuple { toList := [] })) [(0, Atom.obj x.eb (Obj.map { toList := mEl 0 (eK x_4.st.fst) } (eK x_4.st.fst).length)), (1, Atom.obj x.gb (Obj.map { toList := mEl 0 (gK x_4.st.snd) } (gK x_4.st.snd).length)), (2, x_4.r.A), (3, F)])) := by
  obtain ⟨wb, b, c, eb, el, gb, gl, s⟩ := x
  obtain ⟨hfl, hs⟩ := hc
  replace hr : WkIn F wb b c eb gb := hr
  dsimp only at hfl hs ⊢
  have hs' := hs
  obtain ⟨i, rfl, hi⟩ := isS_spec hs
  obtain ⟨w, hw, e1, -, hn, hst⟩ := lat_w hr.lat
  obtain ⟨b0, o0, ea, k1, -⟩ := hst i hi
  refine ⟨hr.l, cht_ok, rfl, ⟨b, c, w⟩, rfl, rfl, trivial, fun j u hj => Look.sub (A := F) (sub_rest 2 (by simp) rfl) (hw j u hj), fun _ _ => ⟨ixq_ok 13 rfl rfl rfl rfl, ⟨b0, o0, w.vs.n, w.vs.cap, i⟩, by dsimp only; rw [ea], by dsimp only; rw [e1]; omega, kd c i, k1, br_intro (fun h => ⟨(), trivial, rfl, ?_⟩) (fun h => ⟨hr.l, kids_ok, rfl, ⟨b, c, i⟩, rfl, rfl, trivial, hr.lat.sub (sub_rest 2 (by simp) rfl), fun y hy => ?_⟩)⟩⟩
  · have hb : (kd c (i : Int).toNat == 2) = false := by
      rw [Int.toNat_natCast]
      cases hh : kd c i == 2 with
      | false => rfl
      | true => rw [beq_iff_eq] at hh; rw [hh] at h; cases h
    show Ent _ [(0, mpA eb (eK (regV c (el, gl) i).1)), (1, mpA gb (gK (regV c (el, gl) i).2)), (2, F)]
    unfold regV
    rw [hb]
    exact Ent.pick [0, 1, 2] rfl rfl
  · have hk : kd c i = 2 := by simpa using h
    obtain ⟨hy1, hy2⟩ := hy
    dsimp only at hy1 hy2
    rw [hs'] at hy1 hy2
    rw [cond_true] at hy1 hy2
    have hkl : (kidsP c (i : Int).toNat).length ≤ nS c := kidsOf_len c 4 (nS c) (i : Int).toNat
    have hfk : ∀ k ∈ kidsP c (i : Int).toNat, atB c k = true ∧ kd c k.toNat ≠ 2 := by rw [Int.toNat_natCast]; exact hfl i hi hk
    refine ⟨⟨⟨0, (el, gl), y⟩, ⟨hk, hy1, hy2, Nat.zero_le _, rfl⟩, ⟨rfl, rfl, rfl, rfl, trivial⟩, Ent.pick [0, 1, 2050, 2] rfl rfl⟩, ?_⟩
    clear hy1 hy2 y
    rintro ⟨j, st, y⟩ js ⟨-, hy1, hy2, hj, hstt⟩
    dsimp only at hy1 hy2 hj hstt ⊢
    refine br_decide (fun hlt => ?_) (fun hge => ⟨(), trivial, rfl, ?_⟩)
    · obtain ⟨b2, o2, e2⟩ := hy1.src.some (by omega)
      obtain ⟨k, hkj⟩ : ∃ k, (kidsP c (i : Int).toNat)[j]? = some k := ⟨_, List.getElem?_eq_getElem (by omega)⟩
      have e3 : o2 + (j : Int).toNat * 1 = o2 + j := by omega
      obtain ⟨hka, hk2⟩ := hfk k (List.mem_of_getElem? hkj)
      have hg := hy1.srcd
      rw [e2] at hg
      have hnx : ((kidsP c (i : Int).toNat).take (j + 1)).foldl (rgS c) (el, gl) = rgS c st k := by rw [List.take_add_one, hkj, List.foldl_append, ← hstt]; rfl
      refine ⟨ixq_ok 1 rfl rfl rfl rfl, ⟨b2, o2, y.n, y.cap, j⟩, by dsimp only; rw [e2], by dsimp only; omega, k, by dsimp only; rw [e3]; exact hg.look (ints_get hkj), fr_ok, rfl, ⟨wb, b, c, eb, st.1, k⟩, rfl, rfl, trivial, ⟨Look.sub (A := F) (sub_rest 3 (by simp) rfl) hr.l, Look.sub (A := F) (sub_rest 3 (by simp) rfl) hr.e, MapIn.sub (A := mpA eb (eK st.1)) (sub_rest 0 (by simp) rfl) MapIn.own, hr.lat.sub (sub_rest 3 (by simp) rfl)⟩, fun _ _ => br_intro (fun hf => ⟨dw_ok, rfl, ⟨wb, b, c, eb, st.1, gb, st.2, k⟩, rfl, rfl, ⟨hka, hk2⟩, hr.sub (sub_rest 3 (by simp) rfl), fun _ _ => ⟨⟨by omega, by omega⟩, ⟨j + 1, (dnEl st.1 st.2 k, add1 st.2 k), y⟩, ⟨hk, hy1, hy2, by dsimp only; omega, ?_⟩, ⟨rfl, rfl, rfl, rfl, trivial⟩, Ent.pick [0, 1, 2, 3] rfl rfl, by dsimp only; omega⟩⟩) (fun hf => ⟨⟨by omega, by omega⟩, ⟨j + 1, st, y⟩, ⟨hk, hy1, hy2, by dsimp only; omega, ?_⟩, ⟨rfl, rfl, rfl, rfl, trivial⟩, Ent.pick [0, 1, 2, 3] rfl rfl, by dsimp only; omega⟩)⟩
      · dsimp only at hf ⊢
        rw [hnx]
        unfold rgS
        rw [hf]; rfl
      · dsimp only at hf ⊢
        rw [hnx]
        unfold rgS
        rw [hf]; rfl
    · rw [List.take_of_length_le (by omega)] at hstt
      show Ent _ [(0, mpA eb (eK (regV c (el, gl) i).1)), (1, mpA gb (gK (regV c (el, gl) i).2)), (2, F)]
      unfold regV
      rw [show kd c (i : Int).toNat = 2 from by rw [Int.toNat_natCast]; exact hk, show ((2 : Int) == 2) = true from rfl, cond_true, ← hstt]
      exact Ent.pick [0, 1, 3] rfl rfl
set_option maxRecDepth 100000 in
theorem rgn_ok : FnOk Try.prog 114 rgnC :=
  fnOk (N := 35) (by kernel_rfl) Try.func114 rfl (by kernel_rfl) (fun _ => Nat.le_of_ble_eq_true rfl) rgn_H [] fun x F hc hr => Eq.mpr (by kernel_rfl) (rgn_vc x F hc hr)
def upS (c : ChD) (st : List Int × List Int) (p : Int) : List Int × List Int := bif decide (p > 0) then regV c (add1 st.1 p, st.2) p else st
def upV (c : ChD) (st : List Int × List Int) (l : List Int) : List Int × List Int := l.foldl (upS c) st
structure UpX where
  wb : Nat
  b : Nat
  c : ChD
  eb : Nat
  el : List Int
  gb : Nat
  gl : List Int
  s : Int
  top : Int
def upC : Con where
  X := UpX
  Y := Unit
  args x := [.pointer (some ⟨x.wb, 0, none⟩), .int .i64 x.s, .int .i64 x.top]
  pre x := [mpA x.eb (eK x.el), mpA x.gb (gK x.gl)]
  cond x := Flat x.c
  rdc x F := WkIn F x.wb x.b x.c x.eb x.gb
  rel _ _ := True
  val _ _ := .returned (.tuple #[])
  post x _ := [mpA x.eb (eK (upV x.c (x.el, x.gl) (abvV x.c x.s x.top)).1), mpA x.gb (gK (upV x.c (x.el, x.gl) (abvV x.c x.s x.top)).2)]
  rmono _ _ _ h hk := hk.sub h
structure UpP (x : UpX) (i : RnI) : Prop where
  row : IsRow 3 1 (ints (abvV x.c x.s x.top)) i.r
  n : i.r.n = (abvV x.c x.s x.top).length
  j : i.j ≤ (abvV x.c x.s x.top).length
  st : i.st = upV x.c (x.el, x.gl) ((abvV x.c x.s x.top).take i.j)
def upInv (x : UpX) (F : Atom) : Nat → Option Inv := fun
  | 0 => some { X := RnI, P := fun i => UpP x i, mu := fun i => (abvV x.c x.s x.top).length - i.j, lv := fun i => [(0, .pointer (some ⟨x.wb, 0, none⟩)), (14, .slice i.r.a i.r.n i.r.cap), (15, .int .i64 i.r.n), (16, .int .i64 i.j)], st := fun i => [mpA x.eb (eK i.st.1), mpA x.gb (gK i.st.2), i.r.A, F] }
  | _ => none
def upOv (x : UpX) (_F : Atom) : List (Nat × Nat × OH) := [(0, 3, .q [.ex 2 (.is (.pointer (some ⟨x.b, 0, none⟩)))]), (0, 6, .c aboveC [] [1060]), (2, 0, .qo (ixQ 1)), (2, 1, .q [.ex 2 (.int .i64)]), (4, 3, .q [.ex 3 (.is (.map (some x.eb)))]), (4, 6, .o seC [0] [0]), (5, 2, .c rgnC [0, 1] [0, 1])]
noncomputable def up_H (x : Con.X upC) (F : Atom) : Hints where
  op := hk ((upOv x F) ++ [])
  inv := upInv x F
  cut := (fun _ _ _ => none) x F
  ord := (fun _ => [])
open Go.Value (int slice string bool pointer agg tuple func) in
open Go.IntKind (i64) in
set_option maxRecDepth 100000 in
theorem up_vc (x : UpX) (F : Atom) (hc : Con.cond upC x) (hr : Con.rdc upC x F) :
  Look F ⟨x.wb, 0, none⟩ (pointer (some ⟨x.b, 0, none⟩)) ∧
 FnOk Try.prog 31 aboveC ∧
 true = true ∧
 ∃ (x_1 : AbX),
 [pointer (some ⟨x.b, 0, none⟩), int i64 x.s, int i64 x.top] = [pointer (some ⟨x_1.b, 0, none⟩), int i64 x_1.a, int i64 x_1.top] ∧
 ([] : List Atom) = [] ∧
 True ∧
 LatIn (Atom.pred (rest [(0, Atom.obj x.eb (Obj.map { toList := mEl 0 (eK x.el) } (eK x.el).length)), (1, Atom.obj x.gb (Obj.map { toList := mEl 0 (gK x.gl) } (gK x.gl).length)), (2, F)] [])) x_1.b x_1.c ∧
 ∀ (y : Row),
 IsRow 3 1 (ints (abvV x_1.c x_1.a x_1.top)) y ∧ y.n = (abvV x_1.c x_1.a x_1.top).length →
 (∃ (x_2 : RnI), UpP x x_2 ∧ (pointer (some ⟨x.wb, 0, none⟩) = pointer (some ⟨x.wb, 0, none⟩) ∧ slice y.a y.n y.cap = slice x_2.r.a x_2.r.n x_2.r.cap ∧ int i64 (↑y.n : Int) = int i64 (↑x_2.r.n : Int) ∧ int i64 (0 : Int) = int i64 (↑x_2.j : Int) ∧ True) ∧ Ent [(0, Atom.obj x.eb (Obj.map { toList := mEl 0 (eK x.el) } (eK x.el).length)), (1, Atom.obj x.gb (Obj.map { toList := mEl 0 (gK x.gl) } (gK x.gl).length)), (2, F), (1060, y.A)] [(0, Atom.obj x.eb (Obj.map { toList := mEl 0 (eK x_2.st.fst) } (eK x_2.st.fst).length)), (1, Atom.obj x.gb (Obj.map { toList := mEl 0 (gK x_2.st.snd) } (gK x_2.st.snd).length)), (2, x_2.r.A), (3, F)]) ∧
 ∀ (x_2 : RnI) (js : Nat → Value),
 UpP x x_2 →
 Br (decide ((↑x_2.j : Int) < (↑x_2.r.n : Int)))
 (QOpOk Try.prog (opIn Try.f91 2 0) (ixQ 1) ∧
 ∃ (x_3 : IxQX),
 [slice x_2.r.a x_2.r.n x_2.r.cap, int i64 (↑x_2.j : Int)] = [slice (some ⟨x_3.b, x_3.o, none⟩) x_3.len x_3.cap, int i64 x_3.n] ∧
 ((0 : Int) ≤ x_3.n ∧ x_3.n < (↑x_3.len : Int)) ∧
 ∃ (n : Int),
 Look x_2.r.A ⟨x_3.b, x_3.o + x_3.n.toNat * 1, none⟩ (int i64 n) ∧
 Br (decide (n > (0 : Int)))
 (Look F ⟨x.wb, 2, none⟩ (Value.map (some x.eb)) ∧
 OpOk Try.prog { dst := none, op := Op.mapUpdate 124 (Operand.tmp 25) (Operand.tmp 26) (Operand.tmp 27), type := 0, pos := "sets.go:161", after := { toList := [{ on := 3, ground := Ground.data }, { on := 4, ground := Ground.data }, { on := 5, ground := Ground.data }, { on := 0, ground := Ground.phase }, { on := 1, ground := Ground.phase }, { on := 2, ground := Ground.phase }, { on := 3, ground := Ground.phase }, { on := 4, ground := Ground.phase }, { on := 5, ground := Ground.phase }] }, guard := none } seC ∧
 true = true ∧
 ∃ (x_4 : GkX),
 [Value.map (some x.eb), int i64 n, int i64 n] = [Value.map (some x_4.b), int i64 x_4.k, int i64 x_4.k] ∧
 [Atom.obj x.eb (Obj.map { toList := mEl 0 (eK x_2.st.fst) } (eK x_2.st.fst).length)] = [Atom.obj x_4.b (Obj.map { toList := mEl 0 (eK x_4.l) } (eK x_4.l).length)] ∧
 True ∧
 True ∧
 ∀ (y : Unit),
 True →
 FnOk Try.prog 114 rgnC ∧
 true = true ∧
 ∃ (x_5 : WkX),
 [pointer (some ⟨x.wb, 0, none⟩), int i64 n] = [pointer (some ⟨x_5.wb, 0, none⟩), int i64 x_5.s] ∧
 [Atom.obj x_4.b (Obj.map { toList := mEl 0 (eK (add1 x_4.l x_4.k)) } (eK (add1 x_4.l x_4.k)).length), Atom.obj x.gb (Obj.map { toList := mEl 0 (gK x_2.st.snd) } (gK x_2.st.snd).length)] = [Atom.obj x_5.eb (Obj.map { toList := mEl 0 (eK x_5.el) } (eK x_5.el).length), Atom.obj x_5.gb (Obj.map { toList := mEl 0 (gK x_5.gl) } (gK x_5.gl).length)] ∧
 (Flat x_5.c ∧ isS x_5.c x_5.s = true) ∧
 WkIn (Atom.pred (rest [(0, Atom.obj x_4.b (Obj.map { toList := mEl 0 (eK (add1 x_4.l x_4.k)) } (eK (add1 x_4.l x_4.k)).length)), (1, Atom.obj x.gb (Obj.map { toList := mEl 0 (gK x_2.st.snd) } (gK x_2.st.snd).length)), (2, x_2.r.A), (3, F)] [0, 1])) x_5.wb x_5.b x_5.c x_5.eb x_5.gb ∧
 ∀ (y : Unit),
 True →
 ((-9223372036854775808 : Int) ≤ (↑x_2.j : Int) + (1 : Int) ∧ (↑x_2.j : Int) + (1 : Int) ≤ (9223372036854775807 : Int)) ∧
 ∃ (y : RnI),
 UpP x y ∧
 (pointer (some ⟨x.wb, 0, none⟩) = pointer (some ⟨x.wb, 0, none⟩) ∧ slice x_2.r.a x_2.r.n x_2.r.cap = slice y.r.a y.r.n y.r.cap ∧ int i64 (↑x_2.r.n : Int) = int i64 (↑y.r.n : Int) ∧ int i64 ((↑x_2.j : Int) + (1 : Int)) = int i64 (↑y.j : Int) ∧ True) ∧
 Ent [(0, Atom.obj x_5.eb (Obj.map { toList := mEl 0 (eK (regV x_5.c (x_5.el, x_5.gl) x_5.s).fst) } (eK (regV x_5.c (x_5.el, x_5.gl) x_5.s).fst).length)), (1, Atom.obj x_5.gb (Obj.map { toList := mEl 0 (gK (regV x_5.c (x_5.el, x_5.gl) x_5.s).snd) } (gK (regV x_5.c (x_5.el, x_5.gl) x_5.s).snd).length)), (2, x_2.r.A), (3, F)] [(0, Atom.obj x.eb (Obj.map { toList := mEl 0 (eK y.st.fst) } (eK y.st.fst).length)), (1, Atom.obj x.gb (Obj.map { toList := mEl 0 (gK y.st.snd) } (gK y.st.snd).length)), (2, y.r.A), (3, F)] ∧ (abvV x.c x.s x.top).length - y.j < (abvV x.c x.s x.top).length - x_2.j)
 (((-9223372036854775808 : Int) ≤ (↑x_2.j : Int) + (1 : Int) ∧ (↑x_2.j : Int) + (1 : Int) ≤ (9223372036854775807 : Int)) ∧
 ∃ (y : RnI),
 UpP x y ∧ (pointer (some ⟨x.wb, 0, none⟩) = pointer (some ⟨x.wb, 0, none⟩) ∧ slice x_2.r.a x_2.r.n x_2.r.cap = slice y.r.a y.r.n y.r.cap ∧ int i64 (↑x_2.r.n : Int) = int i64 (↑y.r.n : Int) ∧ int i64 ((↑x_2.j : Int) + (1 : Int)) = int i64 (↑y.j : Int) ∧ True) ∧ Ent [(0, Atom.obj x.eb (Obj.map { toList := mEl 0 (eK x_2.st.fst) } (eK x_2.st.fst).length)), (1, Atom.obj x.gb (Obj.map { toList := mEl 0 (gK x_2.st.snd) } (gK x_2.st.snd).length)), (2, x_2.r.A), (3, F)] [(0, Atom.obj x.eb (Obj.map { toList := mEl 0 (eK y.st.fst) } (eK y.st.fst).length)), (1, Atom.obj x.gb (Obj.map { toList := mEl 0 (gK y.st.snd) } (gK y.st.snd).length)), (2, y.r.A), (3, F)] ∧ (abvV x.c x.s x.top).length - y.j < (abvV x.c x.s x.top).length - x_2.j))
 (Done upC x F (Ending.returned (tuple { toList := [] })) [(0, Atom.obj x.eb (Obj.map { toList := mEl 0 (eK x_2.st.fst) } (eK x_2.st.fst).length)), (1, Atom.obj x.gb (Obj.map { toList := mEl 0 (gK x_2.st.snd) } (gK x_2.st.snd).length)), (2, x_2.r.A), (3, F)]) := by
  obtain ⟨wb, b, c, eb, el, gb, gl, s, top⟩ := x
  have hfl : Flat c := hc
  replace hr : WkIn F wb b c eb gb := hr
  dsimp only
  have hal := abvV_len hr.lat.pl s top
  refine ⟨hr.l, above_ok, rfl, ⟨b, c, s, top⟩, rfl, rfl, trivial, hr.lat.sub (sub_rest 2 (by simp) rfl), fun y hy => ⟨⟨⟨0, (el, gl), y⟩, ⟨hy.1, hy.2, Nat.zero_le _, rfl⟩, ⟨rfl, rfl, rfl, rfl, trivial⟩, Ent.pick [0, 1, 1060, 2] rfl rfl⟩, ?_⟩⟩
  clear hy y
  rintro ⟨j, st, y⟩ js ⟨hy1, hy2, hj, hstt⟩
  dsimp only at hy1 hy2 hj hstt ⊢
  refine br_decide (fun hlt => ?_) (fun hge => ⟨(), trivial, rfl, ?_⟩)
  · obtain ⟨b2, o2, e2⟩ := hy1.src.some (by omega)
    obtain ⟨k, hkj⟩ : ∃ k, (abvV c s top)[j]? = some k := ⟨_, List.getElem?_eq_getElem (by omega)⟩
    have e3 : o2 + (j : Int).toNat * 1 = o2 + j := by omega
    have hks := abvV_mem hr.lat.pl (List.mem_of_getElem? hkj)
    have hg := hy1.srcd
    rw [e2] at hg
    have hnx : upV c (el, gl) ((abvV c s top).take (j + 1)) = upS c st k := by
      unfold upV at hstt ⊢
      rw [List.take_add_one, hkj, List.foldl_append, ← hstt]; rfl
    refine ⟨ixq_ok 1 rfl rfl rfl rfl, ⟨b2, o2, y.n, y.cap, j⟩, by dsimp only; rw [e2], by dsimp only; omega, k, by dsimp only; rw [e3]; exact hg.look (ints_get hkj), br_intro (fun hf => ⟨hr.e, se_ok rfl Try.underlying124 Try.underlying3, rfl, ⟨eb, st.1, k⟩, rfl, rfl, trivial, trivial, fun _ _ => ⟨rgn_ok, rfl, ⟨wb, b, c, eb, add1 st.1 k, gb, st.2, k⟩, rfl, rfl, ⟨hfl, hks⟩, hr.sub (sub_rest 3 (by simp) rfl), fun _ _ => ⟨⟨by omega, by omega⟩, ⟨j + 1, regV c (add1 st.1 k, st.2) k, y⟩, ⟨hy1, hy2, by dsimp only; omega, ?_⟩, ⟨rfl, rfl, rfl, rfl, trivial⟩, Ent.pick [0, 1, 2, 3] rfl rfl, by dsimp only; omega⟩⟩⟩) (fun hf => ⟨⟨by omega, by omega⟩, ⟨j + 1, st, y⟩, ⟨hy1, hy2, by dsimp only; omega, ?_⟩, ⟨rfl, rfl, rfl, rfl, trivial⟩, Ent.pick [0, 1, 2, 3] rfl rfl, by dsimp only; omega⟩)⟩
    · dsimp only at hf ⊢
      rw [hnx]
      unfold upS
      rw [hf]; rfl
    · dsimp only at hf ⊢
      rw [hnx]
      unfold upS
      rw [hf]; rfl
  · rw [List.take_of_length_le (by omega)] at hstt
    show Ent _ [(0, mpA eb (eK (upV c (el, gl) (abvV c s top)).1)), (1, mpA gb (gK (upV c (el, gl) (abvV c s top)).2)), (2, F)]
    rw [← hstt]
    exact Ent.pick [0, 1, 3] rfl rfl
set_option maxRecDepth 100000 in
theorem up_ok : FnOk Try.prog 91 upC :=
  fnOk (N := 32) (by kernel_rfl) Try.func91 rfl (by kernel_rfl) (fun _ => Nat.le_of_ble_eq_true rfl) up_H [] fun x F hc hr => Eq.mpr (by kernel_rfl) (up_vc x F hc hr)
end Go.Proofs.Ytkmdgnbfojkcnaa
