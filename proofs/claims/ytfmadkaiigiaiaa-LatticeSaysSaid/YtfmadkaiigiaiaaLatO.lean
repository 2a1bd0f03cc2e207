/- The law's charts: small, large; the first question. -/
import Derived.Test.YtfmadkaiigiaiaaLatN
import Derived.Test.YtfmadkaiigiaiaaLatM
import Derived.Test.YtfmadkaiigiaiaaLatQO
set_option linter.all false
namespace Go.Proofs.Ytfmadkaiigiaiaa
open Go
set_option maxHeartbeats 1000000
def smallD : ChD := ⟨.empty, false, -1, [⟨.empty, 0, -1, [1, 4], 0, [], [], [], [], [], ld0⟩, ⟨.empty, 2, 0, [2, 3], -1, [], [], [], [], [], ld0⟩, ⟨.empty, 1, 1, [], -1, [], [], [], [], [], ld0⟩, ⟨.empty, 1, 1, [], -1, [], [], [], [], [], ld0⟩, ⟨.empty, 3, 0, [], -1, [], [], [], [], [], ld0⟩], [⟨0, [], .empty, [1], false, -1⟩], [], [], []⟩
theorem small_new : newB smallD = true := by kernel_rfl
def smallOv (_x : Unit) (_F : Atom) : List (Nat × Nat × OH) := [(0, 0, .n 1000), (1, 0, .n 2000), (1, 2, .n 2020), (1, 7, .n 2070), (2, 1, .n 3010), (2, 3, .n 3030), (2, 5, .w (at8 1000))]
noncomputable def small_H (x : Con.X (smallC smallD)) (F : Atom) : Hints where
  op := hk ((smallOv x F) ++ [])
  inv := (fun _ _ _ => none) x F
  cut := (fun _ _ _ => none) x F
  ord := (fun _ => [])
open Go.Value (int slice string bool pointer agg tuple func) in
open Go.IntKind (i64) in
set_option maxRecDepth 100000 in
theorem small_vc (x : PUnit) (F : Atom) (hc : Con.cond (smallC smallD) x) (hr : Con.rdc (smallC smallD) x F) :
  ∀ (b b_1 b_2 b_3 b_4 b_5 : Nat),
 Same ⟨b, 0, none⟩ b ∧
 Same ⟨b, 1, none⟩ b ∧
 Same ⟨b, 2, none⟩ b ∧
 Same ⟨b, 3, none⟩ b ∧
 Same ⟨b, 4, none⟩ b ∧
 Same ⟨b, 5, none⟩ b ∧
 Same ⟨b, 6, none⟩ b ∧
 Same ⟨b, 7, none⟩ b ∧
 Same ⟨b, 0, none⟩ b ∧
 Same ⟨b, 1, none⟩ b ∧
 Same ⟨b, 2, none⟩ b ∧
 Same ⟨b, 3, none⟩ b ∧
 Same ⟨b, 4, none⟩ b ∧
 Same ⟨b, 5, none⟩ b ∧
 Same ⟨b, 6, none⟩ b ∧
 Same ⟨b, 7, none⟩ b ∧
 Done (smallC smallD) x F (Ending.returned (agg { toList := [string (ByteArray.mk #[]), bool false, int i64 (-1 : Int), slice (some ⟨b_3, 0, none⟩) 5 5, slice (some ⟨b_5, 0, none⟩) 1 1, slice none 0 0, slice none 0 0, slice none 0 0] }))
 [(0, F), (1000, Atom.cells b [string (ByteArray.mk #[]), bool false, int i64 (-1 : Int), slice (some ⟨b_3, 0, none⟩) 5 5, slice (some ⟨b_5, 0, none⟩) 1 1, slice none 0 0, slice none 0 0, slice none 0 0] 28), (2000, Atom.cells b_1 [int i64 (1 : Int), int i64 (4 : Int)] 3), (2020, Atom.cells b_2 [int i64 (2 : Int), int i64 (3 : Int)] 3),
 (2070,
 Atom.cells b_3
 [string (ByteArray.mk #[]), int i64 (0 : Int), int i64 (-1 : Int), slice (some ⟨b_1, 0, none⟩) 2 2, int i64 (0 : Int), slice none 0 0, slice none 0 0, slice none 0 0, slice none 0 0, slice none 0 0, int i64 (0 : Int), slice none 0 0, string (ByteArray.mk #[]), string (ByteArray.mk #[]), int i64 (2 : Int), int i64 (0 : Int), slice (some ⟨b_2, 0, none⟩) 2 2, int i64 (-1 : Int), slice none 0 0, slice none 0 0, slice none 0 0, slice none 0 0, slice none 0 0, int i64 (0 : Int),
 slice none 0 0, string (ByteArray.mk #[]), string (ByteArray.mk #[]), int i64 (1 : Int), int i64 (1 : Int), slice none 0 0, int i64 (-1 : Int), slice none 0 0, slice none 0 0, slice none 0 0, slice none 0 0, slice none 0 0, int i64 (0 : Int), slice none 0 0, string (ByteArray.mk #[]), string (ByteArray.mk #[]), int i64 (1 : Int), int i64 (1 : Int), slice none 0 0, int i64 (-1 : Int), slice none 0 0, slice none 0 0, slice none 0 0, slice none 0 0, slice none 0 0, int i64 (0 : Int), slice none 0 0,
 string (ByteArray.mk #[]), string (ByteArray.mk #[]), int i64 (3 : Int), int i64 (0 : Int), slice none 0 0, int i64 (-1 : Int), slice none 0 0, slice none 0 0, slice none 0 0, slice none 0 0, slice none 0 0, int i64 (0 : Int), slice none 0 0, string (ByteArray.mk #[])]
 61),
 (3010, Atom.cells b_4 [int i64 (1 : Int)] 3), (3030, Atom.cells b_5 [int i64 (0 : Int), slice none 0 0, string (ByteArray.mk #[]), slice (some ⟨b_4, 0, none⟩) 1 1, bool false, int i64 (-1 : Int)] 74)] := by
  intro b b1 b2 b3 b4 b5
  iterate 16 refine ⟨⟨rfl, rfl⟩, ?_⟩
  have i0 : ∀ G, IntsIn G (.slice none 0 0) [] := fun G => SlIn.nil G IntIn 1 8
  have s0 : ∀ G, StrsIn G (.slice none 0 0) [] := fun G => SlIn.nil G StrIn 1 16
  have p0 : ∀ G, ParsIn G (.slice none 0 0) [] := fun G => SlIn.nil G ParIn 2 32
  let rs : List (List Value) := [[.string .empty, .int .i64 0, .int .i64 (-1), .slice (some ⟨b1, 0, none⟩) 2 2, .int .i64 0, .slice none 0 0, .slice none 0 0, .slice none 0 0, .slice none 0 0, .slice none 0 0, .int .i64 0, .slice none 0 0, .string .empty],
    [.string .empty, .int .i64 2, .int .i64 0, .slice (some ⟨b2, 0, none⟩) 2 2, .int .i64 (-1), .slice none 0 0, .slice none 0 0, .slice none 0 0, .slice none 0 0, .slice none 0 0, .int .i64 0, .slice none 0 0, .string .empty],
    [.string .empty, .int .i64 1, .int .i64 1, .slice none 0 0, .int .i64 (-1), .slice none 0 0, .slice none 0 0, .slice none 0 0, .slice none 0 0, .slice none 0 0, .int .i64 0, .slice none 0 0, .string .empty],
    [.string .empty, .int .i64 1, .int .i64 1, .slice none 0 0, .int .i64 (-1), .slice none 0 0, .slice none 0 0, .slice none 0 0, .slice none 0 0, .slice none 0 0, .int .i64 0, .slice none 0 0, .string .empty],
    [.string .empty, .int .i64 3, .int .i64 0, .slice none 0 0, .int .i64 (-1), .slice none 0 0, .slice none 0 0, .slice none 0 0, .slice none 0 0, .slice none 0 0, .int .i64 0, .slice none 0 0, .string .empty]]
  let rt : List (List Value) := [[.int .i64 0, .slice none 0 0, .string .empty, .slice (some ⟨b4, 0, none⟩) 1 1, .bool false, .int .i64 (-1)]]
  let G : Atom := bagA [.cells b1 [.int .i64 1, .int .i64 4] 3, .cells b2 [.int .i64 2, .int .i64 3] 3, .cells b3 rs.flatten 61, .cells b4 [.int .i64 1] 3, .cells b5 rt.flatten 74]
  have g1 : IntsIn G (.slice (some ⟨b1, 0, none⟩) 2 2) [1, 4] := lit_in (raw := [[.int .i64 1], [.int .i64 4]]) (by simp) (sub_bag 0 rfl) (Nat.le_of_ble_eq_true rfl) ⟨rfl, rfl, trivial⟩
  have g2 : IntsIn G (.slice (some ⟨b2, 0, none⟩) 2 2) [2, 3] := lit_in (raw := [[.int .i64 2], [.int .i64 3]]) (by simp) (sub_bag 1 rfl) (Nat.le_of_ble_eq_true rfl) ⟨rfl, rfl, trivial⟩
  have g4 : IntsIn G (.slice (some ⟨b4, 0, none⟩) 1 1) [1] := lit_in (raw := [[.int .i64 1]]) (by simp) (sub_bag 3 rfl) (Nat.le_of_ble_eq_true rfl) ⟨rfl, trivial⟩
  have hst : SlIn G (StIn G) 13 232 (.slice (some ⟨b3, 0, none⟩) 5 5) smallD.sts := by
    refine lit_in (raw := rs) (by simp [rs]) (sub_bag 2 rfl) (Nat.le_of_ble_eq_true rfl) ⟨?_, ?_, ?_, ?_, ?_, trivial⟩
    · exact ⟨_, _, _, _, _, _, _, rfl, g1, i0 G, i0 G, i0 G, i0 G, i0 G, p0 G⟩
    · exact ⟨_, _, _, _, _, _, _, rfl, g2, i0 G, i0 G, i0 G, i0 G, i0 G, p0 G⟩
    · exact ⟨_, _, _, _, _, _, _, rfl, i0 G, i0 G, i0 G, i0 G, i0 G, i0 G, p0 G⟩
    · exact ⟨_, _, _, _, _, _, _, rfl, i0 G, i0 G, i0 G, i0 G, i0 G, i0 G, p0 G⟩
    · exact ⟨_, _, _, _, _, _, _, rfl, i0 G, i0 G, i0 G, i0 G, i0 G, i0 G, p0 G⟩
  have htr : SlIn G (TrIn G) 6 88 (.slice (some ⟨b5, 0, none⟩) 1 1) smallD.trs :=
    lit_in (raw := rt) (by simp [rt]) (sub_bag 4 rfl) (Nat.le_of_ble_eq_true rfl) ⟨⟨_, _, rfl, s0 G, g4⟩, trivial⟩
  exact ⟨⟨G, ⟨⟨some ⟨b3, 0, none⟩, 5, 5⟩, ⟨some ⟨b5, 0, none⟩, 1, 1⟩, sl0, sl0, sl0⟩⟩, ⟨hst, htr, SlIn.nil _ _ _ _, SlIn.nil _ _ _ _, SlIn.nil _ _ _ _⟩, rfl, (Ent.bag (S' := ofL [F, G]) [0] [2000, 2020, 2070, 3010, 3030] rfl rfl).trans (Ent.pick [1, 0] rfl rfl)⟩
set_option maxRecDepth 100000 in
theorem small_ok : FnOk Try.prog 41 (smallC smallD) :=
  fnOk (N := 15) (by kernel_rfl) Try.func41 rfl (by kernel_rfl) (fun _ => Nat.le_of_ble_eq_true rfl) small_H (at8 1000) fun x F hc hr => Eq.mpr (by kernel_rfl) (small_vc x F hc hr)
def largeB (c : ChD) : Bool := (decide (c.sts.length > 200) || decide (c.trs.length > 400)) || (c.sts.any (fun s => decide (s.kids.length + s.trans.length > 400)) || c.trs.any fun t => decide (t.targets.length > 30))
def largeC : Con where
  X := ClnCX
  Y := Unit
  args x := [.agg #[.string x.c.name, .bool x.c.late, .int .i64 x.c.script, .slice x.w.vs.a x.w.vs.n x.w.vs.cap, .slice x.w.vt.a x.w.vt.n x.w.vt.cap, .slice x.w.vb.a x.w.vb.n x.w.vb.cap, .slice x.w.vd.a x.w.vd.n x.w.vd.cap, .slice x.w.vi.a x.w.vi.n x.w.vi.cap]]
  pre _ := []
  cond x := True
  rdc x F := ChIn F x.w.v x.c
  rel _ _ := True
  val x _ := .returned (.bool (largeB x.c))
  post _ _ := []
  rmono _ _ _ h hk := hk.sub h
def lgInv (x : ClnCX) (F : Atom) : Nat → Option Inv := fun
  | 0 => some { X := Nat × Nat, P := fun i => i.1 ≤ x.c.sts.length ∧ largeB x.c = ((x.c.sts.drop i.1).any (fun s => decide (s.kids.length + s.trans.length > 400)) || x.c.trs.any fun t => decide (t.targets.length > 30)), mu := fun i => x.c.sts.length - i.1, lv := fun i => [(1, .pointer (some ⟨i.2, 0, none⟩)), (17, .int .i64 x.w.vs.n), (18, .int .i64 i.1)], st := fun i => [F, .cells i.2 (chS x.c x.w) 28] }
  | 2 => some { X := Nat × Nat, P := fun i => i.1 ≤ x.c.trs.length ∧ largeB x.c = ((x.c.trs.drop i.1).any fun t => decide (t.targets.length > 30)), mu := fun i => x.c.trs.length - i.1, lv := fun i => [(1, .pointer (some ⟨i.2, 0, none⟩)), (40, .int .i64 x.w.vt.n), (41, .int .i64 i.1)], st := fun i => [F, .cells i.2 (chS x.c x.w) 28] }
  | _ => none
def lgOv (_x : ClnCX) (_F : Atom) : List (Nat × Nat × OH) := [(0, 0, .n 1000), (1, 1, .q [.atj 1000]), (1, 6, .q [.atj 1000]), (3, 1, .q [.atj 1000]), (6, 1, .q [.atj 1]), (6, 3, .qo (ixQ 13)), (6, 5, .q [.ex 0 .slice]), (6, 8, .q [.atj 1]), (6, 10, .qo (ixQ 13)), (6, 12, .q [.ex 0 .slice]), (9, 1, .q [.atj 1]), (12, 1, .q [.atj 1]), (12, 3, .qo (ixQ 6)), (12, 5, .q [.ex 0 .slice])]
noncomputable def large_H (x : Con.X largeC) (F : Atom) : Hints where
  op := hk ((lgOv x F) ++ [])
  inv := lgInv x F
  cut := (fun _ _ _ => none) x F
  ord := (fun _ => [])
open Go.Value (int slice string bool pointer agg tuple func) in
open Go.IntKind (i64) in
set_option maxRecDepth 100000 in
theorem large_vc (x : ClnCX) (F : Atom) (hc : Con.cond largeC x) (hr : Con.rdc largeC x F) :
  ∀ (b : Nat),
 Same ⟨b, 3, none⟩ b ∧
 Br (decide ((↑x.w.vs.n : Int) > (200 : Int))) (Done largeC x F (Ending.returned (bool true)) [(0, F), (1000, Atom.cells b [string x.c.name, bool x.c.late, int i64 x.c.script, slice x.w.vs.a x.w.vs.n x.w.vs.cap, slice x.w.vt.a x.w.vt.n x.w.vt.cap, slice x.w.vb.a x.w.vb.n x.w.vb.cap, slice x.w.vd.a x.w.vd.n x.w.vd.cap, slice x.w.vi.a x.w.vi.n x.w.vi.cap] 28)])
 (Same ⟨b, 4, none⟩ b ∧
 Br (decide ((↑x.w.vt.n : Int) > (400 : Int))) (Done largeC x F (Ending.returned (bool true)) [(0, F), (1000, Atom.cells b [string x.c.name, bool x.c.late, int i64 x.c.script, slice x.w.vs.a x.w.vs.n x.w.vs.cap, slice x.w.vt.a x.w.vt.n x.w.vt.cap, slice x.w.vb.a x.w.vb.n x.w.vb.cap, slice x.w.vd.a x.w.vd.n x.w.vd.cap, slice x.w.vi.a x.w.vi.n x.w.vi.cap] 28)])
 (Same ⟨b, 3, none⟩ b ∧
 (∃ (x_1 : Nat × Nat),
 (x_1.fst ≤ x.c.sts.length ∧ largeB x.c = (((List.drop x_1.fst x.c.sts).any fun (s : StD) => decide (s.kids.length + s.trans.length > 400)) || x.c.trs.any fun (t : TrD) => decide (t.targets.length > 30))) ∧
 (pointer (some ⟨b, 0, none⟩) = pointer (some ⟨x_1.snd, 0, none⟩) ∧ int i64 (↑x.w.vs.n : Int) = int i64 (↑x.w.vs.n : Int) ∧ int i64 (0 : Int) = int i64 (↑x_1.fst : Int) ∧ True) ∧
 Ent [(0, F), (1000, Atom.cells b [string x.c.name, bool x.c.late, int i64 x.c.script, slice x.w.vs.a x.w.vs.n x.w.vs.cap, slice x.w.vt.a x.w.vt.n x.w.vt.cap, slice x.w.vb.a x.w.vb.n x.w.vb.cap, slice x.w.vd.a x.w.vd.n x.w.vd.cap, slice x.w.vi.a x.w.vi.n x.w.vi.cap] 28)] [(0, F), (1, Atom.cells x_1.snd [string x.c.name, bool x.c.late, int i64 x.c.script, slice x.w.vs.a x.w.vs.n x.w.vs.cap, slice x.w.vt.a x.w.vt.n x.w.vt.cap, slice x.w.vb.a x.w.vb.n x.w.vb.cap, slice x.w.vd.a x.w.vd.n x.w.vd.cap, slice x.w.vi.a x.w.vi.n x.w.vi.cap] 28)]) ∧
 ∀ (x_1 : Nat × Nat) (js : Nat → Value),
 x_1.fst ≤ x.c.sts.length ∧ largeB x.c = (((List.drop x_1.fst x.c.sts).any fun (s : StD) => decide (s.kids.length + s.trans.length > 400)) || x.c.trs.any fun (t : TrD) => decide (t.targets.length > 30)) →
 Br (decide ((↑x_1.fst : Int) < (↑x.w.vs.n : Int)))
 (true = true ∧
 Same ⟨x_1.snd, 3, none⟩ x_1.snd ∧
 QOpOk Try.prog (opIn Try.f10 6 3) (ixQ 13) ∧
 ∃ (x_2 : IxQX),
 [slice x.w.vs.a x.w.vs.n x.w.vs.cap, int i64 (↑x_1.fst : Int)] = [slice (some ⟨x_2.b, x_2.o, none⟩) x_2.len x_2.cap, int i64 x_2.n] ∧
 ((0 : Int) ≤ x_2.n ∧ x_2.n < (↑x_2.len : Int)) ∧
 ∃ (a : Option Addr),
 ∃ (l : Nat),
 ∃ (c : Nat),
 Look F ⟨x_2.b, x_2.o + x_2.n.toNat * 13 + 3, none⟩ (slice a l c) ∧
 Same ⟨x_1.snd, 3, none⟩ x_1.snd ∧
 QOpOk Try.prog (opIn Try.f10 6 10) (ixQ 13) ∧
 ∃ (x_3 : IxQX),
 [slice x.w.vs.a x.w.vs.n x.w.vs.cap, int i64 (↑x_1.fst : Int)] = [slice (some ⟨x_3.b, x_3.o, none⟩) x_3.len x_3.cap, int i64 x_3.n] ∧
 ((0 : Int) ≤ x_3.n ∧ x_3.n < (↑x_3.len : Int)) ∧
 ∃ (a : Option Addr),
 ∃ (l_1 : Nat),
 ∃ (c : Nat),
 Look F ⟨x_3.b, x_3.o + x_3.n.toNat * 13 + 7, none⟩ (slice a l_1 c) ∧
 ((-9223372036854775808 : Int) ≤ (↑l : Int) + (↑l_1 : Int) ∧ (↑l : Int) + (↑l_1 : Int) ≤ (9223372036854775807 : Int)) ∧
 Br (decide ((↑l : Int) + (↑l_1 : Int) > (400 : Int))) (Done largeC x F (Ending.returned (bool true)) [(0, F), (1, Atom.cells x_1.snd [string x.c.name, bool x.c.late, int i64 x.c.script, slice x.w.vs.a x.w.vs.n x.w.vs.cap, slice x.w.vt.a x.w.vt.n x.w.vt.cap, slice x.w.vb.a x.w.vb.n x.w.vb.cap, slice x.w.vd.a x.w.vd.n x.w.vd.cap, slice x.w.vi.a x.w.vi.n x.w.vi.cap] 28)])
 (((-9223372036854775808 : Int) ≤ (↑x_1.fst : Int) + (1 : Int) ∧ (↑x_1.fst : Int) + (1 : Int) ≤ (9223372036854775807 : Int)) ∧
 ∃ (y : Nat × Nat),
 (y.fst ≤ x.c.sts.length ∧ largeB x.c = (((List.drop y.fst x.c.sts).any fun (s : StD) => decide (s.kids.length + s.trans.length > 400)) || x.c.trs.any fun (t : TrD) => decide (t.targets.length > 30))) ∧
 (pointer (some ⟨x_1.snd, 0, none⟩) = pointer (some ⟨y.snd, 0, none⟩) ∧ int i64 (↑x.w.vs.n : Int) = int i64 (↑x.w.vs.n : Int) ∧ int i64 ((↑x_1.fst : Int) + (1 : Int)) = int i64 (↑y.fst : Int) ∧ True) ∧
 Ent [(0, F), (1, Atom.cells x_1.snd [string x.c.name, bool x.c.late, int i64 x.c.script, slice x.w.vs.a x.w.vs.n x.w.vs.cap, slice x.w.vt.a x.w.vt.n x.w.vt.cap, slice x.w.vb.a x.w.vb.n x.w.vb.cap, slice x.w.vd.a x.w.vd.n x.w.vd.cap, slice x.w.vi.a x.w.vi.n x.w.vi.cap] 28)] [(0, F), (1, Atom.cells y.snd [string x.c.name, bool x.c.late, int i64 x.c.script, slice x.w.vs.a x.w.vs.n x.w.vs.cap, slice x.w.vt.a x.w.vt.n x.w.vt.cap, slice x.w.vb.a x.w.vb.n x.w.vb.cap, slice x.w.vd.a x.w.vd.n x.w.vd.cap, slice x.w.vi.a x.w.vi.n x.w.vi.cap] 28)] ∧ x.c.sts.length - y.fst < x.c.sts.length - x_1.fst))
 (Same ⟨x_1.snd, 4, none⟩ x_1.snd ∧
 (∃ (x_2 : Nat × Nat),
 (x_2.fst ≤ x.c.trs.length ∧ largeB x.c = (List.drop x_2.fst x.c.trs).any fun (t : TrD) => decide (t.targets.length > 30)) ∧
 (pointer (some ⟨x_1.snd, 0, none⟩) = pointer (some ⟨x_2.snd, 0, none⟩) ∧ int i64 (↑x.w.vt.n : Int) = int i64 (↑x.w.vt.n : Int) ∧ int i64 (0 : Int) = int i64 (↑x_2.fst : Int) ∧ True) ∧
 Ent [(0, F), (1, Atom.cells x_1.snd [string x.c.name, bool x.c.late, int i64 x.c.script, slice x.w.vs.a x.w.vs.n x.w.vs.cap, slice x.w.vt.a x.w.vt.n x.w.vt.cap, slice x.w.vb.a x.w.vb.n x.w.vb.cap, slice x.w.vd.a x.w.vd.n x.w.vd.cap, slice x.w.vi.a x.w.vi.n x.w.vi.cap] 28)] [(0, F), (1, Atom.cells x_2.snd [string x.c.name, bool x.c.late, int i64 x.c.script, slice x.w.vs.a x.w.vs.n x.w.vs.cap, slice x.w.vt.a x.w.vt.n x.w.vt.cap, slice x.w.vb.a x.w.vb.n x.w.vb.cap, slice x.w.vd.a x.w.vd.n x.w.vd.cap, slice x.w.vi.a x.w.vi.n x.w.vi.cap] 28)]) ∧
 ∀ (x_2 : Nat × Nat) (js : Nat → Value),
 (x_2.fst ≤ x.c.trs.length ∧ largeB x.c = (List.drop x_2.fst x.c.trs).any fun (t : TrD) => decide (t.targets.length > 30)) →
 Br (decide ((↑x_2.fst : Int) < (↑x.w.vt.n : Int)))
 (Same ⟨x_2.snd, 4, none⟩ x_2.snd ∧
 QOpOk Try.prog (opIn Try.f10 12 3) (ixQ 6) ∧
 ∃ (x_3 : IxQX),
 [slice x.w.vt.a x.w.vt.n x.w.vt.cap, int i64 (↑x_2.fst : Int)] = [slice (some ⟨x_3.b, x_3.o, none⟩) x_3.len x_3.cap, int i64 x_3.n] ∧
 ((0 : Int) ≤ x_3.n ∧ x_3.n < (↑x_3.len : Int)) ∧
 ∃ (a : Option Addr),
 ∃ (l : Nat),
 ∃ (c : Nat),
 Look F ⟨x_3.b, x_3.o + x_3.n.toNat * 6 + 3, none⟩ (slice a l c) ∧
 Br (decide ((↑l : Int) > (30 : Int))) (Done largeC x F (Ending.returned (bool true)) [(0, F), (1, Atom.cells x_2.snd [string x.c.name, bool x.c.late, int i64 x.c.script, slice x.w.vs.a x.w.vs.n x.w.vs.cap, slice x.w.vt.a x.w.vt.n x.w.vt.cap, slice x.w.vb.a x.w.vb.n x.w.vb.cap, slice x.w.vd.a x.w.vd.n x.w.vd.cap, slice x.w.vi.a x.w.vi.n x.w.vi.cap] 28)])
 (((-9223372036854775808 : Int) ≤ (↑x_2.fst : Int) + (1 : Int) ∧ (↑x_2.fst : Int) + (1 : Int) ≤ (9223372036854775807 : Int)) ∧
 ∃ (y : Nat × Nat),
 (y.fst ≤ x.c.trs.length ∧ largeB x.c = (List.drop y.fst x.c.trs).any fun (t : TrD) => decide (t.targets.length > 30)) ∧
 (pointer (some ⟨x_2.snd, 0, none⟩) = pointer (some ⟨y.snd, 0, none⟩) ∧ int i64 (↑x.w.vt.n : Int) = int i64 (↑x.w.vt.n : Int) ∧ int i64 ((↑x_2.fst : Int) + (1 : Int)) = int i64 (↑y.fst : Int) ∧ True) ∧
 Ent [(0, F), (1, Atom.cells x_2.snd [string x.c.name, bool x.c.late, int i64 x.c.script, slice x.w.vs.a x.w.vs.n x.w.vs.cap, slice x.w.vt.a x.w.vt.n x.w.vt.cap, slice x.w.vb.a x.w.vb.n x.w.vb.cap, slice x.w.vd.a x.w.vd.n x.w.vd.cap, slice x.w.vi.a x.w.vi.n x.w.vi.cap] 28)] [(0, F), (1, Atom.cells y.snd [string x.c.name, bool x.c.late, int i64 x.c.script, slice x.w.vs.a x.w.vs.n x.w.vs.cap, slice x.w.vt.a x.w.vt.n x.w.vt.cap, slice x.w.vb.a x.w.vb.n x.w.vb.cap, slice x.w.vd.a x.w.vd.n x.w.vd.cap, slice x.w.vi.a x.w.vi.n x.w.vi.cap] 28)] ∧ x.c.trs.length - y.fst < x.c.trs.length - x_2.fst))
 (Done largeC x F (Ending.returned (bool false)) [(0, F), (1, Atom.cells x_2.snd [string x.c.name, bool x.c.late, int i64 x.c.script, slice x.w.vs.a x.w.vs.n x.w.vs.cap, slice x.w.vt.a x.w.vt.n x.w.vt.cap, slice x.w.vb.a x.w.vb.n x.w.vb.cap, slice x.w.vd.a x.w.vd.n x.w.vd.cap, slice x.w.vi.a x.w.vi.n x.w.vi.cap] 28)])))) := by
  obtain ⟨c, ⟨⟨a, n, cap⟩, ⟨ta, tn, tc⟩, wb, wd, wi⟩⟩ := x
  replace hr : ChIn F _ c := hr
  have h1 := hr.sts
  have h2 := hr.trs
  dsimp only [ChS.v] at h1 h2
  obtain ⟨hn, hncap, -⟩ := h1.num
  obtain ⟨htn, -, -⟩ := h2.num
  intro b
  refine ⟨⟨rfl, rfl⟩, br_decide (fun q1 => ⟨(), trivial, retB ?_, Ent.pick [0] rfl rfl⟩) (fun q1 => ⟨⟨rfl, rfl⟩, br_decide (fun q2 => ⟨(), trivial, retB ?_, Ent.pick [0] rfl rfl⟩) (fun q2 => ⟨⟨rfl, rfl⟩, ⟨⟨0, b⟩, ⟨Nat.zero_le _, ?_⟩, ⟨rfl, rfl, rfl, trivial⟩, Ent.pick [0, 1000] rfl rfl⟩, ?_⟩)⟩)⟩
  · dsimp only at q1
    have : c.sts.length > 200 := by omega
    simp [largeB, this]
  · dsimp only at q2
    have : c.trs.length > 400 := by omega
    simp [largeB, this]
  · dsimp only at q1 q2
    have h3 : ¬ c.sts.length > 200 := by omega
    have h4 : ¬ c.trs.length > 400 := by omega
    simp [largeB, h3, h4]
  dsimp only at q1 q2
  rintro ⟨k, b1⟩ js ⟨p1, p2⟩
  dsimp only at p1 p2 ⊢
  refine br_decide (fun hlt => ?_) (fun hge => ?_)
  · obtain ⟨s, hs⟩ : ∃ s, c.sts[k]? = some s := ⟨_, List.getElem?_eq_getElem (by omega)⟩
    obtain ⟨b0, o0, r, rfl, ⟨vk, ve, vx, vt, vd, vi, vp, rfl, g1, -, -, g4, -⟩, hL⟩ := h1.at' hs
    obtain ⟨ka, kc, rfl, -, -, hk5, -⟩ := SlIn.open g1
    obtain ⟨va, vc, rfl, -, -, hv5, -⟩ := SlIn.open g4
    rw [drop_g hs, List.any_cons] at p2
    refine ⟨rfl, ⟨rfl, rfl⟩, ixq_ok 13 rfl rfl rfl rfl, ⟨b0, o0, n, cap, k⟩, rfl, by dsimp only; omega, _, _, _, hL 3 _ rfl, ⟨rfl, rfl⟩, ixq_ok 13 rfl rfl rfl rfl, ⟨b0, o0, n, cap, k⟩, rfl, by dsimp only; omega, _, _, _, hL 7 _ rfl, by omega, br_decide (fun q => ⟨(), trivial, retB ?_, Ent.pick [0] rfl rfl⟩) (fun q => ⟨by omega, ⟨k + 1, b1⟩, ⟨by dsimp only; omega, ?_⟩, ⟨rfl, rfl, rfl, trivial⟩, Ent.pick [0, 1] rfl rfl, by dsimp only; omega⟩)⟩
    · dsimp only
      rw [p2, decide_eq_true (by omega)]; rfl
    · dsimp only
      rw [p2, decide_eq_false (by omega)]; rfl
  · rw [List.drop_eq_nil_of_le (by omega), List.any_nil, Bool.false_or] at p2
    refine ⟨⟨rfl, rfl⟩, ⟨⟨0, b1⟩, ⟨Nat.zero_le _, p2⟩, ⟨rfl, rfl, rfl, trivial⟩, Ent.pick [0, 1] rfl rfl⟩, ?_⟩
    clear p1 p2 hge
    rintro ⟨k, b1⟩ js ⟨p1, p2⟩
    dsimp only at p1 p2 ⊢
    refine br_decide (fun hlt => ?_) (fun hge => ⟨(), trivial, retB ?_, Ent.pick [0] rfl rfl⟩)
    · obtain ⟨s, hs⟩ : ∃ s, c.trs[k]? = some s := ⟨_, List.getElem?_eq_getElem (by omega)⟩
      obtain ⟨b0, o0, r, rfl, ⟨ve, vt, rfl, g1, g4⟩, hL⟩ := h2.at' hs
      obtain ⟨va, vc, rfl, -, -, hv5, -⟩ := SlIn.open g4
      rw [drop_g hs, List.any_cons] at p2
      refine ⟨⟨rfl, rfl⟩, ixq_ok 6 rfl rfl rfl rfl, ⟨b0, o0, tn, tc, k⟩, rfl, by dsimp only; omega, _, _, _, hL 3 _ rfl, br_decide (fun q => ⟨(), trivial, retB ?_, Ent.pick [0] rfl rfl⟩) (fun q => ⟨by omega, ⟨k + 1, b1⟩, ⟨by dsimp only; omega, ?_⟩, ⟨rfl, rfl, rfl, trivial⟩, Ent.pick [0, 1] rfl rfl, by dsimp only; omega⟩)⟩
      · dsimp only
        rw [p2, decide_eq_true (by omega)]; rfl
      · dsimp only
        rw [p2, decide_eq_false (by omega)]; rfl
    · rw [List.drop_eq_nil_of_le (by omega)] at p2
      exact p2.symm
set_option maxRecDepth 100000 in
theorem large_ok : FnOk Try.prog 10 largeC :=
  fnOk (N := 53) (by kernel_rfl) Try.func10 rfl (by kernel_rfl) (fun _ => Nat.le_of_ble_eq_true rfl) large_H [] fun x F hc hr => Eq.mpr (by kernel_rfl) (large_vc x F hc hr)
def awOv (_x : Unit) (_F : Atom) : List (Nat × Nat × OH) := [(1, 0, .c (smallC smallD) [] [2000]), (1, 1, .c newYC [] [2010]), (2, 1, .c newNC [] []), (3, 12, .c insideC [] []), (3, 16, .c insideC [] []), (3, 21, .n 4210), (3, 22, .c legC [] []), (3, 26, .n 4260), (3, 27, .c legC [] []), (3, 32, .n 4320), (3, 33, .c legC [] []), (3, 37, .n 4370), (3, 38, .c finVC [] []), (3, 42, .n 4420), (3, 43, .c comC [] []), (3, 48, .c atC [] []), (3, 52, .c coC [] []), (3, 56, .c aboveC [] [4560]), (3, 62, .c kidsC [] [4620]), (3, 68, .c chtC [] [])]
noncomputable def aw_H (x : Con.X awC) (F : Atom) : Hints where
  op := hk ((awOv x F) ++ [])
  inv := (fun _ _ _ => none) x F
  cut := (fun _ _ _ => none) x F
  ord := (fun _ => [])
open Go.Value (int slice string bool pointer agg tuple func) in
open Go.IntKind (i64) in
set_option maxRecDepth 100000 in
theorem aw_vc (x : PUnit) (F : Atom) (hc : Con.cond awC x) (hr : Con.rdc awC x F) :
  FnOk Try.prog 41 (smallC smallD) ∧
 true = true ∧
 ∃ (x_1 : Unit),
 ([] : List Value) = [] ∧
 ([] : List Atom) = [] ∧
 True ∧
 True ∧
 ∀ (y : ClnCY),
 ChIn y.G y.w.v smallD →
 FnOk Try.prog 11 newYC ∧
 true = true ∧
 ∃ (x_2 : ClnCX),
 [agg { toList := [string smallD.name, bool smallD.late, int i64 smallD.script, slice y.w.vs.a y.w.vs.n y.w.vs.cap, slice y.w.vt.a y.w.vt.n y.w.vt.cap, slice y.w.vb.a y.w.vb.n y.w.vb.cap, slice y.w.vd.a y.w.vd.n y.w.vd.cap, slice y.w.vi.a y.w.vi.n y.w.vi.cap] }] = [agg { toList := [string x_2.c.name, bool x_2.c.late, int i64 x_2.c.script, slice x_2.w.vs.a x_2.w.vs.n x_2.w.vs.cap, slice x_2.w.vt.a x_2.w.vt.n x_2.w.vt.cap, slice x_2.w.vb.a x_2.w.vb.n x_2.w.vb.cap, slice x_2.w.vd.a x_2.w.vd.n x_2.w.vd.cap, slice x_2.w.vi.a x_2.w.vi.n x_2.w.vi.cap] }] ∧
 ([] : List Atom) = [] ∧
 newB x_2.c = true ∧
 ChIn (Atom.pred (rest [(0, F), (2000, y.G)] [])) x_2.w.v x_2.c ∧
 ∀ (y_1 : NewY),
 LatIn y_1.G y_1.b x_2.c →
 FnOk Try.prog 11 newNC ∧
 true = true ∧
 ∃ (x_3 : ClnCX),
 [agg { toList := [string (ByteArray.mk #[]), bool false, int i64 (0 : Int), slice none 0 0, slice none 0 0, slice none 0 0, slice none 0 0, slice none 0 0] }] = [agg { toList := [string x_3.c.name, bool x_3.c.late, int i64 x_3.c.script, slice x_3.w.vs.a x_3.w.vs.n x_3.w.vs.cap, slice x_3.w.vt.a x_3.w.vt.n x_3.w.vt.cap, slice x_3.w.vb.a x_3.w.vb.n x_3.w.vb.cap, slice x_3.w.vd.a x_3.w.vd.n x_3.w.vd.cap, slice x_3.w.vi.a x_3.w.vi.n x_3.w.vi.cap] }] ∧
 ([] : List Atom) = [] ∧
 newB x_3.c = false ∧
 ChIn (Atom.pred (rest [(0, F), (2000, y.G), (2010, y_1.G)] [])) x_3.w.v x_3.c ∧
 ∀ (y_2 : Unit),
 True →
 FnOk Try.prog 15 insideC ∧
 true = true ∧
 ∃ (x_4 : L2X),
 [pointer (some ⟨y_1.b, 0, none⟩), int i64 (3 : Int), int i64 (1 : Int)] = [pointer (some ⟨x_4.b, 0, none⟩), int i64 x_4.a, int i64 x_4.d] ∧
 ([] : List Atom) = [] ∧
 True ∧
 LatIn (Atom.pred (rest [(0, F), (2000, y.G), (2010, y_1.G)] [])) x_4.b x_4.c ∧
 ∀ (y_3 : Unit),
 True →
 Br (inB x_4.c x_4.a x_4.d)
 (FnOk Try.prog 15 insideC ∧
 true = true ∧
 ∃ (x_5 : L2X),
 [pointer (some ⟨y_1.b, 0, none⟩), int i64 (1 : Int), int i64 (3 : Int)] = [pointer (some ⟨x_5.b, 0, none⟩), int i64 x_5.a, int i64 x_5.d] ∧
 ([] : List Atom) = [] ∧
 True ∧
 LatIn (Atom.pred (rest [(0, F), (2000, y.G), (2010, y_1.G)] [])) x_5.b x_5.c ∧
 ∀ (y_4 : Unit),
 True →
 Br (!inB x_5.c x_5.a x_5.d)
 (∀ (b : Nat),
 FnOk Try.prog 23 legC ∧
 true = true ∧
 ∃ (x_6 : LegX),
 [pointer (some ⟨y_1.b, 0, none⟩), slice (some ⟨b, 0, none⟩) 3 3] = [pointer (some ⟨x_6.b, 0, none⟩), slice x_6.a x_6.n x_6.cap] ∧
 ([] : List Atom) = [] ∧
 (IsSrc 1 (ints x_6.cf) x_6.a x_6.n ∧ x_6.n * 8 ≤ 140737488351232) ∧
 (LatIn (Atom.pred (rest [(0, F), (2000, y.G), (2010, y_1.G), (4210, Atom.cells b [int i64 (1 : Int), int i64 (2 : Int), int i64 (3 : Int)] 3)] [])) x_6.b x_6.c ∧ Srcd (Atom.pred (rest [(0, F), (2000, y.G), (2010, y_1.G), (4210, Atom.cells b [int i64 (1 : Int), int i64 (2 : Int), int i64 (3 : Int)] 3)] [])) x_6.a (ints x_6.cf)) ∧
 ∀ (y_5 : Unit),
 True →
 Br (legB x_6.c x_6.cf)
 (∀ (b_1 : Nat),
 FnOk Try.prog 23 legC ∧
 true = true ∧
 ∃ (x_7 : LegX),
 [pointer (some ⟨y_1.b, 0, none⟩), slice (some ⟨b_1, 0, none⟩) 2 2] = [pointer (some ⟨x_7.b, 0, none⟩), slice x_7.a x_7.n x_7.cap] ∧
 ([] : List Atom) = [] ∧
 (IsSrc 1 (ints x_7.cf) x_7.a x_7.n ∧ x_7.n * 8 ≤ 140737488351232) ∧
 (LatIn (Atom.pred (rest [(0, F), (2000, y.G), (2010, y_1.G), (4210, Atom.cells b [int i64 (1 : Int), int i64 (2 : Int), int i64 (3 : Int)] 3), (4260, Atom.cells b_1 [int i64 (1 : Int), int i64 (2 : Int)] 3)] [])) x_7.b x_7.c ∧ Srcd (Atom.pred (rest [(0, F), (2000, y.G), (2010, y_1.G), (4210, Atom.cells b [int i64 (1 : Int), int i64 (2 : Int), int i64 (3 : Int)] 3), (4260, Atom.cells b_1 [int i64 (1 : Int), int i64 (2 : Int)] 3)] [])) x_7.a (ints x_7.cf)) ∧
 ∀ (y_6 : Unit),
 True →
 Br (!legB x_7.c x_7.cf)
 (∀ (b_2 : Nat),
 FnOk Try.prog 23 legC ∧
 true = true ∧
 ∃ (x_8 : LegX),
 [pointer (some ⟨y_1.b, 0, none⟩), slice (some ⟨b_2, 0, none⟩) 1 1] = [pointer (some ⟨x_8.b, 0, none⟩), slice x_8.a x_8.n x_8.cap] ∧
 ([] : List Atom) = [] ∧
 (IsSrc 1 (ints x_8.cf) x_8.a x_8.n ∧ x_8.n * 8 ≤ 140737488351232) ∧
 (LatIn (Atom.pred (rest [(0, F), (2000, y.G), (2010, y_1.G), (4210, Atom.cells b [int i64 (1 : Int), int i64 (2 : Int), int i64 (3 : Int)] 3), (4260, Atom.cells b_1 [int i64 (1 : Int), int i64 (2 : Int)] 3), (4320, Atom.cells b_2 [int i64 (4 : Int)] 3)] [])) x_8.b x_8.c ∧
 Srcd (Atom.pred (rest [(0, F), (2000, y.G), (2010, y_1.G), (4210, Atom.cells b [int i64 (1 : Int), int i64 (2 : Int), int i64 (3 : Int)] 3), (4260, Atom.cells b_1 [int i64 (1 : Int), int i64 (2 : Int)] 3), (4320, Atom.cells b_2 [int i64 (4 : Int)] 3)] [])) x_8.a (ints x_8.cf)) ∧
 ∀ (y_7 : Unit),
 True →
 Br (legB x_8.c x_8.cf)
 (∀ (b_3 : Nat),
 FnOk Try.prog 25 finVC ∧
 true = true ∧
 ∃ (x_9 : FinX),
 [pointer (some ⟨y_1.b, 0, none⟩), slice (some ⟨b_3, 0, none⟩) 1 1, int i64 (0 : Int)] = [pointer (some ⟨x_9.b, 0, none⟩), slice x_9.ca x_9.cn x_9.cc, int i64 x_9.a] ∧
 ([] : List Atom) = [] ∧
 (IsSrc 1 (ints x_9.cf) x_9.ca x_9.cn ∧ x_9.cn * 8 ≤ 140737488351232) ∧
 (LatIn (Atom.pred (rest [(0, F), (2000, y.G), (2010, y_1.G), (4210, Atom.cells b [int i64 (1 : Int), int i64 (2 : Int), int i64 (3 : Int)] 3), (4260, Atom.cells b_1 [int i64 (1 : Int), int i64 (2 : Int)] 3), (4320, Atom.cells b_2 [int i64 (4 : Int)] 3), (4370, Atom.cells b_3 [int i64 (4 : Int)] 3)] [])) x_9.b x_9.c ∧
 Srcd (Atom.pred (rest [(0, F), (2000, y.G), (2010, y_1.G), (4210, Atom.cells b [int i64 (1 : Int), int i64 (2 : Int), int i64 (3 : Int)] 3), (4260, Atom.cells b_1 [int i64 (1 : Int), int i64 (2 : Int)] 3), (4320, Atom.cells b_2 [int i64 (4 : Int)] 3), (4370, Atom.cells b_3 [int i64 (4 : Int)] 3)] [])) x_9.ca (ints x_9.cf)) ∧
 ∀ (y_8 : Unit),
 True →
 Br (finB x_9.c x_9.cf (nS x_9.c) x_9.a)
 (∀ (b_4 : Nat),
 FnOk Try.prog 21 comC ∧
 true = true ∧
 ∃ (x_10 : CmX),
 [pointer (some ⟨y_1.b, 0, none⟩), slice (some ⟨b_4, 0, none⟩) 2 2] = [pointer (some ⟨x_10.b, 0, none⟩), slice x_10.a x_10.n x_10.cap] ∧
 ([] : List Atom) = [] ∧
 (IsSrc 1 (ints x_10.xs) x_10.a x_10.n ∧ x_10.n * 8 ≤ 140737488351232) ∧
 (LatIn (Atom.pred (rest [(0, F), (2000, y.G), (2010, y_1.G), (4210, Atom.cells b [int i64 (1 : Int), int i64 (2 : Int), int i64 (3 : Int)] 3), (4260, Atom.cells b_1 [int i64 (1 : Int), int i64 (2 : Int)] 3), (4320, Atom.cells b_2 [int i64 (4 : Int)] 3), (4370, Atom.cells b_3 [int i64 (4 : Int)] 3), (4420, Atom.cells b_4 [int i64 (2 : Int), int i64 (3 : Int)] 3)] [])) x_10.b x_10.c ∧
 Srcd (Atom.pred (rest [(0, F), (2000, y.G), (2010, y_1.G), (4210, Atom.cells b [int i64 (1 : Int), int i64 (2 : Int), int i64 (3 : Int)] 3), (4260, Atom.cells b_1 [int i64 (1 : Int), int i64 (2 : Int)] 3), (4320, Atom.cells b_2 [int i64 (4 : Int)] 3), (4370, Atom.cells b_3 [int i64 (4 : Int)] 3), (4420, Atom.cells b_4 [int i64 (2 : Int), int i64 (3 : Int)] 3)] [])) x_10.a (ints x_10.xs)) ∧
 ∀ (y_9 : Unit),
 True →
 Br (comV x_10.c x_10.xs == (0 : Int))
 (FnOk Try.prog 17 atC ∧
 true = true ∧
 ∃ (x_11 : LqX),
 [pointer (some ⟨y_1.b, 0, none⟩), int i64 (2 : Int)] = [pointer (some ⟨x_11.b, 0, none⟩), int i64 x_11.a] ∧
 ([] : List Atom) = [] ∧
 True ∧
 LatIn (Atom.pred (rest [(0, F), (2000, y.G), (2010, y_1.G), (4210, Atom.cells b [int i64 (1 : Int), int i64 (2 : Int), int i64 (3 : Int)] 3), (4260, Atom.cells b_1 [int i64 (1 : Int), int i64 (2 : Int)] 3), (4320, Atom.cells b_2 [int i64 (4 : Int)] 3), (4370, Atom.cells b_3 [int i64 (4 : Int)] 3), (4420, Atom.cells b_4 [int i64 (2 : Int), int i64 (3 : Int)] 3)] [])) x_11.b x_11.c ∧
 ∀ (y_10 : Unit),
 True →
 Br (atB x_11.c x_11.a)
 (FnOk Try.prog 19 coC ∧
 true = true ∧
 ∃ (x_12 : LqX),
 [pointer (some ⟨y_1.b, 0, none⟩), int i64 (0 : Int)] = [pointer (some ⟨x_12.b, 0, none⟩), int i64 x_12.a] ∧
 ([] : List Atom) = [] ∧
 True ∧
 LatIn (Atom.pred (rest [(0, F), (2000, y.G), (2010, y_1.G), (4210, Atom.cells b [int i64 (1 : Int), int i64 (2 : Int), int i64 (3 : Int)] 3), (4260, Atom.cells b_1 [int i64 (1 : Int), int i64 (2 : Int)] 3), (4320, Atom.cells b_2 [int i64 (4 : Int)] 3), (4370, Atom.cells b_3 [int i64 (4 : Int)] 3), (4420, Atom.cells b_4 [int i64 (2 : Int), int i64 (3 : Int)] 3)] [])) x_12.b x_12.c ∧
 ∀ (y_11 : Unit),
 True →
 Br (coB x_12.c x_12.a)
 (FnOk Try.prog 28 aboveC ∧
 true = true ∧
 ∃ (x_13 : AbX),
 [pointer (some ⟨y_1.b, 0, none⟩), int i64 (3 : Int), int i64 (-1 : Int)] = [pointer (some ⟨x_13.b, 0, none⟩), int i64 x_13.a, int i64 x_13.top] ∧
 ([] : List Atom) = [] ∧
 True ∧
 LatIn (Atom.pred (rest [(0, F), (2000, y.G), (2010, y_1.G), (4210, Atom.cells b [int i64 (1 : Int), int i64 (2 : Int), int i64 (3 : Int)] 3), (4260, Atom.cells b_1 [int i64 (1 : Int), int i64 (2 : Int)] 3), (4320, Atom.cells b_2 [int i64 (4 : Int)] 3), (4370, Atom.cells b_3 [int i64 (4 : Int)] 3), (4420, Atom.cells b_4 [int i64 (2 : Int), int i64 (3 : Int)] 3)] [])) x_13.b x_13.c ∧
 ∀ (y_12 : Row),
 IsRow 3 1 (ints (abvV x_13.c x_13.a x_13.top)) y_12 ∧ y_12.n = (abvV x_13.c x_13.a x_13.top).length →
 Br ((↑y_12.n : Int) == (2 : Int))
 (FnOk Try.prog 30 kidsC ∧
 true = true ∧
 ∃ (x_14 : LqX),
 [pointer (some ⟨y_1.b, 0, none⟩), int i64 (1 : Int)] = [pointer (some ⟨x_14.b, 0, none⟩), int i64 x_14.a] ∧
 ([] : List Atom) = [] ∧
 True ∧
 LatIn (Atom.pred (rest [(0, F), (2000, y.G), (2010, y_1.G), (4210, Atom.cells b [int i64 (1 : Int), int i64 (2 : Int), int i64 (3 : Int)] 3), (4260, Atom.cells b_1 [int i64 (1 : Int), int i64 (2 : Int)] 3), (4320, Atom.cells b_2 [int i64 (4 : Int)] 3), (4370, Atom.cells b_3 [int i64 (4 : Int)] 3), (4420, Atom.cells b_4 [int i64 (2 : Int), int i64 (3 : Int)] 3), (4560, y_12.A)] [])) x_14.b x_14.c ∧
 ∀ (y_13 : Row),
 IsRow 3 1 (ints (bif isS x_14.c x_14.a then kidsP x_14.c x_14.a.toNat else [])) y_13 ∧ y_13.n = (bif isS x_14.c x_14.a then kidsP x_14.c x_14.a.toNat else []).length →
 Br ((↑y_13.n : Int) == (2 : Int))
 (FnOk Try.prog 14 chtC ∧
 true = true ∧
 ∃ (x_15 : ChtX),
 [pointer (some ⟨y_1.b, 0, none⟩)] = [pointer (some ⟨x_15.b, 0, none⟩)] ∧
 ([] : List Atom) = [] ∧
 True ∧
 (∀ (j : Nat) (u : Value),
 (chS x_15.c x_15.w)[j]? = some u →
 Look (Atom.pred (rest [(0, F), (2000, y.G), (2010, y_1.G), (4210, Atom.cells b [int i64 (1 : Int), int i64 (2 : Int), int i64 (3 : Int)] 3), (4260, Atom.cells b_1 [int i64 (1 : Int), int i64 (2 : Int)] 3), (4320, Atom.cells b_2 [int i64 (4 : Int)] 3), (4370, Atom.cells b_3 [int i64 (4 : Int)] 3), (4420, Atom.cells b_4 [int i64 (2 : Int), int i64 (3 : Int)] 3), (4560, y_12.A), (4620, y_13.A)] [])) ⟨x_15.b, j, none⟩ u) ∧
 ∀ (y_14 : Unit),
 True →
 Done awC x F (Ending.returned (bool ((↑x_15.w.vs.n : Int) == (5 : Int))))
 [(0, F), (2000, y.G), (2010, y_1.G), (4210, Atom.cells b [int i64 (1 : Int), int i64 (2 : Int), int i64 (3 : Int)] 3), (4260, Atom.cells b_1 [int i64 (1 : Int), int i64 (2 : Int)] 3), (4320, Atom.cells b_2 [int i64 (4 : Int)] 3), (4370, Atom.cells b_3 [int i64 (4 : Int)] 3), (4420, Atom.cells b_4 [int i64 (2 : Int), int i64 (3 : Int)] 3), (4560, y_12.A), (4620, y_13.A)])
 (Done awC x F (Ending.returned (bool false)) [(0, F), (2000, y.G), (2010, y_1.G), (4210, Atom.cells b [int i64 (1 : Int), int i64 (2 : Int), int i64 (3 : Int)] 3), (4260, Atom.cells b_1 [int i64 (1 : Int), int i64 (2 : Int)] 3), (4320, Atom.cells b_2 [int i64 (4 : Int)] 3), (4370, Atom.cells b_3 [int i64 (4 : Int)] 3), (4420, Atom.cells b_4 [int i64 (2 : Int), int i64 (3 : Int)] 3), (4560, y_12.A), (4620, y_13.A)]))
 (Done awC x F (Ending.returned (bool false)) [(0, F), (2000, y.G), (2010, y_1.G), (4210, Atom.cells b [int i64 (1 : Int), int i64 (2 : Int), int i64 (3 : Int)] 3), (4260, Atom.cells b_1 [int i64 (1 : Int), int i64 (2 : Int)] 3), (4320, Atom.cells b_2 [int i64 (4 : Int)] 3), (4370, Atom.cells b_3 [int i64 (4 : Int)] 3), (4420, Atom.cells b_4 [int i64 (2 : Int), int i64 (3 : Int)] 3), (4560, y_12.A)]))
 (Done awC x F (Ending.returned (bool false)) [(0, F), (2000, y.G), (2010, y_1.G), (4210, Atom.cells b [int i64 (1 : Int), int i64 (2 : Int), int i64 (3 : Int)] 3), (4260, Atom.cells b_1 [int i64 (1 : Int), int i64 (2 : Int)] 3), (4320, Atom.cells b_2 [int i64 (4 : Int)] 3), (4370, Atom.cells b_3 [int i64 (4 : Int)] 3), (4420, Atom.cells b_4 [int i64 (2 : Int), int i64 (3 : Int)] 3)]))
 (Done awC x F (Ending.returned (bool false)) [(0, F), (2000, y.G), (2010, y_1.G), (4210, Atom.cells b [int i64 (1 : Int), int i64 (2 : Int), int i64 (3 : Int)] 3), (4260, Atom.cells b_1 [int i64 (1 : Int), int i64 (2 : Int)] 3), (4320, Atom.cells b_2 [int i64 (4 : Int)] 3), (4370, Atom.cells b_3 [int i64 (4 : Int)] 3), (4420, Atom.cells b_4 [int i64 (2 : Int), int i64 (3 : Int)] 3)]))
 (Done awC x F (Ending.returned (bool false)) [(0, F), (2000, y.G), (2010, y_1.G), (4210, Atom.cells b [int i64 (1 : Int), int i64 (2 : Int), int i64 (3 : Int)] 3), (4260, Atom.cells b_1 [int i64 (1 : Int), int i64 (2 : Int)] 3), (4320, Atom.cells b_2 [int i64 (4 : Int)] 3), (4370, Atom.cells b_3 [int i64 (4 : Int)] 3), (4420, Atom.cells b_4 [int i64 (2 : Int), int i64 (3 : Int)] 3)]))
 (Done awC x F (Ending.returned (bool false)) [(0, F), (2000, y.G), (2010, y_1.G), (4210, Atom.cells b [int i64 (1 : Int), int i64 (2 : Int), int i64 (3 : Int)] 3), (4260, Atom.cells b_1 [int i64 (1 : Int), int i64 (2 : Int)] 3), (4320, Atom.cells b_2 [int i64 (4 : Int)] 3), (4370, Atom.cells b_3 [int i64 (4 : Int)] 3)]))
 (Done awC x F (Ending.returned (bool false)) [(0, F), (2000, y.G), (2010, y_1.G), (4210, Atom.cells b [int i64 (1 : Int), int i64 (2 : Int), int i64 (3 : Int)] 3), (4260, Atom.cells b_1 [int i64 (1 : Int), int i64 (2 : Int)] 3), (4320, Atom.cells b_2 [int i64 (4 : Int)] 3)]))
 (Done awC x F (Ending.returned (bool false)) [(0, F), (2000, y.G), (2010, y_1.G), (4210, Atom.cells b [int i64 (1 : Int), int i64 (2 : Int), int i64 (3 : Int)] 3), (4260, Atom.cells b_1 [int i64 (1 : Int), int i64 (2 : Int)] 3)]))
 (Done awC x F (Ending.returned (bool false)) [(0, F), (2000, y.G), (2010, y_1.G), (4210, Atom.cells b [int i64 (1 : Int), int i64 (2 : Int), int i64 (3 : Int)] 3)]))
 (Done awC x F (Ending.returned (bool false)) [(0, F), (2000, y.G), (2010, y_1.G)]))
 (Done awC x F (Ending.returned (bool false)) [(0, F), (2000, y.G), (2010, y_1.G)]) := by
  refine ⟨small_ok, rfl, (), rfl, rfl, trivial, trivial, fun y hy => ⟨newY_ok, rfl, ⟨smallD, y.w⟩, rfl, rfl, small_new, hy.sub (sub_rest 2000 (by simp) rfl), fun z hz => ⟨newN_ok, rfl, ⟨⟨.empty, false, 0, [], [], [], [], []⟩, ⟨sl0, sl0, sl0, sl0, sl0⟩⟩, rfl, rfl, by kernel_rfl, ⟨SlIn.nil _ _ _ _, SlIn.nil _ _ _ _, SlIn.nil _ _ _ _, SlIn.nil _ _ _ _, SlIn.nil _ _ _ _⟩, fun _ _ => ?_⟩⟩⟩
  replace hz : LatIn z.G z.b smallD := hz
  refine ⟨inside_ok, rfl, ⟨z.b, smallD, 3, 1⟩, rfl, rfl, trivial, hz.sub (sub_rest 2010 (by simp) rfl), fun _ _ => br_t (by kernel_rfl) ?_⟩
  refine ⟨inside_ok, rfl, ⟨z.b, smallD, 1, 3⟩, rfl, rfl, trivial, hz.sub (sub_rest 2010 (by simp) rfl), fun _ _ => br_t (by kernel_rfl) ?_⟩
  intro b1
  refine ⟨leg_ok, rfl, ⟨z.b, smallD, some ⟨b1, 0, none⟩, 3, 3, [1, 2, 3]⟩, rfl, rfl, ⟨.blk b1 0 3 rfl, Nat.le_of_ble_eq_true rfl⟩, ⟨hz.sub (sub_rest 2010 (by simp) rfl), lit_srcd 4210 (by simp) rfl⟩, fun _ _ => br_t (by kernel_rfl) ?_⟩
  intro b2
  refine ⟨leg_ok, rfl, ⟨z.b, smallD, some ⟨b2, 0, none⟩, 2, 2, [1, 2]⟩, rfl, rfl, ⟨.blk b2 0 2 rfl, Nat.le_of_ble_eq_true rfl⟩, ⟨hz.sub (sub_rest 2010 (by simp) rfl), lit_srcd 4260 (by simp) rfl⟩, fun _ _ => br_t (by kernel_rfl) ?_⟩
  intro b3
  refine ⟨leg_ok, rfl, ⟨z.b, smallD, some ⟨b3, 0, none⟩, 1, 1, [4]⟩, rfl, rfl, ⟨.blk b3 0 1 rfl, Nat.le_of_ble_eq_true rfl⟩, ⟨hz.sub (sub_rest 2010 (by simp) rfl), lit_srcd 4320 (by simp) rfl⟩, fun _ _ => br_t (by kernel_rfl) ?_⟩
  intro b4
  refine ⟨finv_ok, rfl, ⟨z.b, smallD, some ⟨b4, 0, none⟩, 1, 1, [4], 0⟩, rfl, rfl, ⟨.blk b4 0 1 rfl, Nat.le_of_ble_eq_true rfl⟩, ⟨hz.sub (sub_rest 2010 (by simp) rfl), lit_srcd 4370 (by simp) rfl⟩, fun _ _ => br_t (by kernel_rfl) ?_⟩
  intro b5
  refine ⟨com_ok, rfl, ⟨z.b, smallD, some ⟨b5, 0, none⟩, 2, 2, [2, 3]⟩, rfl, rfl, ⟨.blk b5 0 2 rfl, Nat.le_of_ble_eq_true rfl⟩, ⟨hz.sub (sub_rest 2010 (by simp) rfl), lit_srcd 4420 (by simp) rfl⟩, fun _ _ => br_t (by kernel_rfl) ?_⟩
  refine ⟨at_ok, rfl, ⟨z.b, smallD, 2⟩, rfl, rfl, trivial, hz.sub (sub_rest 2010 (by simp) rfl), fun _ _ => br_t (by kernel_rfl) ?_⟩
  refine ⟨co_ok, rfl, ⟨z.b, smallD, 0⟩, rfl, rfl, trivial, hz.sub (sub_rest 2010 (by simp) rfl), fun _ _ => br_t (by kernel_rfl) ?_⟩
  refine ⟨above_ok, rfl, ⟨z.b, smallD, 3, -1⟩, rfl, rfl, trivial, hz.sub (sub_rest 2010 (by simp) rfl), fun r1 hr1 => br_t (by rw [hr1.2]; kernel_rfl) ?_⟩
  refine ⟨kids_ok, rfl, ⟨z.b, smallD, 1⟩, rfl, rfl, trivial, hz.sub (sub_rest 2010 (by simp) rfl), fun r2 hr2 => br_t (by rw [hr2.2]; kernel_rfl) ?_⟩
  obtain ⟨w, hw1, hw2⟩ := hz.chs
  refine ⟨cht_ok, rfl, ⟨z.b, smallD, w⟩, rfl, rfl, trivial, fun j u hj => (by refine Look.rest (j := 2010) (by simp) ?_; exact hw1 j u hj), fun _ _ => ⟨(), trivial, retB ?_, Ent.pick [0] rfl rfl⟩⟩
  have := (SlIn.num hw2.sts).1
  dsimp only
  rw [this]; rfl
set_option maxRecDepth 100000 in
theorem aw_ok : FnOk Try.prog 9 awC :=
  fnOk (N := 88) (by kernel_rfl) Try.func9 rfl (by kernel_rfl) (fun _ => Nat.le_of_ble_eq_true rfl) aw_H [] fun x F hc hr => Eq.mpr (by kernel_rfl) (aw_vc x F hc hr)
end Go.Proofs.Ytfmadkaiigiaiaa
