/- The law LatticeSays. -/
import Derived.Test.YtfmadkaiigiaiaaLatSB
import Derived.Test.YtfmadkaiigiaiaaLatX
import Derived.Test.YtfmadkaiigiaiaaLatZR
import Derived.Test.YtfmadkaiigiaiaaLatQ
set_option linter.all false
namespace Go.Proofs.Ytfmadkaiigiaiaa
open Go
set_option maxHeartbeats 1000000
structure SaysX where
  c : ChD
  w : ChS
  A : Int
  B : Int
  l : Sl
  f : Sl
  xs : List Int
  cf : List Int
def saysC (Q : ChD → Prop) : Con where
  X := SaysX
  Y := Unit
  args x := [.agg #[.string x.c.name, .bool x.c.late, .int .i64 x.c.script, .slice x.w.vs.a x.w.vs.n x.w.vs.cap, .slice x.w.vt.a x.w.vt.n x.w.vt.cap, .slice x.w.vb.a x.w.vb.n x.w.vb.cap, .slice x.w.vd.a x.w.vd.n x.w.vd.cap, .slice x.w.vi.a x.w.vi.n x.w.vi.cap], .agg #[.int .i64 x.A, .int .i64 x.B, .slice x.l.a x.l.n x.l.cap, .slice x.f.a x.f.n x.f.cap]]
  pre _ := []
  cond x := Q x.c ∧ (IsSrc 1 (ints x.xs) x.l.a x.l.n ∧ x.l.n * 8 ≤ 140737488351232) ∧ IsSrc 1 (ints x.cf) x.f.a x.f.n ∧ x.f.n * 8 ≤ 140737488351232
  rdc x F := ChIn F x.w.v x.c ∧ Srcd F x.l.a (ints x.xs) ∧ Srcd F x.f.a (ints x.cf)
  rel _ _ := True
  val _ _ := .returned (.bool true)
  post _ _ := []
  rmono _ _ _ h hk := ⟨hk.1.sub h, hk.2.1.sub h, hk.2.2.sub h⟩
theorem says_split {f : FuncId} (h1 : FnOk Try.prog f (saysC fun c => newB c = true)) (h2 : FnOk Try.prog f (saysC fun c => newB c = false)) : FnOk Try.prog f (saysC fun _ => True) := by
  refine ⟨fun x F I w hc hr hs => ?_⟩
  cases h : newB x.c with
  | true => exact h1.h x F I w ⟨h, hc.2⟩ hr hs
  | false => exact h2.h x F I w ⟨h, hc.2⟩ hr hs
theorem kidV_len (c : ChD) (a : Int) : (kidV c a).length ≤ nS c := by
  unfold kidV
  cases isS c a with
  | true => rw [cond_true]; exact kidsOf_len c _ (nS c) a.toNat
  | false => exact Nat.zero_le _
def lsOv (_x : SaysX) (_F : Atom) : List (Nat × Nat × OH) := [(0, 0, .n 1000), (0, 1, .n 1010), (1, 0, .c awC [] []), (3, 0, .q (at8 1000)), (3, 1, .c largeC [] []), (3, 4, .q [.atj 1010]), (3, 10, .q [.atj 1010]), (5, 0, .q (at8 1000)), (5, 1, .c newYC [] [6010]), (6, 0, .q (at8 1000)), (6, 1, .c rRtC [] []), (8, 8, .c chtC [] []), (8, 9, .q (at8 1000)), (8, 10, .c smC [] []), (10, 2, .q [.atj 1010]), (10, 4, .q [.atj 1010]), (10, 5, .c insideC [] []), (10, 6, .q (at8 1000)), (10, 8, .q [.atj 1010]), (10, 10, .q [.atj 1010]), (10, 11, .c rInC [] []), (10, 16, .q [.atj 1010]), (10, 17, .c atC [] []), (10, 18, .q (at8 1000)), (10, 20, .q [.atj 1010]), (10, 21, .c rAtC [] []), (10, 27, .q [.atj 1010]), (10, 28, .c coC [] []), (10, 29, .q (at8 1000)), (10, 31, .q [.atj 1010]), (10, 32, .c rCoC [] []), (10, 38, .q [.atj 1010]), (10, 39, .c comC [] []), (10, 40, .q (at8 1000)), (10, 42, .q [.atj 1010]), (10, 43, .c rCmC [] []), (12, 2, .q [.atj 1010]), (12, 3, .c legC [] []), (12, 4, .q (at8 1000)), (12, 6, .q [.atj 1010]), (12, 7, .c rLgC [] []), (12, 12, .q [.atj 1010]), (12, 14, .q [.atj 1010]), (12, 15, .c finVC [] []), (12, 16, .q (at8 1000)), (12, 18, .q [.atj 1010]), (12, 20, .q [.atj 1010]), (12, 21, .c rFinC [] []), (14, 2, .q [.atj 1010]), (14, 4, .q [.atj 1010]), (14, 5, .c aboveC [] [15050]), (14, 6, .q (at8 1000)), (14, 8, .q [.atj 1010]), (14, 10, .q [.atj 1010]), (14, 11, .c rAbvC [] [15110]), (14, 12, .c siC [] []), (14, 16, .q [.atj 1010]), (14, 17, .c kidsC [] [15170]), (14, 18, .q (at8 1000)), (14, 20, .q [.atj 1010]), (14, 21, .c rKidsC [] [15210]), (14, 22, .c siC [] [])]
def lsOvN (_x : SaysX) (_F : Atom) : List (Nat × Nat × OH) := [(0, 0, .n 1000), (0, 1, .n 1010), (1, 0, .c awC [] []), (3, 0, .q (at8 1000)), (3, 1, .c largeC [] []), (3, 4, .q [.atj 1010]), (3, 10, .q [.atj 1010]), (5, 0, .q (at8 1000)), (5, 1, .c newNC [] []), (6, 0, .q (at8 1000)), (6, 1, .c rRtC [] [])]
noncomputable def lsN_H (x : Con.X (saysC fun c => newB c = false)) (F : Atom) : Hints where
  op := hk ((lsOvN x F) ++ [])
  inv := (fun _ _ _ => none) x F
  cut := (fun _ _ _ => none) x F
  ord := (fun _ => [])
open Go.Value (int slice string bool pointer agg tuple func) in
open Go.IntKind (i64) in
set_option maxRecDepth 100000 in
theorem lsN_vc (x : SaysX) (F : Atom) (hc : Con.cond (saysC fun c => newB c = false) x) (hr : Con.rdc (saysC fun c => newB c = false) x F) :
  ∀ (b b_1 : Nat),
 FnOk Try.prog 9 awC ∧
 true = true ∧
 ∃ (x_1 : Unit),
 ([] : List Value) = [] ∧
 ([] : List Atom) = [] ∧
 True ∧
 True ∧
 ∀ (y : Unit),
 True →
 Same ⟨b, 0, none⟩ b ∧
 Same ⟨b, 1, none⟩ b ∧
 Same ⟨b, 2, none⟩ b ∧
 Same ⟨b, 3, none⟩ b ∧
 Same ⟨b, 4, none⟩ b ∧
 Same ⟨b, 5, none⟩ b ∧
 Same ⟨b, 6, none⟩ b ∧
 Same ⟨b, 7, none⟩ b ∧
 FnOk Try.prog 10 largeC ∧
 true = true ∧
 ∃ (x_2 : ClnCX),
 [agg { toList := (chS x.c x.w) }] = [agg { toList := (chS x_2.c x_2.w) }] ∧
 ([] : List Atom) = [] ∧
 True ∧
 ChIn (Atom.pred (rest [(0, F), (1000, Atom.cells b (chS x.c x.w) 28), (1010, Atom.cells b_1 [int i64 x.A, int i64 x.B, slice x.l.a x.l.n x.l.cap, slice x.f.a x.f.n x.f.cap] 31)] [])) x_2.w.v x_2.c ∧
 ∀ (y : Unit),
 True →
 Br (largeB x_2.c) (Done (saysC fun (c : ChD) => newB c = false) x F (Ending.returned (bool true)) [(0, F), (1000, Atom.cells b (chS x.c x.w) 28), (1010, Atom.cells b_1 [int i64 x.A, int i64 x.B, slice x.l.a x.l.n x.l.cap, slice x.f.a x.f.n x.f.cap] 31)])
 (Same ⟨b_1, 2, none⟩ b_1 ∧
 Br (decide ((↑x.l.n : Int) > (50 : Int))) (Done (saysC fun (c : ChD) => newB c = false) x F (Ending.returned (bool true)) [(0, F), (1000, Atom.cells b (chS x.c x.w) 28), (1010, Atom.cells b_1 [int i64 x.A, int i64 x.B, slice x.l.a x.l.n x.l.cap, slice x.f.a x.f.n x.f.cap] 31)])
 (Same ⟨b_1, 3, none⟩ b_1 ∧
 Br (decide ((↑x.f.n : Int) > (200 : Int))) (Done (saysC fun (c : ChD) => newB c = false) x F (Ending.returned (bool true)) [(0, F), (1000, Atom.cells b (chS x.c x.w) 28), (1010, Atom.cells b_1 [int i64 x.A, int i64 x.B, slice x.l.a x.l.n x.l.cap, slice x.f.a x.f.n x.f.cap] 31)])
 (Same ⟨b, 0, none⟩ b ∧
 Same ⟨b, 1, none⟩ b ∧
 Same ⟨b, 2, none⟩ b ∧
 Same ⟨b, 3, none⟩ b ∧
 Same ⟨b, 4, none⟩ b ∧
 Same ⟨b, 5, none⟩ b ∧
 Same ⟨b, 6, none⟩ b ∧
 Same ⟨b, 7, none⟩ b ∧
 FnOk Try.prog 11 newNC ∧
 true = true ∧
 ∃ (x_3 : ClnCX),
 [agg { toList := (chS x.c x.w) }] = [agg { toList := (chS x_3.c x_3.w) }] ∧
 ([] : List Atom) = [] ∧
 newB x_3.c = false ∧
 ChIn (Atom.pred (rest [(0, F), (1000, Atom.cells b (chS x.c x.w) 28), (1010, Atom.cells b_1 [int i64 x.A, int i64 x.B, slice x.l.a x.l.n x.l.cap, slice x.f.a x.f.n x.f.cap] 31)] [])) x_3.w.v x_3.c ∧
 ∀ (y : Unit),
 True →
 Same ⟨b, 0, none⟩ b ∧
 Same ⟨b, 1, none⟩ b ∧
 Same ⟨b, 2, none⟩ b ∧
 Same ⟨b, 3, none⟩ b ∧
 Same ⟨b, 4, none⟩ b ∧
 Same ⟨b, 5, none⟩ b ∧
 Same ⟨b, 6, none⟩ b ∧
 Same ⟨b, 7, none⟩ b ∧
 FnOk Try.prog 12 rRtC ∧
 true = true ∧
 ∃ (x_4 : R1X),
 [agg { toList := (chS x.c x.w) }] = [agg { toList := (chS x_4.c x_4.w) }] ∧
 ([] : List Atom) = [] ∧
 True ∧
 ChIn (Atom.pred (rest [(0, F), (1000, Atom.cells b (chS x.c x.w) 28), (1010, Atom.cells b_1 [int i64 x.A, int i64 x.B, slice x.l.a x.l.n x.l.cap, slice x.f.a x.f.n x.f.cap] 31)] [])) x_4.w.v x_4.c ∧
 ∀ (y : Unit),
 True →
 Br (!newB x_4.c) (Done (saysC fun (c : ChD) => newB c = false) x F (Ending.returned (bool ((140 : Int) == (140 : Int)))) [(0, F), (1000, Atom.cells b (chS x.c x.w) 28), (1010, Atom.cells b_1 [int i64 x.A, int i64 x.B, slice x.l.a x.l.n x.l.cap, slice x.f.a x.f.n x.f.cap] 31)])
 (true = true ∧ Done (saysC fun (c : ChD) => newB c = false) x F (Ending.returned (bool false)) [(0, F), (1000, Atom.cells b (chS x.c x.w) 28), (1010, Atom.cells b_1 [int i64 x.A, int i64 x.B, slice x.l.a x.l.n x.l.cap, slice x.f.a x.f.n x.f.cap] 31)])))) := by
  obtain ⟨c, w, A, B, ⟨la, ln, lc⟩, ⟨fa, fn, fc⟩, xs, cf⟩ := x
  obtain ⟨hnew, hc1, hc2⟩ := hc
  obtain ⟨hr, hx, hy⟩ := hr
  intro b1 b2
  refine ⟨aw_ok, rfl, (), rfl, rfl, trivial, trivial, fun _ _ => ?_⟩
  repeat (first | refine ⟨⟨rfl, rfl⟩, ?_⟩ | refine ⟨rfl, ?_⟩)
  refine ⟨large_ok, rfl, ⟨c, w⟩, rfl, rfl, trivial, ChIn.sub (sub_rest 0 (by simp) rfl) hr, fun _ _ => br_intro (fun _ => ⟨(), trivial, rfl, Ent.pick [0] rfl rfl⟩) (fun _ => ⟨⟨rfl, rfl⟩, br_decide (fun _ => ⟨(), trivial, rfl, Ent.pick [0] rfl rfl⟩) (fun _ => ⟨⟨rfl, rfl⟩, br_decide (fun _ => ⟨(), trivial, rfl, Ent.pick [0] rfl rfl⟩) (fun _ => ?_)⟩)⟩)⟩
  repeat (first | refine ⟨⟨rfl, rfl⟩, ?_⟩ | refine ⟨rfl, ?_⟩)
  refine ⟨newN_ok, rfl, ⟨c, w⟩, rfl, rfl, hnew, ChIn.sub (sub_rest 0 (by simp) rfl) hr, fun _ _ => ?_⟩
  repeat (first | refine ⟨⟨rfl, rfl⟩, ?_⟩ | refine ⟨rfl, ?_⟩)
  exact ⟨rrt_ok, rfl, ⟨c, w⟩, rfl, rfl, trivial, ChIn.sub (sub_rest 0 (by simp) rfl) hr, fun _ _ => br_t (by dsimp only; rw [hnew]; rfl) ⟨(), trivial, rfl, Ent.pick [0] rfl rfl⟩⟩
set_option maxRecDepth 100000 in
theorem lsN_ok : FnOk Try.prog 3 (saysC fun c => newB c = false) :=
  fnOk (N := 144) (by kernel_rfl) Try.func3 rfl (by kernel_rfl) (fun _ => Nat.le_of_ble_eq_true rfl) lsN_H [] fun x F hc hr => Eq.mpr (by kernel_rfl) (lsN_vc x F hc hr)
noncomputable def lsY_H (x : Con.X (saysC fun c => newB c = true)) (F : Atom) : Hints where
  op := hk ((lsOv x F) ++ [])
  inv := (fun _ _ _ => none) x F
  cut := (fun _ _ _ => none) x F
  ord := (fun _ => [])
open Go.Value (int slice string bool pointer agg tuple func) in
open Go.IntKind (i64) in
set_option maxRecDepth 100000 in
theorem lsY_vc (x : SaysX) (F : Atom) (hc : Con.cond (saysC fun c => newB c = true) x) (hr : Con.rdc (saysC fun c => newB c = true) x F) :
  ∀ (b b_1 : Nat),
 FnOk Try.prog 9 awC ∧
 true = true ∧
 ∃ (x_1 : Unit),
 ([] : List Value) = [] ∧
 ([] : List Atom) = [] ∧
 True ∧
 True ∧
 ∀ (y : Unit),
 True →
 Same ⟨b, 0, none⟩ b ∧
 Same ⟨b, 1, none⟩ b ∧
 Same ⟨b, 2, none⟩ b ∧
 Same ⟨b, 3, none⟩ b ∧
 Same ⟨b, 4, none⟩ b ∧
 Same ⟨b, 5, none⟩ b ∧
 Same ⟨b, 6, none⟩ b ∧
 Same ⟨b, 7, none⟩ b ∧
 FnOk Try.prog 10 largeC ∧
 true = true ∧
 ∃ (x_2 : ClnCX),
 [agg { toList := (chS x.c x.w) }] = [agg { toList := (chS x_2.c x_2.w) }] ∧
 ([] : List Atom) = [] ∧
 True ∧
 ChIn (Atom.pred (rest [(0, F), (1000, Atom.cells b (chS x.c x.w) 28), (1010, Atom.cells b_1 [int i64 x.A, int i64 x.B, slice x.l.a x.l.n x.l.cap, slice x.f.a x.f.n x.f.cap] 31)] [])) x_2.w.v x_2.c ∧
 ∀ (y : Unit),
 True →
 Br (largeB x_2.c) (Done (saysC fun (c : ChD) => newB c = true) x F (Ending.returned (bool true)) [(0, F), (1000, Atom.cells b (chS x.c x.w) 28), (1010, Atom.cells b_1 [int i64 x.A, int i64 x.B, slice x.l.a x.l.n x.l.cap, slice x.f.a x.f.n x.f.cap] 31)])
 (Same ⟨b_1, 2, none⟩ b_1 ∧
 Br (decide ((↑x.l.n : Int) > (50 : Int))) (Done (saysC fun (c : ChD) => newB c = true) x F (Ending.returned (bool true)) [(0, F), (1000, Atom.cells b (chS x.c x.w) 28), (1010, Atom.cells b_1 [int i64 x.A, int i64 x.B, slice x.l.a x.l.n x.l.cap, slice x.f.a x.f.n x.f.cap] 31)])
 (Same ⟨b_1, 3, none⟩ b_1 ∧
 Br (decide ((↑x.f.n : Int) > (200 : Int))) (Done (saysC fun (c : ChD) => newB c = true) x F (Ending.returned (bool true)) [(0, F), (1000, Atom.cells b (chS x.c x.w) 28), (1010, Atom.cells b_1 [int i64 x.A, int i64 x.B, slice x.l.a x.l.n x.l.cap, slice x.f.a x.f.n x.f.cap] 31)])
 (Same ⟨b, 0, none⟩ b ∧
 Same ⟨b, 1, none⟩ b ∧
 Same ⟨b, 2, none⟩ b ∧
 Same ⟨b, 3, none⟩ b ∧
 Same ⟨b, 4, none⟩ b ∧
 Same ⟨b, 5, none⟩ b ∧
 Same ⟨b, 6, none⟩ b ∧
 Same ⟨b, 7, none⟩ b ∧
 FnOk Try.prog 11 newYC ∧
 true = true ∧
 ∃ (x_3 : ClnCX),
 [agg { toList := (chS x.c x.w) }] = [agg { toList := (chS x_3.c x_3.w) }] ∧
 ([] : List Atom) = [] ∧
 newB x_3.c = true ∧
 ChIn (Atom.pred (rest [(0, F), (1000, Atom.cells b (chS x.c x.w) 28), (1010, Atom.cells b_1 [int i64 x.A, int i64 x.B, slice x.l.a x.l.n x.l.cap, slice x.f.a x.f.n x.f.cap] 31)] [])) x_3.w.v x_3.c ∧
 ∀ (y : NewY),
 LatIn y.G y.b x_3.c →
 Same ⟨b, 0, none⟩ b ∧
 Same ⟨b, 1, none⟩ b ∧
 Same ⟨b, 2, none⟩ b ∧
 Same ⟨b, 3, none⟩ b ∧
 Same ⟨b, 4, none⟩ b ∧
 Same ⟨b, 5, none⟩ b ∧
 Same ⟨b, 6, none⟩ b ∧
 Same ⟨b, 7, none⟩ b ∧
 FnOk Try.prog 12 rRtC ∧
 true = true ∧
 ∃ (x_4 : R1X),
 [agg { toList := (chS x.c x.w) }] = [agg { toList := (chS x_4.c x_4.w) }] ∧
 ([] : List Atom) = [] ∧
 True ∧
 ChIn (Atom.pred (rest [(0, F), (1000, Atom.cells b (chS x.c x.w) 28), (1010, Atom.cells b_1 [int i64 x.A, int i64 x.B, slice x.l.a x.l.n x.l.cap, slice x.f.a x.f.n x.f.cap] 31), (6010, y.G)] [])) x_4.w.v x_4.c ∧
 ∀ (y_1 : Unit),
 True →
 Br (!newB x_4.c) (Done (saysC fun (c : ChD) => newB c = true) x F (Ending.returned (bool false)) [(0, F), (1000, Atom.cells b (chS x.c x.w) 28), (1010, Atom.cells b_1 [int i64 x.A, int i64 x.B, slice x.l.a x.l.n x.l.cap, slice x.f.a x.f.n x.f.cap] 31), (6010, y.G)])
 (true = true ∧
 FnOk Try.prog 14 chtC ∧
 true = true ∧
 ∃ (x_5 : ChtX),
 [pointer (some ⟨y.b, 0, none⟩)] = [pointer (some ⟨x_5.b, 0, none⟩)] ∧
 ([] : List Atom) = [] ∧
 True ∧
 (∀ (j : Nat) (u : Value), (chS x_5.c x_5.w)[j]? = some u → Look (Atom.pred (rest [(0, F), (1000, Atom.cells b (chS x.c x.w) 28), (1010, Atom.cells b_1 [int i64 x.A, int i64 x.B, slice x.l.a x.l.n x.l.cap, slice x.f.a x.f.n x.f.cap] 31), (6010, y.G)] [])) ⟨x_5.b, j, none⟩ u) ∧
 ∀ (y_2 : Unit),
 True →
 Same ⟨b, 0, none⟩ b ∧
 Same ⟨b, 1, none⟩ b ∧
 Same ⟨b, 2, none⟩ b ∧
 Same ⟨b, 3, none⟩ b ∧
 Same ⟨b, 4, none⟩ b ∧
 Same ⟨b, 5, none⟩ b ∧
 Same ⟨b, 6, none⟩ b ∧
 Same ⟨b, 7, none⟩ b ∧
 FnOk Try.prog 13 smC ∧
 true = true ∧
 ∃ (x_6 : SmX),
 [agg { toList := (chS x_5.c x_5.w) }, agg { toList := (chS x.c x.w) }] =
 [agg { toList := (chS x_6.c x_6.w1) }, agg { toList := (chS x_6.c x_6.w2) }] ∧
 ([] : List Atom) = [] ∧
 True ∧
 (ChIn (Atom.pred (rest [(0, F), (1000, Atom.cells b (chS x.c x.w) 28), (1010, Atom.cells b_1 [int i64 x.A, int i64 x.B, slice x.l.a x.l.n x.l.cap, slice x.f.a x.f.n x.f.cap] 31), (6010, y.G)] [])) x_6.w1.v x_6.c ∧
 ChIn (Atom.pred (rest [(0, F), (1000, Atom.cells b (chS x.c x.w) 28), (1010, Atom.cells b_1 [int i64 x.A, int i64 x.B, slice x.l.a x.l.n x.l.cap, slice x.f.a x.f.n x.f.cap] 31), (6010, y.G)] [])) x_6.w2.v x_6.c) ∧
 ∀ (y_3 : Unit),
 True →
 true = true ∧
 Same ⟨b_1, 0, none⟩ b_1 ∧
 Same ⟨b_1, 1, none⟩ b_1 ∧
 FnOk Try.prog 15 insideC ∧
 true = true ∧
 ∃ (x_7 : L2X),
 [pointer (some ⟨y.b, 0, none⟩), int i64 x.A, int i64 x.B] = [pointer (some ⟨x_7.b, 0, none⟩), int i64 x_7.a, int i64 x_7.d] ∧
 ([] : List Atom) = [] ∧
 True ∧
 LatIn (Atom.pred (rest [(0, F), (1000, Atom.cells b (chS x.c x.w) 28), (1010, Atom.cells b_1 [int i64 x.A, int i64 x.B, slice x.l.a x.l.n x.l.cap, slice x.f.a x.f.n x.f.cap] 31), (6010, y.G)] [])) x_7.b x_7.c ∧
 ∀ (y_4 : Unit),
 True →
 Same ⟨b, 0, none⟩ b ∧
 Same ⟨b, 1, none⟩ b ∧
 Same ⟨b, 2, none⟩ b ∧
 Same ⟨b, 3, none⟩ b ∧
 Same ⟨b, 4, none⟩ b ∧
 Same ⟨b, 5, none⟩ b ∧
 Same ⟨b, 6, none⟩ b ∧
 Same ⟨b, 7, none⟩ b ∧
 Same ⟨b_1, 0, none⟩ b_1 ∧
 Same ⟨b_1, 1, none⟩ b_1 ∧
 FnOk Try.prog 16 rInC ∧
 true = true ∧
 ∃ (x_8 : RfX),
 [agg { toList := (chS x.c x.w) }, int i64 x.A, int i64 x.B] =
 [agg { toList := (chS x_8.c x_8.w) }, int i64 x_8.a, int i64 x_8.d] ∧
 ([] : List Atom) = [] ∧
 Placed x_8.c ∧
 ChIn (Atom.pred (rest [(0, F), (1000, Atom.cells b (chS x.c x.w) 28), (1010, Atom.cells b_1 [int i64 x.A, int i64 x.B, slice x.l.a x.l.n x.l.cap, slice x.f.a x.f.n x.f.cap] 31), (6010, y.G)] [])) x_8.w.v x_8.c ∧
 ∀ (y_5 : Unit),
 True →
 Br (!inB x_7.c x_7.a x_7.d == inB x_8.c x_8.a x_8.d) (Done (saysC fun (c : ChD) => newB c = true) x F (Ending.returned (bool false)) [(0, F), (1000, Atom.cells b (chS x.c x.w) 28), (1010, Atom.cells b_1 [int i64 x.A, int i64 x.B, slice x.l.a x.l.n x.l.cap, slice x.f.a x.f.n x.f.cap] 31), (6010, y.G)])
 (Same ⟨b_1, 0, none⟩ b_1 ∧
 FnOk Try.prog 17 atC ∧
 true = true ∧
 ∃ (x_9 : LqX),
 [pointer (some ⟨y.b, 0, none⟩), int i64 x.A] = [pointer (some ⟨x_9.b, 0, none⟩), int i64 x_9.a] ∧
 ([] : List Atom) = [] ∧
 True ∧
 LatIn (Atom.pred (rest [(0, F), (1000, Atom.cells b (chS x.c x.w) 28), (1010, Atom.cells b_1 [int i64 x.A, int i64 x.B, slice x.l.a x.l.n x.l.cap, slice x.f.a x.f.n x.f.cap] 31), (6010, y.G)] [])) x_9.b x_9.c ∧
 ∀ (y_6 : Unit),
 True →
 Same ⟨b, 0, none⟩ b ∧
 Same ⟨b, 1, none⟩ b ∧
 Same ⟨b, 2, none⟩ b ∧
 Same ⟨b, 3, none⟩ b ∧
 Same ⟨b, 4, none⟩ b ∧
 Same ⟨b, 5, none⟩ b ∧
 Same ⟨b, 6, none⟩ b ∧
 Same ⟨b, 7, none⟩ b ∧
 Same ⟨b_1, 0, none⟩ b_1 ∧
 FnOk Try.prog 18 rAtC ∧
 true = true ∧
 ∃ (x_10 : RfX),
 [agg { toList := (chS x.c x.w) }, int i64 x.A] =
 [agg { toList := (chS x_10.c x_10.w) }, int i64 x_10.a] ∧
 ([] : List Atom) = [] ∧
 nS x_10.c ≤ 1000 ∧
 ChIn (Atom.pred (rest [(0, F), (1000, Atom.cells b (chS x.c x.w) 28), (1010, Atom.cells b_1 [int i64 x.A, int i64 x.B, slice x.l.a x.l.n x.l.cap, slice x.f.a x.f.n x.f.cap] 31), (6010, y.G)] [])) x_10.w.v x_10.c ∧
 ∀ (y_7 : Unit),
 True →
 Br (!atB x_9.c x_9.a == atB x_10.c x_10.a) (Done (saysC fun (c : ChD) => newB c = true) x F (Ending.returned (bool false)) [(0, F), (1000, Atom.cells b (chS x.c x.w) 28), (1010, Atom.cells b_1 [int i64 x.A, int i64 x.B, slice x.l.a x.l.n x.l.cap, slice x.f.a x.f.n x.f.cap] 31), (6010, y.G)])
 (Same ⟨b_1, 0, none⟩ b_1 ∧
 FnOk Try.prog 19 coC ∧
 true = true ∧
 ∃ (x_11 : LqX),
 [pointer (some ⟨y.b, 0, none⟩), int i64 x.A] = [pointer (some ⟨x_11.b, 0, none⟩), int i64 x_11.a] ∧
 ([] : List Atom) = [] ∧
 True ∧
 LatIn (Atom.pred (rest [(0, F), (1000, Atom.cells b (chS x.c x.w) 28), (1010, Atom.cells b_1 [int i64 x.A, int i64 x.B, slice x.l.a x.l.n x.l.cap, slice x.f.a x.f.n x.f.cap] 31), (6010, y.G)] [])) x_11.b x_11.c ∧
 ∀ (y_8 : Unit),
 True →
 Same ⟨b, 0, none⟩ b ∧
 Same ⟨b, 1, none⟩ b ∧
 Same ⟨b, 2, none⟩ b ∧
 Same ⟨b, 3, none⟩ b ∧
 Same ⟨b, 4, none⟩ b ∧
 Same ⟨b, 5, none⟩ b ∧
 Same ⟨b, 6, none⟩ b ∧
 Same ⟨b, 7, none⟩ b ∧
 Same ⟨b_1, 0, none⟩ b_1 ∧
 FnOk Try.prog 20 rCoC ∧
 true = true ∧
 ∃ (x_12 : RfX),
 [agg { toList := (chS x.c x.w) }, int i64 x.A] =
 [agg { toList := (chS x_12.c x_12.w) }, int i64 x_12.a] ∧
 ([] : List Atom) = [] ∧
 nS x_12.c ≤ 1000 ∧
 ChIn (Atom.pred (rest [(0, F), (1000, Atom.cells b (chS x.c x.w) 28), (1010, Atom.cells b_1 [int i64 x.A, int i64 x.B, slice x.l.a x.l.n x.l.cap, slice x.f.a x.f.n x.f.cap] 31), (6010, y.G)] [])) x_12.w.v x_12.c ∧
 ∀ (y_9 : Unit),
 True →
 Br (!coB x_11.c x_11.a == coB x_12.c x_12.a)
 (Done (saysC fun (c : ChD) => newB c = true) x F (Ending.returned (bool false)) [(0, F), (1000, Atom.cells b (chS x.c x.w) 28), (1010, Atom.cells b_1 [int i64 x.A, int i64 x.B, slice x.l.a x.l.n x.l.cap, slice x.f.a x.f.n x.f.cap] 31), (6010, y.G)])
 (Same ⟨b_1, 2, none⟩ b_1 ∧
 FnOk Try.prog 21 comC ∧
 true = true ∧
 ∃ (x_13 : CmX),
 [pointer (some ⟨y.b, 0, none⟩), slice x.l.a x.l.n x.l.cap] = [pointer (some ⟨x_13.b, 0, none⟩), slice x_13.a x_13.n x_13.cap] ∧
 ([] : List Atom) = [] ∧
 (IsSrc 1 (ints x_13.xs) x_13.a x_13.n ∧ x_13.n * 8 ≤ 140737488351232) ∧
 (LatIn (Atom.pred (rest [(0, F), (1000, Atom.cells b (chS x.c x.w) 28), (1010, Atom.cells b_1 [int i64 x.A, int i64 x.B, slice x.l.a x.l.n x.l.cap, slice x.f.a x.f.n x.f.cap] 31), (6010, y.G)] [])) x_13.b x_13.c ∧
 Srcd (Atom.pred (rest [(0, F), (1000, Atom.cells b (chS x.c x.w) 28), (1010, Atom.cells b_1 [int i64 x.A, int i64 x.B, slice x.l.a x.l.n x.l.cap, slice x.f.a x.f.n x.f.cap] 31), (6010, y.G)] [])) x_13.a (ints x_13.xs)) ∧
 ∀ (y_10 : Unit),
 True →
 Same ⟨b, 0, none⟩ b ∧
 Same ⟨b, 1, none⟩ b ∧
 Same ⟨b, 2, none⟩ b ∧
 Same ⟨b, 3, none⟩ b ∧
 Same ⟨b, 4, none⟩ b ∧
 Same ⟨b, 5, none⟩ b ∧
 Same ⟨b, 6, none⟩ b ∧
 Same ⟨b, 7, none⟩ b ∧
 Same ⟨b_1, 2, none⟩ b_1 ∧
 FnOk Try.prog 22 rCmC ∧
 true = true ∧
 ∃ (x_14 : LawX),
 [agg { toList := (chS x.c x.w) }, slice x.l.a x.l.n x.l.cap] =
 [agg { toList := (chS x_14.c x_14.w) }, slice x_14.a x_14.n x_14.cap] ∧
 ([] : List Atom) = [] ∧
 (Placed x_14.c ∧ IsSrc 1 (ints x_14.xs) x_14.a x_14.n ∧ x_14.n * 8 ≤ 140737488351232) ∧
 (ChIn (Atom.pred (rest [(0, F), (1000, Atom.cells b (chS x.c x.w) 28), (1010, Atom.cells b_1 [int i64 x.A, int i64 x.B, slice x.l.a x.l.n x.l.cap, slice x.f.a x.f.n x.f.cap] 31), (6010, y.G)] [])) x_14.w.v x_14.c ∧
 Srcd (Atom.pred (rest [(0, F), (1000, Atom.cells b (chS x.c x.w) 28), (1010, Atom.cells b_1 [int i64 x.A, int i64 x.B, slice x.l.a x.l.n x.l.cap, slice x.f.a x.f.n x.f.cap] 31), (6010, y.G)] [])) x_14.a
 (ints x_14.xs)) ∧
 ∀ (y_11 : Unit),
 True →
 Br (comV x_13.c x_13.xs != comV x_14.c x_14.xs)
 (Done (saysC fun (c : ChD) => newB c = true) x F (Ending.returned (bool false))
 [(0, F), (1000, Atom.cells b (chS x.c x.w) 28), (1010, Atom.cells b_1 [int i64 x.A, int i64 x.B, slice x.l.a x.l.n x.l.cap, slice x.f.a x.f.n x.f.cap] 31), (6010, y.G)])
 (true = true ∧
 Same ⟨b_1, 3, none⟩ b_1 ∧
 FnOk Try.prog 23 legC ∧
 true = true ∧
 ∃ (x_15 : LegX),
 [pointer (some ⟨y.b, 0, none⟩), slice x.f.a x.f.n x.f.cap] = [pointer (some ⟨x_15.b, 0, none⟩), slice x_15.a x_15.n x_15.cap] ∧
 ([] : List Atom) = [] ∧
 (IsSrc 1 (ints x_15.cf) x_15.a x_15.n ∧ x_15.n * 8 ≤ 140737488351232) ∧
 (LatIn
 (Atom.pred
 (rest [(0, F), (1000, Atom.cells b (chS x.c x.w) 28), (1010, Atom.cells b_1 [int i64 x.A, int i64 x.B, slice x.l.a x.l.n x.l.cap, slice x.f.a x.f.n x.f.cap] 31), (6010, y.G)] []))
 x_15.b x_15.c ∧
 Srcd
 (Atom.pred
 (rest [(0, F), (1000, Atom.cells b (chS x.c x.w) 28), (1010, Atom.cells b_1 [int i64 x.A, int i64 x.B, slice x.l.a x.l.n x.l.cap, slice x.f.a x.f.n x.f.cap] 31), (6010, y.G)] []))
 x_15.a (ints x_15.cf)) ∧
 ∀ (y_12 : Unit),
 True →
 Same ⟨b, 0, none⟩ b ∧
 Same ⟨b, 1, none⟩ b ∧
 Same ⟨b, 2, none⟩ b ∧
 Same ⟨b, 3, none⟩ b ∧
 Same ⟨b, 4, none⟩ b ∧
 Same ⟨b, 5, none⟩ b ∧
 Same ⟨b, 6, none⟩ b ∧
 Same ⟨b, 7, none⟩ b ∧
 Same ⟨b_1, 3, none⟩ b_1 ∧
 FnOk Try.prog 24 rLgC ∧
 true = true ∧
 ∃ (x_16 : LawX),
 [agg { toList := (chS x.c x.w) }, slice x.f.a x.f.n x.f.cap] =
 [agg { toList := (chS x_16.c x_16.w) }, slice x_16.a x_16.n x_16.cap] ∧
 ([] : List Atom) = [] ∧
 (Placed x_16.c ∧ IsSrc 1 (ints x_16.xs) x_16.a x_16.n ∧ x_16.n * 8 ≤ 140737488351232) ∧
 (ChIn
 (Atom.pred
 (rest
 [(0, F), (1000, Atom.cells b (chS x.c x.w) 28), (1010, Atom.cells b_1 [int i64 x.A, int i64 x.B, slice x.l.a x.l.n x.l.cap, slice x.f.a x.f.n x.f.cap] 31),
 (6010, y.G)]
 []))
 x_16.w.v x_16.c ∧
 Srcd
 (Atom.pred
 (rest
 [(0, F), (1000, Atom.cells b (chS x.c x.w) 28), (1010, Atom.cells b_1 [int i64 x.A, int i64 x.B, slice x.l.a x.l.n x.l.cap, slice x.f.a x.f.n x.f.cap] 31),
 (6010, y.G)]
 []))
 x_16.a (ints x_16.xs)) ∧
 ∀ (y_13 : Unit),
 True →
 Br (!legB x_15.c x_15.cf == legB x_16.c x_16.xs)
 (Done (saysC fun (c : ChD) => newB c = true) x F (Ending.returned (bool false))
 [(0, F), (1000, Atom.cells b (chS x.c x.w) 28), (1010, Atom.cells b_1 [int i64 x.A, int i64 x.B, slice x.l.a x.l.n x.l.cap, slice x.f.a x.f.n x.f.cap] 31),
 (6010, y.G)])
 (Same ⟨b_1, 3, none⟩ b_1 ∧
 Same ⟨b_1, 0, none⟩ b_1 ∧
 FnOk Try.prog 25 finVC ∧
 true = true ∧
 ∃ (x_17 : FinX),
 [pointer (some ⟨y.b, 0, none⟩), slice x.f.a x.f.n x.f.cap, int i64 x.A] = [pointer (some ⟨x_17.b, 0, none⟩), slice x_17.ca x_17.cn x_17.cc, int i64 x_17.a] ∧
 ([] : List Atom) = [] ∧
 (IsSrc 1 (ints x_17.cf) x_17.ca x_17.cn ∧ x_17.cn * 8 ≤ 140737488351232) ∧
 (LatIn
 (Atom.pred
 (rest
 [(0, F), (1000, Atom.cells b (chS x.c x.w) 28),
 (1010, Atom.cells b_1 [int i64 x.A, int i64 x.B, slice x.l.a x.l.n x.l.cap, slice x.f.a x.f.n x.f.cap] 31), (6010, y.G)]
 []))
 x_17.b x_17.c ∧
 Srcd
 (Atom.pred
 (rest
 [(0, F), (1000, Atom.cells b (chS x.c x.w) 28),
 (1010, Atom.cells b_1 [int i64 x.A, int i64 x.B, slice x.l.a x.l.n x.l.cap, slice x.f.a x.f.n x.f.cap] 31), (6010, y.G)]
 []))
 x_17.ca (ints x_17.cf)) ∧
 ∀ (y_14 : Unit),
 True →
 Same ⟨b, 0, none⟩ b ∧
 Same ⟨b, 1, none⟩ b ∧
 Same ⟨b, 2, none⟩ b ∧
 Same ⟨b, 3, none⟩ b ∧
 Same ⟨b, 4, none⟩ b ∧
 Same ⟨b, 5, none⟩ b ∧
 Same ⟨b, 6, none⟩ b ∧
 Same ⟨b, 7, none⟩ b ∧
 Same ⟨b_1, 3, none⟩ b_1 ∧
 Same ⟨b_1, 0, none⟩ b_1 ∧
 FnOk Try.prog 26 rFinC ∧
 true = true ∧
 ∃ (x_18 : RfnX),
 [agg { toList := (chS x.c x.w) }, slice x.f.a x.f.n x.f.cap, int i64 x.A] =
 [agg { toList := (chS x_18.c x_18.w) }, slice x_18.a x_18.n x_18.cap, int i64 x_18.s] ∧
 ([] : List Atom) = [] ∧
 (Placed x_18.c ∧ IsSrc 1 (ints x_18.cf) x_18.a x_18.n ∧ x_18.n * 8 ≤ 140737488351232) ∧
 (ChIn
 (Atom.pred
 (rest
 [(0, F), (1000, Atom.cells b (chS x.c x.w) 28),
 (1010, Atom.cells b_1 [int i64 x.A, int i64 x.B, slice x.l.a x.l.n x.l.cap, slice x.f.a x.f.n x.f.cap] 31), (6010, y.G)]
 []))
 x_18.w.v x_18.c ∧
 Srcd
 (Atom.pred
 (rest
 [(0, F), (1000, Atom.cells b (chS x.c x.w) 28),
 (1010, Atom.cells b_1 [int i64 x.A, int i64 x.B, slice x.l.a x.l.n x.l.cap, slice x.f.a x.f.n x.f.cap] 31), (6010, y.G)]
 []))
 x_18.a (ints x_18.cf)) ∧
 ∀ (y_15 : Unit),
 True →
 Br (!finB x_17.c x_17.cf (nS x_17.c) x_17.a == finB x_18.c x_18.cf (nS x_18.c) x_18.s)
 (Done (saysC fun (c : ChD) => newB c = true) x F (Ending.returned (bool false))
 [(0, F), (1000, Atom.cells b (chS x.c x.w) 28),
 (1010, Atom.cells b_1 [int i64 x.A, int i64 x.B, slice x.l.a x.l.n x.l.cap, slice x.f.a x.f.n x.f.cap] 31), (6010, y.G)])
 (true = true ∧
 Same ⟨b_1, 0, none⟩ b_1 ∧
 Same ⟨b_1, 1, none⟩ b_1 ∧
 FnOk Try.prog 28 aboveC ∧
 true = true ∧
 ∃ (x_19 : AbX),
 [pointer (some ⟨y.b, 0, none⟩), int i64 x.A, int i64 x.B] = [pointer (some ⟨x_19.b, 0, none⟩), int i64 x_19.a, int i64 x_19.top] ∧
 ([] : List Atom) = [] ∧
 True ∧
 LatIn
 (Atom.pred
 (rest
 [(0, F), (1000, Atom.cells b (chS x.c x.w) 28),
 (1010, Atom.cells b_1 [int i64 x.A, int i64 x.B, slice x.l.a x.l.n x.l.cap, slice x.f.a x.f.n x.f.cap] 31), (6010, y.G)]
 []))
 x_19.b x_19.c ∧
 ∀ (y_16 : Row),
 IsRow 3 1 (ints (abvV x_19.c x_19.a x_19.top)) y_16 ∧ y_16.n = (abvV x_19.c x_19.a x_19.top).length →
 Same ⟨b, 0, none⟩ b ∧
 Same ⟨b, 1, none⟩ b ∧
 Same ⟨b, 2, none⟩ b ∧
 Same ⟨b, 3, none⟩ b ∧
 Same ⟨b, 4, none⟩ b ∧
 Same ⟨b, 5, none⟩ b ∧
 Same ⟨b, 6, none⟩ b ∧
 Same ⟨b, 7, none⟩ b ∧
 Same ⟨b_1, 0, none⟩ b_1 ∧
 Same ⟨b_1, 1, none⟩ b_1 ∧
 FnOk Try.prog 29 rAbvC ∧
 true = true ∧
 ∃ (x_20 : RfX),
 [agg { toList := (chS x.c x.w) }, int i64 x.A, int i64 x.B] =
 [agg { toList := (chS x_20.c x_20.w) }, int i64 x_20.a,
 int i64 x_20.d] ∧
 ([] : List Atom) = [] ∧
 Placed x_20.c ∧
 ChIn
 (Atom.pred
 (rest
 [(0, F), (1000, Atom.cells b (chS x.c x.w) 28),
 (1010, Atom.cells b_1 [int i64 x.A, int i64 x.B, slice x.l.a x.l.n x.l.cap, slice x.f.a x.f.n x.f.cap] 31), (6010, y.G), (15050, y_16.A)]
 []))
 x_20.w.v x_20.c ∧
 ∀ (y_17 : Row),
 IsRow 3 1 (ints (abvV x_20.c x_20.a x_20.d)) y_17 ∧ y_17.n = (abvV x_20.c x_20.a x_20.d).length →
 FnOk Try.prog 27 siC ∧
 true = true ∧
 ∃ (x_21 : SiX),
 [slice y_16.a y_16.n y_16.cap, slice y_17.a y_17.n y_17.cap] = [slice x_21.s1.a x_21.s1.n x_21.s1.cap, slice x_21.s2.a x_21.s2.n x_21.s2.cap] ∧
 ([] : List Atom) = [] ∧
 True ∧
 (IntsIn
 (Atom.pred
 (rest
 [(0, F), (1000, Atom.cells b (chS x.c x.w) 28),
 (1010, Atom.cells b_1 [int i64 x.A, int i64 x.B, slice x.l.a x.l.n x.l.cap, slice x.f.a x.f.n x.f.cap] 31), (6010, y.G), (15050, y_16.A), (15110, y_17.A)]
 []))
 (slice x_21.s1.a x_21.s1.n x_21.s1.cap) x_21.xs ∧
 IntsIn
 (Atom.pred
 (rest
 [(0, F), (1000, Atom.cells b (chS x.c x.w) 28),
 (1010, Atom.cells b_1 [int i64 x.A, int i64 x.B, slice x.l.a x.l.n x.l.cap, slice x.f.a x.f.n x.f.cap] 31), (6010, y.G), (15050, y_16.A), (15110, y_17.A)]
 []))
 (slice x_21.s2.a x_21.s2.n x_21.s2.cap) x_21.xs) ∧
 ∀ (y_18 : Unit),
 True →
 Same ⟨b_1, 0, none⟩ b_1 ∧
 FnOk Try.prog 30 kidsC ∧
 true = true ∧
 ∃ (x_22 : LqX),
 [pointer (some ⟨y.b, 0, none⟩), int i64 x.A] = [pointer (some ⟨x_22.b, 0, none⟩), int i64 x_22.a] ∧
 ([] : List Atom) = [] ∧
 True ∧
 LatIn
 (Atom.pred
 (rest
 [(0, F), (1000, Atom.cells b (chS x.c x.w) 28),
 (1010, Atom.cells b_1 [int i64 x.A, int i64 x.B, slice x.l.a x.l.n x.l.cap, slice x.f.a x.f.n x.f.cap] 31), (6010, y.G), (15050, y_16.A), (15110, y_17.A)]
 []))
 x_22.b x_22.c ∧
 ∀ (y_19 : Row),
 IsRow 3 1 (ints (bif isS x_22.c x_22.a then kidsP x_22.c x_22.a.toNat else [])) y_19 ∧ y_19.n = (bif isS x_22.c x_22.a then kidsP x_22.c x_22.a.toNat else []).length →
 Same ⟨b, 0, none⟩ b ∧
 Same ⟨b, 1, none⟩ b ∧
 Same ⟨b, 2, none⟩ b ∧
 Same ⟨b, 3, none⟩ b ∧
 Same ⟨b, 4, none⟩ b ∧
 Same ⟨b, 5, none⟩ b ∧
 Same ⟨b, 6, none⟩ b ∧
 Same ⟨b, 7, none⟩ b ∧
 Same ⟨b_1, 0, none⟩ b_1 ∧
 FnOk Try.prog 31 rKidsC ∧
 true = true ∧
 ∃ (x_23 : RfX),
 [agg { toList := (chS x.c x.w) },
 int i64 x.A] =
 [agg
 {
 toList :=
 [string x_23.c.name, bool x_23.c.late, int i64 x_23.c.script, slice x_23.w.vs.a x_23.w.vs.n x_23.w.vs.cap, slice x_23.w.vt.a x_23.w.vt.n x_23.w.vt.cap, slice x_23.w.vb.a x_23.w.vb.n x_23.w.vb.cap, slice x_23.w.vd.a x_23.w.vd.n x_23.w.vd.cap,
 slice x_23.w.vi.a x_23.w.vi.n x_23.w.vi.cap] },
 int i64 x_23.a] ∧
 ([] : List Atom) = [] ∧
 nS x_23.c ≤ 1000 ∧
 ChIn
 (Atom.pred
 (rest
 [(0, F),
 (1000,
 Atom.cells b (chS x.c x.w)
 28),
 (1010, Atom.cells b_1 [int i64 x.A, int i64 x.B, slice x.l.a x.l.n x.l.cap, slice x.f.a x.f.n x.f.cap] 31), (6010, y.G), (15050, y_16.A), (15110, y_17.A), (15170, y_19.A)]
 []))
 x_23.w.v x_23.c ∧
 ∀ (y_20 : Row),
 IsRow 3 1 (ints (kidV x_23.c x_23.a)) y_20 ∧ y_20.n = (kidV x_23.c x_23.a).length →
 FnOk Try.prog 27 siC ∧
 true = true ∧
 ∃ (x_24 : SiX),
 [slice y_19.a y_19.n y_19.cap, slice y_20.a y_20.n y_20.cap] = [slice x_24.s1.a x_24.s1.n x_24.s1.cap, slice x_24.s2.a x_24.s2.n x_24.s2.cap] ∧
 ([] : List Atom) = [] ∧
 True ∧
 (IntsIn
 (Atom.pred
 (rest
 [(0, F),
 (1000,
 Atom.cells b
 (chS x.c x.w)
 28),
 (1010, Atom.cells b_1 [int i64 x.A, int i64 x.B, slice x.l.a x.l.n x.l.cap, slice x.f.a x.f.n x.f.cap] 31), (6010, y.G), (15050, y_16.A), (15110, y_17.A), (15170, y_19.A), (15210, y_20.A)]
 []))
 (slice x_24.s1.a x_24.s1.n x_24.s1.cap) x_24.xs ∧
 IntsIn
 (Atom.pred
 (rest
 [(0, F),
 (1000,
 Atom.cells b
 (chS x.c x.w)
 28),
 (1010, Atom.cells b_1 [int i64 x.A, int i64 x.B, slice x.l.a x.l.n x.l.cap, slice x.f.a x.f.n x.f.cap] 31), (6010, y.G), (15050, y_16.A), (15110, y_17.A), (15170, y_19.A), (15210, y_20.A)]
 []))
 (slice x_24.s2.a x_24.s2.n x_24.s2.cap) x_24.xs) ∧
 ∀ (y_21 : Unit),
 True →
 Done (saysC fun (c : ChD) => newB c = true) x F (Ending.returned (bool true))
 [(0, F),
 (1000,
 Atom.cells b
 (chS x.c x.w)
 28),
 (1010, Atom.cells b_1 [int i64 x.A, int i64 x.B, slice x.l.a x.l.n x.l.cap, slice x.f.a x.f.n x.f.cap] 31), (6010, y.G), (15050, y_16.A), (15110, y_17.A), (15170, y_19.A), (15210, y_20.A)])))))))))) := by
  obtain ⟨c, w, A, B, ⟨la, ln, lc⟩, ⟨fa, fn, fc⟩, xs, cf⟩ := x
  obtain ⟨hnew, hc1, hc2⟩ := hc
  obtain ⟨hr, hx, hy⟩ := hr
  have hp : Placed c := (newB_spec.1 hnew).1
  have hn128 := hp.n128
  intro b1 b2
  refine ⟨aw_ok, rfl, (), rfl, rfl, trivial, trivial, fun _ _ => ?_⟩
  repeat (first | refine ⟨⟨rfl, rfl⟩, ?_⟩ | refine ⟨rfl, ?_⟩)
  refine ⟨large_ok, rfl, ⟨c, w⟩, rfl, rfl, trivial, ChIn.sub (sub_rest 0 (by simp) rfl) hr, fun _ _ => br_intro (fun _ => ⟨(), trivial, rfl, Ent.pick [0] rfl rfl⟩) (fun _ => ⟨⟨rfl, rfl⟩, br_decide (fun _ => ⟨(), trivial, rfl, Ent.pick [0] rfl rfl⟩) (fun _ => ⟨⟨rfl, rfl⟩, br_decide (fun _ => ⟨(), trivial, rfl, Ent.pick [0] rfl rfl⟩) (fun _ => ?_)⟩)⟩)⟩
  repeat (first | refine ⟨⟨rfl, rfl⟩, ?_⟩ | refine ⟨rfl, ?_⟩)
  refine ⟨newY_ok, rfl, ⟨c, w⟩, rfl, rfl, hnew, ChIn.sub (sub_rest 0 (by simp) rfl) hr, fun z hz => ?_⟩
  replace hz : LatIn z.G z.b c := hz
  repeat (first | refine ⟨⟨rfl, rfl⟩, ?_⟩ | refine ⟨rfl, ?_⟩)
  refine ⟨rrt_ok, rfl, ⟨c, w⟩, rfl, rfl, trivial, ChIn.sub (sub_rest 0 (by simp) rfl) hr, fun _ _ => br_f (by dsimp only; rw [hnew]; rfl) ?_⟩
  repeat (first | refine ⟨⟨rfl, rfl⟩, ?_⟩ | refine ⟨rfl, ?_⟩)
  obtain ⟨w2, hw2, hch2⟩ := hz.chs
  refine ⟨cht_ok, rfl, ⟨z.b, c, w2⟩, rfl, rfl, trivial, fun j u hj => Look.sub (A := z.G) (sub_rest 6010 (by simp) rfl) (hw2 j u hj), fun _ _ => ?_⟩
  repeat (first | refine ⟨⟨rfl, rfl⟩, ?_⟩ | refine ⟨rfl, ?_⟩)
  refine ⟨sm_ok, rfl, ⟨c, w2, w⟩, rfl, rfl, trivial, ⟨ChIn.sub (sub_rest 6010 (by simp) rfl) hch2, ChIn.sub (sub_rest 0 (by simp) rfl) hr⟩, fun _ _ => ?_⟩
  repeat (first | refine ⟨⟨rfl, rfl⟩, ?_⟩ | refine ⟨rfl, ?_⟩)
  refine ⟨inside_ok, rfl, ⟨z.b, c, A, B⟩, rfl, rfl, trivial, hz.sub (sub_rest 6010 (by simp) rfl), fun _ _ => ?_⟩
  repeat (first | refine ⟨⟨rfl, rfl⟩, ?_⟩ | refine ⟨rfl, ?_⟩)
  refine ⟨rin_ok, rfl, ⟨c, w, A, B⟩, rfl, rfl, hp, ChIn.sub (sub_rest 0 (by simp) rfl) hr, fun _ _ => br_f (by simp) ?_⟩
  repeat (first | refine ⟨⟨rfl, rfl⟩, ?_⟩ | refine ⟨rfl, ?_⟩)
  refine ⟨at_ok, rfl, ⟨z.b, c, A⟩, rfl, rfl, trivial, hz.sub (sub_rest 6010 (by simp) rfl), fun _ _ => ?_⟩
  repeat (first | refine ⟨⟨rfl, rfl⟩, ?_⟩ | refine ⟨rfl, ?_⟩)
  refine ⟨rat_ok, rfl, ⟨c, w, A, 0⟩, rfl, rfl, by dsimp only; omega, ChIn.sub (sub_rest 0 (by simp) rfl) hr, fun _ _ => br_f (by simp) ?_⟩
  repeat (first | refine ⟨⟨rfl, rfl⟩, ?_⟩ | refine ⟨rfl, ?_⟩)
  refine ⟨co_ok, rfl, ⟨z.b, c, A⟩, rfl, rfl, trivial, hz.sub (sub_rest 6010 (by simp) rfl), fun _ _ => ?_⟩
  repeat (first | refine ⟨⟨rfl, rfl⟩, ?_⟩ | refine ⟨rfl, ?_⟩)
  refine ⟨rco_ok, rfl, ⟨c, w, A, 0⟩, rfl, rfl, by dsimp only; omega, ChIn.sub (sub_rest 0 (by simp) rfl) hr, fun _ _ => br_f (by simp) ?_⟩
  repeat (first | refine ⟨⟨rfl, rfl⟩, ?_⟩ | refine ⟨rfl, ?_⟩)
  refine ⟨com_ok, rfl, ⟨z.b, c, la, ln, lc, xs⟩, rfl, rfl, hc1, ⟨hz.sub (sub_rest 6010 (by simp) rfl), hx.sub (sub_rest 0 (by simp) rfl)⟩, fun _ _ => ?_⟩
  repeat (first | refine ⟨⟨rfl, rfl⟩, ?_⟩ | refine ⟨rfl, ?_⟩)
  refine ⟨rcm_ok, rfl, ⟨c, w, la, ln, lc, xs⟩, rfl, rfl, ⟨hp, hc1⟩, ⟨ChIn.sub (sub_rest 0 (by simp) rfl) hr, hx.sub (sub_rest 0 (by simp) rfl)⟩, fun _ _ => br_f (by simp) ?_⟩
  repeat (first | refine ⟨⟨rfl, rfl⟩, ?_⟩ | refine ⟨rfl, ?_⟩)
  refine ⟨leg_ok, rfl, ⟨z.b, c, fa, fn, fc, cf⟩, rfl, rfl, hc2, ⟨hz.sub (sub_rest 6010 (by simp) rfl), hy.sub (sub_rest 0 (by simp) rfl)⟩, fun _ _ => ?_⟩
  repeat (first | refine ⟨⟨rfl, rfl⟩, ?_⟩ | refine ⟨rfl, ?_⟩)
  refine ⟨rlg_ok, rfl, ⟨c, w, fa, fn, fc, cf⟩, rfl, rfl, ⟨hp, hc2⟩, ⟨ChIn.sub (sub_rest 0 (by simp) rfl) hr, hy.sub (sub_rest 0 (by simp) rfl)⟩, fun _ _ => br_f (by simp) ?_⟩
  repeat (first | refine ⟨⟨rfl, rfl⟩, ?_⟩ | refine ⟨rfl, ?_⟩)
  refine ⟨finv_ok, rfl, ⟨z.b, c, fa, fn, fc, cf, A⟩, rfl, rfl, hc2, ⟨hz.sub (sub_rest 6010 (by simp) rfl), hy.sub (sub_rest 0 (by simp) rfl)⟩, fun _ _ => ?_⟩
  repeat (first | refine ⟨⟨rfl, rfl⟩, ?_⟩ | refine ⟨rfl, ?_⟩)
  refine ⟨rfin_ok, rfl, ⟨c, w, fa, fn, fc, cf, A⟩, rfl, rfl, ⟨hp, hc2⟩, ⟨ChIn.sub (sub_rest 0 (by simp) rfl) hr, hy.sub (sub_rest 0 (by simp) rfl)⟩, fun _ _ => br_f (by simp) ?_⟩
  repeat (first | refine ⟨⟨rfl, rfl⟩, ?_⟩ | refine ⟨rfl, ?_⟩)
  refine ⟨above_ok, rfl, ⟨z.b, c, A, B⟩, rfl, rfl, trivial, hz.sub (sub_rest 6010 (by simp) rfl), fun r1 hr1 => ?_⟩
  repeat (first | refine ⟨⟨rfl, rfl⟩, ?_⟩ | refine ⟨rfl, ?_⟩)
  refine ⟨rabv_ok, rfl, ⟨c, w, A, B⟩, rfl, rfl, hp, ChIn.sub (sub_rest 0 (by simp) rfl) hr, fun r2 hr2 => ?_⟩
  have hal := abvV_len hp A B
  refine ⟨si_ok, rfl, ⟨⟨r1.a, r1.n, r1.cap⟩, ⟨r2.a, r2.n, r2.cap⟩, abvV c A B⟩, rfl, rfl, trivial, ⟨hr1.1.intsIn (sub_rest 15050 (by simp) rfl) ?_, hr2.1.intsIn (sub_rest 15110 (by simp) rfl) ?_⟩, fun _ _ => ?_⟩
  repeat (first | refine ⟨⟨rfl, rfl⟩, ?_⟩ | refine ⟨rfl, ?_⟩)
  · have := hr1.2; dsimp only at this; omega
  · have := hr2.2; dsimp only at this; omega
  repeat (first | refine ⟨⟨rfl, rfl⟩, ?_⟩ | refine ⟨rfl, ?_⟩)
  refine ⟨kids_ok, rfl, ⟨z.b, c, A⟩, rfl, rfl, trivial, hz.sub (sub_rest 6010 (by simp) rfl), fun r3 hr3 => ?_⟩
  repeat (first | refine ⟨⟨rfl, rfl⟩, ?_⟩ | refine ⟨rfl, ?_⟩)
  refine ⟨rkids_ok, rfl, ⟨c, w, A, 0⟩, rfl, rfl, by dsimp only; omega, ChIn.sub (sub_rest 0 (by simp) rfl) hr, fun r4 hr4 => ?_⟩
  have hkl : (kidV c A).length ≤ nS c := kidV_len c A
  refine ⟨si_ok, rfl, ⟨⟨r3.a, r3.n, r3.cap⟩, ⟨r4.a, r4.n, r4.cap⟩, kidV c A⟩, rfl, rfl, trivial, ⟨hr3.1.intsIn (sub_rest 15170 (by simp) rfl) ?_, hr4.1.intsIn (sub_rest 15210 (by simp) rfl) ?_⟩, fun _ _ => ?_⟩
  · have : r3.n = (kidV c A).length := hr3.2
    omega
  · have : r4.n = (kidV c A).length := hr4.2
    omega
  repeat (first | refine ⟨⟨rfl, rfl⟩, ?_⟩ | refine ⟨rfl, ?_⟩)
  exact ⟨(), trivial, rfl, Ent.pick [0] rfl rfl⟩
set_option maxRecDepth 100000 in
theorem lsY_ok : FnOk Try.prog 3 (saysC fun c => newB c = true) :=
  fnOk (N := 144) (by kernel_rfl) Try.func3 rfl (by kernel_rfl) (fun _ => Nat.le_of_ble_eq_true rfl) lsY_H [] fun x F hc hr => Eq.mpr (by kernel_rfl) (lsY_vc x F hc hr)
theorem lsAll_ok : FnOk Try.prog 3 (saysC fun _ => True) := says_split lsY_ok lsN_ok
end Go.Proofs.Ytfmadkaiigiaiaa
