/- The law LatticeCopies. -/
import Derived.Test.YtfmadkaiigiaiaaLatCC
import Derived.Test.YtfmadkaiigiaiaaLatSB
import Derived.Test.YtfmadkaiigiaiaaLatO
set_option linter.all false
namespace Go.Proofs.Ytfmadkaiigiaiaa
open Go
set_option maxHeartbeats 1000000
def copC (Q : ChD → Prop) : Con where
  X := ClnCX
  Y := Unit
  args x := [.agg #[.string x.c.name, .bool x.c.late, .int .i64 x.c.script, .slice x.w.vs.a x.w.vs.n x.w.vs.cap, .slice x.w.vt.a x.w.vt.n x.w.vt.cap, .slice x.w.vb.a x.w.vb.n x.w.vb.cap, .slice x.w.vd.a x.w.vd.n x.w.vd.cap, .slice x.w.vi.a x.w.vi.n x.w.vi.cap]]
  pre _ := []
  cond x := Q x.c
  rdc x F := ChIn F x.w.v x.c
  rel _ _ := True
  val _ _ := .returned (.bool true)
  post _ _ := []
  rmono _ _ _ h hk := hk.sub h
theorem cop_split {f : FuncId} (h1 : FnOk Try.prog f (copC fun c => newB c = true)) (h2 : FnOk Try.prog f (copC fun c => newB c = false)) : FnOk Try.prog f (copC fun _ => True) := by
  refine ⟨fun x F I w hc hr hs => ?_⟩
  cases h : newB x.c with
  | true => exact h1.h x F I w h hr hs
  | false => exact h2.h x F I w h hr hs
def cyOv (_x : ClnCX) (_F : Atom) : List (Nat × Nat × OH) := [(0, 0, .n 1000), (1, 0, .c awC [] []), (3, 0, .q (at8 1000)), (3, 1, .c largeC [] []), (5, 0, .q (at8 1000)), (5, 1, .c cloneC [] [6010]), (5, 2, .q (at8 1000)), (5, 3, .c cloneC [] [6030]), (5, 4, .n 6040), (5, 5, .n 6050), (5, 6, .w (at8 6040)), (5, 7, .w (at8 6050)), (6, 0, .q (at8 6040)), (6, 1, .q (at8 1000)), (6, 2, .c smC [] []), (8, 0, .q (at8 6050)), (8, 1, .c newYC [] [9010]), (9, 0, .q (at8 6050)), (9, 1, .c spoC [6030] [10010]), (10, 0, .q (at8 6040)), (10, 1, .q (at8 1000)), (10, 2, .c smC [] []), (10, 8, .c chtC [] []), (10, 9, .q (at8 1000)), (10, 10, .c smC [] [])]
def cnOv (_x : ClnCX) (_F : Atom) : List (Nat × Nat × OH) := [(0, 0, .n 1000), (1, 0, .c awC [] []), (3, 0, .q (at8 1000)), (3, 1, .c largeC [] []), (5, 0, .q (at8 1000)), (5, 1, .c cloneC [] [6010]), (5, 2, .q (at8 1000)), (5, 3, .c cloneC [] [6030]), (5, 4, .n 6040), (5, 5, .n 6050), (5, 6, .w (at8 6040)), (5, 7, .w (at8 6050)), (6, 0, .q (at8 6040)), (6, 1, .q (at8 1000)), (6, 2, .c smC [] []), (8, 0, .q (at8 6050)), (8, 1, .c newNC [] []), (9, 0, .q (at8 6050)), (9, 1, .c spoC [6030] [10010]), (10, 0, .q (at8 6040)), (10, 1, .q (at8 1000)), (10, 2, .c smC [] []), (10, 8, .c chtC [] []), (10, 9, .q (at8 1000)), (10, 10, .c smC [] [])]
noncomputable def cpY_H (x : Con.X (copC fun c => newB c = true)) (F : Atom) : Hints where
  op := hk ((cyOv x F) ++ [])
  inv := (fun _ _ _ => none) x F
  cut := (fun _ _ _ => none) x F
  ord := (fun _ => [])
open Go.Value (int slice string bool pointer agg tuple func) in
open Go.IntKind (i64) in
set_option maxRecDepth 100000 in
theorem cpY_vc (x : ClnCX) (F : Atom) (hc : Con.cond (copC fun c => newB c = true) x) (hr : Con.rdc (copC fun c => newB c = true) x F) :
  ∀ (b : Nat),
 FnOk Try.prog 9 awC ∧
 true = true ∧
 ∃ (x_1 : Unit),
 ([] : List Value) = [] ∧
 ([] : List Atom) = [] ∧
 True ∧
 True ∧
 ∀ (y : Unit),
 True →
 Same ⟨b, 0, none⟩ b ∧
 Same ⟨b, 1, none⟩ b ∧
 Same ⟨b, 2, none⟩ b ∧
 Same ⟨b, 3, none⟩ b ∧
 Same ⟨b, 4, none⟩ b ∧
 Same ⟨b, 5, none⟩ b ∧
 Same ⟨b, 6, none⟩ b ∧
 Same ⟨b, 7, none⟩ b ∧
 FnOk Try.prog 10 largeC ∧
 true = true ∧
 ∃ (x_2 : ClnCX),
 [agg { toList := (chS x.c x.w) }] = [agg { toList := (chS x_2.c x_2.w) }] ∧
 ([] : List Atom) = [] ∧
 True ∧
 ChIn (Atom.pred (rest [(0, F), (1000, Atom.cells b (chS x.c x.w) 28)] [])) x_2.w.v x_2.c ∧
 ∀ (y : Unit),
 True →
 Br (largeB x_2.c) (Done (copC fun (c : ChD) => newB c = true) x F (Ending.returned (bool true)) [(0, F), (1000, Atom.cells b (chS x.c x.w) 28)])
 (true = true ∧
 Same ⟨b, 0, none⟩ b ∧
 Same ⟨b, 1, none⟩ b ∧
 Same ⟨b, 2, none⟩ b ∧
 Same ⟨b, 3, none⟩ b ∧
 Same ⟨b, 4, none⟩ b ∧
 Same ⟨b, 5, none⟩ b ∧
 Same ⟨b, 6, none⟩ b ∧
 Same ⟨b, 7, none⟩ b ∧
 FnOk Try.prog 33 cloneC ∧
 true = true ∧
 ∃ (x_3 : ClnCX),
 [agg { toList := (chS x.c x.w) }] = [agg { toList := (chS x_3.c x_3.w) }] ∧
 ([] : List Atom) = [] ∧
 True ∧
 ChIn (Atom.pred (rest [(0, F), (1000, Atom.cells b (chS x.c x.w) 28)] [])) x_3.w.v x_3.c ∧
 ∀ (y : ClnCY),
 ChOw y.G y.w x_3.c →
 Same ⟨b, 0, none⟩ b ∧
 Same ⟨b, 1, none⟩ b ∧
 Same ⟨b, 2, none⟩ b ∧
 Same ⟨b, 3, none⟩ b ∧
 Same ⟨b, 4, none⟩ b ∧
 Same ⟨b, 5, none⟩ b ∧
 Same ⟨b, 6, none⟩ b ∧
 Same ⟨b, 7, none⟩ b ∧
 FnOk Try.prog 33 cloneC ∧
 true = true ∧
 ∃ (x_4 : ClnCX),
 [agg { toList := (chS x.c x.w) }] = [agg { toList := (chS x_4.c x_4.w) }] ∧
 ([] : List Atom) = [] ∧
 True ∧
 ChIn (Atom.pred (rest [(0, F), (1000, Atom.cells b (chS x.c x.w) 28), (6010, y.G)] [])) x_4.w.v x_4.c ∧
 ∀ (y_1 : ClnCY),
 ChOw y_1.G y_1.w x_4.c →
 ∀ (b_1 b_2 : Nat),
 Same ⟨b_1, 0, none⟩ b_1 ∧
 Same ⟨b_1, 1, none⟩ b_1 ∧
 Same ⟨b_1, 2, none⟩ b_1 ∧
 Same ⟨b_1, 3, none⟩ b_1 ∧
 Same ⟨b_1, 4, none⟩ b_1 ∧
 Same ⟨b_1, 5, none⟩ b_1 ∧
 Same ⟨b_1, 6, none⟩ b_1 ∧
 Same ⟨b_1, 7, none⟩ b_1 ∧
 Same ⟨b_2, 0, none⟩ b_2 ∧
 Same ⟨b_2, 1, none⟩ b_2 ∧
 Same ⟨b_2, 2, none⟩ b_2 ∧
 Same ⟨b_2, 3, none⟩ b_2 ∧
 Same ⟨b_2, 4, none⟩ b_2 ∧
 Same ⟨b_2, 5, none⟩ b_2 ∧
 Same ⟨b_2, 6, none⟩ b_2 ∧
 Same ⟨b_2, 7, none⟩ b_2 ∧
 Same ⟨b_1, 0, none⟩ b_1 ∧
 Same ⟨b_1, 1, none⟩ b_1 ∧
 Same ⟨b_1, 2, none⟩ b_1 ∧
 Same ⟨b_1, 3, none⟩ b_1 ∧
 Same ⟨b_1, 4, none⟩ b_1 ∧
 Same ⟨b_1, 5, none⟩ b_1 ∧
 Same ⟨b_1, 6, none⟩ b_1 ∧
 Same ⟨b_1, 7, none⟩ b_1 ∧
 Same ⟨b, 0, none⟩ b ∧
 Same ⟨b, 1, none⟩ b ∧
 Same ⟨b, 2, none⟩ b ∧
 Same ⟨b, 3, none⟩ b ∧
 Same ⟨b, 4, none⟩ b ∧
 Same ⟨b, 5, none⟩ b ∧
 Same ⟨b, 6, none⟩ b ∧
 Same ⟨b, 7, none⟩ b ∧
 FnOk Try.prog 13 smC ∧
 true = true ∧
 ∃ (x_5 : SmX),
 [agg { toList := (chS x_3.c y.w) }, agg { toList := (chS x.c x.w) }] =
 [agg { toList := (chS x_5.c x_5.w1) }, agg { toList := (chS x_5.c x_5.w2) }] ∧
 ([] : List Atom) = [] ∧
 True ∧
 (ChIn
 (Atom.pred
 (rest
 [(0, F), (1000, Atom.cells b (chS x.c x.w) 28), (6010, y.G), (6030, y_1.G), (6040, Atom.cells b_1 (chS x_3.c y.w) 28),
 (6050, Atom.cells b_2 (chS x_4.c y_1.w) 28)]
 []))
 x_5.w1.v x_5.c ∧
 ChIn
 (Atom.pred
 (rest
 [(0, F), (1000, Atom.cells b (chS x.c x.w) 28), (6010, y.G), (6030, y_1.G), (6040, Atom.cells b_1 (chS x_3.c y.w) 28),
 (6050, Atom.cells b_2 (chS x_4.c y_1.w) 28)]
 []))
 x_5.w2.v x_5.c) ∧
 ∀ (y_2 : Unit),
 True →
 Same ⟨b_2, 0, none⟩ b_2 ∧
 Same ⟨b_2, 1, none⟩ b_2 ∧
 Same ⟨b_2, 2, none⟩ b_2 ∧
 Same ⟨b_2, 3, none⟩ b_2 ∧
 Same ⟨b_2, 4, none⟩ b_2 ∧
 Same ⟨b_2, 5, none⟩ b_2 ∧
 Same ⟨b_2, 6, none⟩ b_2 ∧
 Same ⟨b_2, 7, none⟩ b_2 ∧
 FnOk Try.prog 11 newYC ∧
 true = true ∧
 ∃ (x_6 : ClnCX),
 [agg { toList := (chS x_4.c y_1.w) }] = [agg { toList := (chS x_6.c x_6.w) }] ∧
 ([] : List Atom) = [] ∧
 newB x_6.c = true ∧
 ChIn
 (Atom.pred
 (rest
 [(0, F), (1000, Atom.cells b (chS x.c x.w) 28), (6010, y.G), (6030, y_1.G), (6040, Atom.cells b_1 (chS x_3.c y.w) 28),
 (6050, Atom.cells b_2 (chS x_4.c y_1.w) 28)]
 []))
 x_6.w.v x_6.c ∧
 ∀ (y_3 : NewY),
 LatIn y_3.G y_3.b x_6.c →
 Same ⟨b_2, 0, none⟩ b_2 ∧
 Same ⟨b_2, 1, none⟩ b_2 ∧
 Same ⟨b_2, 2, none⟩ b_2 ∧
 Same ⟨b_2, 3, none⟩ b_2 ∧
 Same ⟨b_2, 4, none⟩ b_2 ∧
 Same ⟨b_2, 5, none⟩ b_2 ∧
 Same ⟨b_2, 6, none⟩ b_2 ∧
 Same ⟨b_2, 7, none⟩ b_2 ∧
 FnOk Try.prog 34 spoC ∧
 true = true ∧
 ∃ (x_7 : SpoX),
 [agg { toList := (chS x_4.c y_1.w) }] = [agg { toList := (chS x_7.c x_7.w) }] ∧
 [y_1.G] = [x_7.G] ∧
 ChOw x_7.G x_7.w x_7.c ∧
 True ∧
 ∀ (y_4 : Sig × Kn),
 True →
 true = true ∧
 Same ⟨b_1, 0, none⟩ b_1 ∧
 Same ⟨b_1, 1, none⟩ b_1 ∧
 Same ⟨b_1, 2, none⟩ b_1 ∧
 Same ⟨b_1, 3, none⟩ b_1 ∧
 Same ⟨b_1, 4, none⟩ b_1 ∧
 Same ⟨b_1, 5, none⟩ b_1 ∧
 Same ⟨b_1, 6, none⟩ b_1 ∧
 Same ⟨b_1, 7, none⟩ b_1 ∧
 Same ⟨b, 0, none⟩ b ∧
 Same ⟨b, 1, none⟩ b ∧
 Same ⟨b, 2, none⟩ b ∧
 Same ⟨b, 3, none⟩ b ∧
 Same ⟨b, 4, none⟩ b ∧
 Same ⟨b, 5, none⟩ b ∧
 Same ⟨b, 6, none⟩ b ∧
 Same ⟨b, 7, none⟩ b ∧
 FnOk Try.prog 13 smC ∧
 true = true ∧
 ∃ (x_8 : SmX),
 [agg { toList := (chS x_3.c y.w) }, agg { toList := (chS x.c x.w) }] =
 [agg { toList := (chS x_8.c x_8.w1) },
 agg { toList := (chS x_8.c x_8.w2) }] ∧
 ([] : List Atom) = [] ∧
 True ∧
 (ChIn
 (Atom.pred
 (rest
 [(0, F), (1000, Atom.cells b (chS x.c x.w) 28), (6010, y.G), (6030, Atom.emp),
 (6040, Atom.cells b_1 (chS x_3.c y.w) 28),
 (6050, Atom.cells b_2 (chS x_4.c y_1.w) 28), (9010, y_3.G), (10010, Atom.pred (Wp.rest y_4.fst y_4.snd))]
 []))
 x_8.w1.v x_8.c ∧
 ChIn
 (Atom.pred
 (rest
 [(0, F), (1000, Atom.cells b (chS x.c x.w) 28), (6010, y.G), (6030, Atom.emp),
 (6040, Atom.cells b_1 (chS x_3.c y.w) 28),
 (6050, Atom.cells b_2 (chS x_4.c y_1.w) 28), (9010, y_3.G), (10010, Atom.pred (Wp.rest y_4.fst y_4.snd))]
 []))
 x_8.w2.v x_8.c) ∧
 ∀ (y_5 : Unit),
 True →
 FnOk Try.prog 14 chtC ∧
 true = true ∧
 ∃ (x_9 : ChtX),
 [pointer (some ⟨y_3.b, 0, none⟩)] = [pointer (some ⟨x_9.b, 0, none⟩)] ∧
 ([] : List Atom) = [] ∧
 True ∧
 (∀ (j : Nat) (u : Value),
 (chS x_9.c x_9.w)[j]? = some u →
 Look
 (Atom.pred
 (rest
 [(0, F), (1000, Atom.cells b (chS x.c x.w) 28), (6010, y.G), (6030, Atom.emp),
 (6040, Atom.cells b_1 (chS x_3.c y.w) 28),
 (6050, Atom.cells b_2 (chS x_4.c y_1.w) 28), (9010, y_3.G), (10010, Atom.pred (Wp.rest y_4.fst y_4.snd))]
 []))
 ⟨x_9.b, j, none⟩ u) ∧
 ∀ (y_6 : Unit),
 True →
 Same ⟨b, 0, none⟩ b ∧
 Same ⟨b, 1, none⟩ b ∧
 Same ⟨b, 2, none⟩ b ∧
 Same ⟨b, 3, none⟩ b ∧
 Same ⟨b, 4, none⟩ b ∧
 Same ⟨b, 5, none⟩ b ∧
 Same ⟨b, 6, none⟩ b ∧
 Same ⟨b, 7, none⟩ b ∧
 FnOk Try.prog 13 smC ∧
 true = true ∧
 ∃ (x_10 : SmX),
 [agg { toList := (chS x_9.c x_9.w) },
 agg { toList := (chS x.c x.w) }] =
 [agg { toList := (chS x_10.c x_10.w1) },
 agg { toList := (chS x_10.c x_10.w2) }] ∧
 ([] : List Atom) = [] ∧
 True ∧
 (ChIn
 (Atom.pred
 (rest
 [(0, F), (1000, Atom.cells b (chS x.c x.w) 28), (6010, y.G), (6030, Atom.emp),
 (6040, Atom.cells b_1 (chS x_3.c y.w) 28),
 (6050, Atom.cells b_2 (chS x_4.c y_1.w) 28), (9010, y_3.G), (10010, Atom.pred (Wp.rest y_4.fst y_4.snd))]
 []))
 x_10.w1.v x_10.c ∧
 ChIn
 (Atom.pred
 (rest
 [(0, F), (1000, Atom.cells b (chS x.c x.w) 28), (6010, y.G), (6030, Atom.emp),
 (6040, Atom.cells b_1 (chS x_3.c y.w) 28),
 (6050, Atom.cells b_2 (chS x_4.c y_1.w) 28), (9010, y_3.G), (10010, Atom.pred (Wp.rest y_4.fst y_4.snd))]
 []))
 x_10.w2.v x_10.c) ∧
 ∀ (y_7 : Unit),
 True →
 Done (copC fun (c : ChD) => newB c = true) x F (Ending.returned (bool true))
 [(0, F), (1000, Atom.cells b (chS x.c x.w) 28), (6010, y.G), (6030, Atom.emp),
 (6040, Atom.cells b_1 (chS x_3.c y.w) 28),
 (6050, Atom.cells b_2 (chS x_4.c y_1.w) 28), (9010, y_3.G), (10010, Atom.pred (Wp.rest y_4.fst y_4.snd))]) := by
  obtain ⟨c, w⟩ := x
  have hnew : newB c = true := hc
  replace hr : ChIn F w.v c := hr
  intro b1
  refine ⟨aw_ok, rfl, (), rfl, rfl, trivial, trivial, fun _ _ => ?_⟩
  repeat (first | refine ⟨⟨rfl, rfl⟩, ?_⟩ | refine ⟨rfl, ?_⟩)
  refine ⟨large_ok, rfl, ⟨c, w⟩, rfl, rfl, trivial, ChIn.sub (sub_rest 0 (by simp) rfl) hr, fun _ _ => br_intro (fun _ => ⟨(), trivial, rfl, Ent.pick [0] rfl rfl⟩) (fun _ => ?_)⟩
  repeat (first | refine ⟨⟨rfl, rfl⟩, ?_⟩ | refine ⟨rfl, ?_⟩)
  refine ⟨clone_ok, rfl, ⟨c, w⟩, rfl, rfl, trivial, ChIn.sub (sub_rest 0 (by simp) rfl) hr, fun u hu => ?_⟩
  replace hu : ChOw u.G u.w c := hu
  repeat (first | refine ⟨⟨rfl, rfl⟩, ?_⟩ | refine ⟨rfl, ?_⟩)
  refine ⟨clone_ok, rfl, ⟨c, w⟩, rfl, rfl, trivial, ChIn.sub (sub_rest 0 (by simp) rfl) hr, fun v hv b2 b3 => ?_⟩
  replace hv : ChOw v.G v.w c := hv
  repeat (first | refine ⟨⟨rfl, rfl⟩, ?_⟩ | refine ⟨rfl, ?_⟩)
  refine ⟨sm_ok, rfl, ⟨c, u.w, w⟩, rfl, rfl, trivial, ⟨ChIn.sub (sub_rest 6010 (by simp) rfl) hu.in, ChIn.sub (sub_rest 0 (by simp) rfl) hr⟩, fun _ _ => ?_⟩
  repeat (first | refine ⟨⟨rfl, rfl⟩, ?_⟩ | refine ⟨rfl, ?_⟩)
  refine ⟨newY_ok, rfl, ⟨c, v.w⟩, rfl, rfl, hnew, ChIn.sub (sub_rest 6030 (by simp) rfl) hv.in, fun z hz => ?_⟩
  replace hz : LatIn z.G z.b c := hz
  repeat (first | refine ⟨⟨rfl, rfl⟩, ?_⟩ | refine ⟨rfl, ?_⟩)
  refine ⟨spo_ok, rfl, ⟨v.G, c, v.w⟩, rfl, rfl, hv, trivial, fun g _ => ?_⟩
  repeat (first | refine ⟨⟨rfl, rfl⟩, ?_⟩ | refine ⟨rfl, ?_⟩)
  refine ⟨sm_ok, rfl, ⟨c, u.w, w⟩, rfl, rfl, trivial, ⟨ChIn.sub (sub_rest 6010 (by simp) rfl) hu.in, ChIn.sub (sub_rest 0 (by simp) rfl) hr⟩, fun _ _ => ?_⟩
  obtain ⟨w2, hw2, hch2⟩ := hz.chs
  repeat (first | refine ⟨⟨rfl, rfl⟩, ?_⟩ | refine ⟨rfl, ?_⟩)
  refine ⟨cht_ok, rfl, ⟨z.b, c, w2⟩, rfl, rfl, trivial, fun j u hj => Look.sub (A := z.G) (sub_rest 9010 (by simp) rfl) (hw2 j u hj), fun _ _ => ?_⟩
  repeat (first | refine ⟨⟨rfl, rfl⟩, ?_⟩ | refine ⟨rfl, ?_⟩)
  refine ⟨sm_ok, rfl, ⟨c, w2, w⟩, rfl, rfl, trivial, ⟨ChIn.sub (sub_rest 9010 (by simp) rfl) hch2, ChIn.sub (sub_rest 0 (by simp) rfl) hr⟩, fun _ _ => ?_⟩
  repeat (first | refine ⟨⟨rfl, rfl⟩, ?_⟩ | refine ⟨rfl, ?_⟩)
  exact ⟨(), trivial, rfl, Ent.pick [0] rfl rfl⟩
set_option maxRecDepth 100000 in
theorem cpY_ok : FnOk Try.prog 6 (copC fun c => newB c = true) :=
  fnOk (N := 39) (by kernel_rfl) Try.func6 rfl (by kernel_rfl) (fun _ => Nat.le_of_ble_eq_true rfl) cpY_H [] fun x F hc hr => Eq.mpr (by kernel_rfl) (cpY_vc x F hc hr)
noncomputable def cpN_H (x : Con.X (copC fun c => newB c = false)) (F : Atom) : Hints where
  op := hk ((cnOv x F) ++ [])
  inv := (fun _ _ _ => none) x F
  cut := (fun _ _ _ => none) x F
  ord := (fun _ => [])
open Go.Value (int slice string bool pointer agg tuple func) in
open Go.IntKind (i64) in
set_option maxRecDepth 100000 in
theorem cpN_vc (x : ClnCX) (F : Atom) (hc : Con.cond (copC fun c => newB c = false) x) (hr : Con.rdc (copC fun c => newB c = false) x F) :
  ∀ (b : Nat),
 FnOk Try.prog 9 awC ∧
 true = true ∧
 ∃ (x_1 : Unit),
 ([] : List Value) = [] ∧
 ([] : List Atom) = [] ∧
 True ∧
 True ∧
 ∀ (y : Unit),
 True →
 Same ⟨b, 0, none⟩ b ∧
 Same ⟨b, 1, none⟩ b ∧
 Same ⟨b, 2, none⟩ b ∧
 Same ⟨b, 3, none⟩ b ∧
 Same ⟨b, 4, none⟩ b ∧
 Same ⟨b, 5, none⟩ b ∧
 Same ⟨b, 6, none⟩ b ∧
 Same ⟨b, 7, none⟩ b ∧
 FnOk Try.prog 10 largeC ∧
 true = true ∧
 ∃ (x_2 : ClnCX),
 [agg { toList := (chS x.c x.w) }] = [agg { toList := (chS x_2.c x_2.w) }] ∧
 ([] : List Atom) = [] ∧
 True ∧
 ChIn (Atom.pred (rest [(0, F), (1000, Atom.cells b (chS x.c x.w) 28)] [])) x_2.w.v x_2.c ∧
 ∀ (y : Unit),
 True →
 Br (largeB x_2.c) (Done (copC fun (c : ChD) => newB c = false) x F (Ending.returned (bool true)) [(0, F), (1000, Atom.cells b (chS x.c x.w) 28)])
 (true = true ∧
 Same ⟨b, 0, none⟩ b ∧
 Same ⟨b, 1, none⟩ b ∧
 Same ⟨b, 2, none⟩ b ∧
 Same ⟨b, 3, none⟩ b ∧
 Same ⟨b, 4, none⟩ b ∧
 Same ⟨b, 5, none⟩ b ∧
 Same ⟨b, 6, none⟩ b ∧
 Same ⟨b, 7, none⟩ b ∧
 FnOk Try.prog 33 cloneC ∧
 true = true ∧
 ∃ (x_3 : ClnCX),
 [agg { toList := (chS x.c x.w) }] = [agg { toList := (chS x_3.c x_3.w) }] ∧
 ([] : List Atom) = [] ∧
 True ∧
 ChIn (Atom.pred (rest [(0, F), (1000, Atom.cells b (chS x.c x.w) 28)] [])) x_3.w.v x_3.c ∧
 ∀ (y : ClnCY),
 ChOw y.G y.w x_3.c →
 Same ⟨b, 0, none⟩ b ∧
 Same ⟨b, 1, none⟩ b ∧
 Same ⟨b, 2, none⟩ b ∧
 Same ⟨b, 3, none⟩ b ∧
 Same ⟨b, 4, none⟩ b ∧
 Same ⟨b, 5, none⟩ b ∧
 Same ⟨b, 6, none⟩ b ∧
 Same ⟨b, 7, none⟩ b ∧
 FnOk Try.prog 33 cloneC ∧
 true = true ∧
 ∃ (x_4 : ClnCX),
 [agg { toList := (chS x.c x.w) }] = [agg { toList := (chS x_4.c x_4.w) }] ∧
 ([] : List Atom) = [] ∧
 True ∧
 ChIn (Atom.pred (rest [(0, F), (1000, Atom.cells b (chS x.c x.w) 28), (6010, y.G)] [])) x_4.w.v x_4.c ∧
 ∀ (y_1 : ClnCY),
 ChOw y_1.G y_1.w x_4.c →
 ∀ (b_1 b_2 : Nat),
 Same ⟨b_1, 0, none⟩ b_1 ∧
 Same ⟨b_1, 1, none⟩ b_1 ∧
 Same ⟨b_1, 2, none⟩ b_1 ∧
 Same ⟨b_1, 3, none⟩ b_1 ∧
 Same ⟨b_1, 4, none⟩ b_1 ∧
 Same ⟨b_1, 5, none⟩ b_1 ∧
 Same ⟨b_1, 6, none⟩ b_1 ∧
 Same ⟨b_1, 7, none⟩ b_1 ∧
 Same ⟨b_2, 0, none⟩ b_2 ∧
 Same ⟨b_2, 1, none⟩ b_2 ∧
 Same ⟨b_2, 2, none⟩ b_2 ∧
 Same ⟨b_2, 3, none⟩ b_2 ∧
 Same ⟨b_2, 4, none⟩ b_2 ∧
 Same ⟨b_2, 5, none⟩ b_2 ∧
 Same ⟨b_2, 6, none⟩ b_2 ∧
 Same ⟨b_2, 7, none⟩ b_2 ∧
 Same ⟨b_1, 0, none⟩ b_1 ∧
 Same ⟨b_1, 1, none⟩ b_1 ∧
 Same ⟨b_1, 2, none⟩ b_1 ∧
 Same ⟨b_1, 3, none⟩ b_1 ∧
 Same ⟨b_1, 4, none⟩ b_1 ∧
 Same ⟨b_1, 5, none⟩ b_1 ∧
 Same ⟨b_1, 6, none⟩ b_1 ∧
 Same ⟨b_1, 7, none⟩ b_1 ∧
 Same ⟨b, 0, none⟩ b ∧
 Same ⟨b, 1, none⟩ b ∧
 Same ⟨b, 2, none⟩ b ∧
 Same ⟨b, 3, none⟩ b ∧
 Same ⟨b, 4, none⟩ b ∧
 Same ⟨b, 5, none⟩ b ∧
 Same ⟨b, 6, none⟩ b ∧
 Same ⟨b, 7, none⟩ b ∧
 FnOk Try.prog 13 smC ∧
 true = true ∧
 ∃ (x_5 : SmX),
 [agg { toList := (chS x_3.c y.w) }, agg { toList := (chS x.c x.w) }] =
 [agg { toList := (chS x_5.c x_5.w1) }, agg { toList := (chS x_5.c x_5.w2) }] ∧
 ([] : List Atom) = [] ∧
 True ∧
 (ChIn
 (Atom.pred
 (rest
 [(0, F), (1000, Atom.cells b (chS x.c x.w) 28), (6010, y.G), (6030, y_1.G), (6040, Atom.cells b_1 (chS x_3.c y.w) 28),
 (6050, Atom.cells b_2 (chS x_4.c y_1.w) 28)]
 []))
 x_5.w1.v x_5.c ∧
 ChIn
 (Atom.pred
 (rest
 [(0, F), (1000, Atom.cells b (chS x.c x.w) 28), (6010, y.G), (6030, y_1.G), (6040, Atom.cells b_1 (chS x_3.c y.w) 28),
 (6050, Atom.cells b_2 (chS x_4.c y_1.w) 28)]
 []))
 x_5.w2.v x_5.c) ∧
 ∀ (y_2 : Unit),
 True →
 Same ⟨b_2, 0, none⟩ b_2 ∧
 Same ⟨b_2, 1, none⟩ b_2 ∧
 Same ⟨b_2, 2, none⟩ b_2 ∧
 Same ⟨b_2, 3, none⟩ b_2 ∧
 Same ⟨b_2, 4, none⟩ b_2 ∧
 Same ⟨b_2, 5, none⟩ b_2 ∧
 Same ⟨b_2, 6, none⟩ b_2 ∧
 Same ⟨b_2, 7, none⟩ b_2 ∧
 FnOk Try.prog 11 newNC ∧
 true = true ∧
 ∃ (x_6 : ClnCX),
 [agg { toList := (chS x_4.c y_1.w) }] = [agg { toList := (chS x_6.c x_6.w) }] ∧
 ([] : List Atom) = [] ∧
 newB x_6.c = false ∧
 ChIn
 (Atom.pred
 (rest
 [(0, F), (1000, Atom.cells b (chS x.c x.w) 28), (6010, y.G), (6030, y_1.G), (6040, Atom.cells b_1 (chS x_3.c y.w) 28),
 (6050, Atom.cells b_2 (chS x_4.c y_1.w) 28)]
 []))
 x_6.w.v x_6.c ∧
 ∀ (y_3 : Unit),
 True →
 Same ⟨b_2, 0, none⟩ b_2 ∧
 Same ⟨b_2, 1, none⟩ b_2 ∧
 Same ⟨b_2, 2, none⟩ b_2 ∧
 Same ⟨b_2, 3, none⟩ b_2 ∧
 Same ⟨b_2, 4, none⟩ b_2 ∧
 Same ⟨b_2, 5, none⟩ b_2 ∧
 Same ⟨b_2, 6, none⟩ b_2 ∧
 Same ⟨b_2, 7, none⟩ b_2 ∧
 FnOk Try.prog 34 spoC ∧
 true = true ∧
 ∃ (x_7 : SpoX),
 [agg { toList := (chS x_4.c y_1.w) }] = [agg { toList := (chS x_7.c x_7.w) }] ∧
 [y_1.G] = [x_7.G] ∧
 ChOw x_7.G x_7.w x_7.c ∧
 True ∧
 ∀ (y_4 : Sig × Kn),
 True →
 true = true ∧
 Same ⟨b_1, 0, none⟩ b_1 ∧
 Same ⟨b_1, 1, none⟩ b_1 ∧
 Same ⟨b_1, 2, none⟩ b_1 ∧
 Same ⟨b_1, 3, none⟩ b_1 ∧
 Same ⟨b_1, 4, none⟩ b_1 ∧
 Same ⟨b_1, 5, none⟩ b_1 ∧
 Same ⟨b_1, 6, none⟩ b_1 ∧
 Same ⟨b_1, 7, none⟩ b_1 ∧
 Same ⟨b, 0, none⟩ b ∧
 Same ⟨b, 1, none⟩ b ∧
 Same ⟨b, 2, none⟩ b ∧
 Same ⟨b, 3, none⟩ b ∧
 Same ⟨b, 4, none⟩ b ∧
 Same ⟨b, 5, none⟩ b ∧
 Same ⟨b, 6, none⟩ b ∧
 Same ⟨b, 7, none⟩ b ∧
 FnOk Try.prog 13 smC ∧
 true = true ∧
 ∃ (x_8 : SmX),
 [agg { toList := (chS x_3.c y.w) }, agg { toList := (chS x.c x.w) }] =
 [agg { toList := (chS x_8.c x_8.w1) },
 agg { toList := (chS x_8.c x_8.w2) }] ∧
 ([] : List Atom) = [] ∧
 True ∧
 (ChIn
 (Atom.pred
 (rest
 [(0, F), (1000, Atom.cells b (chS x.c x.w) 28), (6010, y.G), (6030, Atom.emp),
 (6040, Atom.cells b_1 (chS x_3.c y.w) 28),
 (6050, Atom.cells b_2 (chS x_4.c y_1.w) 28), (10010, Atom.pred (Wp.rest y_4.fst y_4.snd))]
 []))
 x_8.w1.v x_8.c ∧
 ChIn
 (Atom.pred
 (rest
 [(0, F), (1000, Atom.cells b (chS x.c x.w) 28), (6010, y.G), (6030, Atom.emp),
 (6040, Atom.cells b_1 (chS x_3.c y.w) 28),
 (6050, Atom.cells b_2 (chS x_4.c y_1.w) 28), (10010, Atom.pred (Wp.rest y_4.fst y_4.snd))]
 []))
 x_8.w2.v x_8.c) ∧
 ∀ (y_5 : Unit),
 True →
 Done (copC fun (c : ChD) => newB c = false) x F (Ending.returned (bool true))
 [(0, F), (1000, Atom.cells b (chS x.c x.w) 28), (6010, y.G), (6030, Atom.emp),
 (6040, Atom.cells b_1 (chS x_3.c y.w) 28),
 (6050, Atom.cells b_2 (chS x_4.c y_1.w) 28), (10010, Atom.pred (Wp.rest y_4.fst y_4.snd))]) := by
  obtain ⟨c, w⟩ := x
  have hnew : newB c = false := hc
  replace hr : ChIn F w.v c := hr
  intro b1
  refine ⟨aw_ok, rfl, (), rfl, rfl, trivial, trivial, fun _ _ => ?_⟩
  repeat (first | refine ⟨⟨rfl, rfl⟩, ?_⟩ | refine ⟨rfl, ?_⟩)
  refine ⟨large_ok, rfl, ⟨c, w⟩, rfl, rfl, trivial, ChIn.sub (sub_rest 0 (by simp) rfl) hr, fun _ _ => br_intro (fun _ => ⟨(), trivial, rfl, Ent.pick [0] rfl rfl⟩) (fun _ => ?_)⟩
  repeat (first | refine ⟨⟨rfl, rfl⟩, ?_⟩ | refine ⟨rfl, ?_⟩)
  refine ⟨clone_ok, rfl, ⟨c, w⟩, rfl, rfl, trivial, ChIn.sub (sub_rest 0 (by simp) rfl) hr, fun u hu => ?_⟩
  replace hu : ChOw u.G u.w c := hu
  repeat (first | refine ⟨⟨rfl, rfl⟩, ?_⟩ | refine ⟨rfl, ?_⟩)
  refine ⟨clone_ok, rfl, ⟨c, w⟩, rfl, rfl, trivial, ChIn.sub (sub_rest 0 (by simp) rfl) hr, fun v hv b2 b3 => ?_⟩
  replace hv : ChOw v.G v.w c := hv
  repeat (first | refine ⟨⟨rfl, rfl⟩, ?_⟩ | refine ⟨rfl, ?_⟩)
  refine ⟨sm_ok, rfl, ⟨c, u.w, w⟩, rfl, rfl, trivial, ⟨ChIn.sub (sub_rest 6010 (by simp) rfl) hu.in, ChIn.sub (sub_rest 0 (by simp) rfl) hr⟩, fun _ _ => ?_⟩
  repeat (first | refine ⟨⟨rfl, rfl⟩, ?_⟩ | refine ⟨rfl, ?_⟩)
  refine ⟨newN_ok, rfl, ⟨c, v.w⟩, rfl, rfl, hnew, ChIn.sub (sub_rest 6030 (by simp) rfl) hv.in, fun _ _ => ?_⟩
  repeat (first | refine ⟨⟨rfl, rfl⟩, ?_⟩ | refine ⟨rfl, ?_⟩)
  refine ⟨spo_ok, rfl, ⟨v.G, c, v.w⟩, rfl, rfl, hv, trivial, fun g _ => ?_⟩
  repeat (first | refine ⟨⟨rfl, rfl⟩, ?_⟩ | refine ⟨rfl, ?_⟩)
  refine ⟨sm_ok, rfl, ⟨c, u.w, w⟩, rfl, rfl, trivial, ⟨ChIn.sub (sub_rest 6010 (by simp) rfl) hu.in, ChIn.sub (sub_rest 0 (by simp) rfl) hr⟩, fun _ _ => ?_⟩
  repeat (first | refine ⟨⟨rfl, rfl⟩, ?_⟩ | refine ⟨rfl, ?_⟩)
  exact ⟨(), trivial, rfl, Ent.pick [0] rfl rfl⟩
set_option maxRecDepth 100000 in
theorem cpN_ok : FnOk Try.prog 6 (copC fun c => newB c = false) :=
  fnOk (N := 39) (by kernel_rfl) Try.func6 rfl (by kernel_rfl) (fun _ => Nat.le_of_ble_eq_true rfl) cpN_H [] fun x F hc hr => Eq.mpr (by kernel_rfl) (cpN_vc x F hc hr)
theorem cpAll_ok : FnOk Try.prog 6 (copC fun _ => True) := cop_split cpY_ok cpN_ok
end Go.Proofs.Ytfmadkaiigiaiaa
