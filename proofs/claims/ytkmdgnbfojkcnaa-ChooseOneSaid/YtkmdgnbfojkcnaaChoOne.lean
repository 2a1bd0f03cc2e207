/- The law ChooseOne. -/
import Derived.Test.YtkmdgnbfojkcnaaChoW
import Derived.Test.YtkmdgnbfojkcnaaChoR
set_option linter.all false
namespace Go.Proofs.Ytkmdgnbfojkcnaa
open Go
set_option maxHeartbeats 1000000
theorem res_one (c : ChD) (mem : List (List Int)) (cf : List Int) (t : Int) : resV c mem cf [t, t, -1, t] = bif isT c t then [t] else [] := by
  have hm : isT c (-1) = false := rfl
  have h1 : memB [] t = false := rfl
  have h2 : memB [t] t = true := by unfold memB; simp
  unfold resV resS
  cases hT : isT c t with
  | true =>
    have e1 : rsS c mem cf ([], []) t = ([t], [t]) := by unfold rsS; rw [hT]; rfl
    have e2 : rsS c mem cf ([t], [t]) t = ([t], [t]) := by unfold rsS; dsimp only; rw [h2]; rfl
    have e3 : rsS c mem cf ([t], [t]) (-1) = ([t], [t]) := by unfold rsS; rw [hm, Bool.not_false, Bool.or_true]; rfl
    simp only [List.foldl_cons, List.foldl_nil, e1, e2, e3]
    rfl
  | false =>
    have e1 : rsS c mem cf ([], []) t = ([], []) := by unfold rsS; rw [hT]; rfl
    have e3 : rsS c mem cf ([], []) (-1) = ([], []) := rfl
    simp only [List.foldl_cons, List.foldl_nil, e1, e3]
    rfl
def oneC (Q : ChD → Prop) : Con where
  X := MvX × Int
  Y := Unit
  args x := [chAgg x.1.c x.1.w, moAgg x.1, .int .i64 x.2]
  pre _ := []
  cond x := Q x.1.c ∧ MvOk x.1
  rdc x F := MvIn F x.1
  rel _ _ := True
  val _ _ := .returned (.bool true)
  post _ _ := []
  rmono _ _ _ h hk := hk.sub h
def onNOv (_x : MvX × Int) (_F : Atom) : List (Nat × Nat × OH) := [(0, 0, .n 1000), (0, 1, .n 1010), (1, 0, .c awC [] []), (3, 0, .q (at8 1000)), (3, 1, .q (at6 1010)), (3, 2, .c lgeC [] []), (5, 0, .q (at8 1000)), (5, 1, .c newNC [] [])]
noncomputable def onN_H (x : Con.X (oneC fun c => newB c = false)) (F : Atom) : Hints where
  op := hk ((onNOv x F) ++ [])
  inv := (fun _ _ _ => none) x F
  cut := (fun _ _ _ => none) x F
  ord := (fun _ => [])
open Go.Value (int slice string bool pointer agg tuple func) in
open Go.IntKind (i64) in
set_option maxRecDepth 100000 in
theorem onN_vc (x : MvX × Int) (F : Atom) (hc : Con.cond (oneC fun c => newB c = false) x) (hr : Con.rdc (oneC fun c => newB c = false) x F) :
  ∀ (b b_1 : Nat),
 FnOk Try.prog 38 awC ∧
 true = true ∧
 ∃ (x_1 : Unit),
 ([] : List Value) = [] ∧
 ([] : List Atom) = [] ∧
 True ∧
 True ∧
 ∀ (y : Unit),
 True →
 Same ⟨b, 0, none⟩ b ∧
 Same ⟨b, 1, none⟩ b ∧
 Same ⟨b, 2, none⟩ b ∧
 Same ⟨b, 3, none⟩ b ∧
 Same ⟨b, 4, none⟩ b ∧
 Same ⟨b, 5, none⟩ b ∧
 Same ⟨b, 6, none⟩ b ∧
 Same ⟨b, 7, none⟩ b ∧
 Same ⟨b_1, 0, none⟩ b_1 ∧
 Same ⟨b_1, 1, none⟩ b_1 ∧
 Same ⟨b_1, 2, none⟩ b_1 ∧
 Same ⟨b_1, 3, none⟩ b_1 ∧
 Same ⟨b_1, 4, none⟩ b_1 ∧
 Same ⟨b_1, 5, none⟩ b_1 ∧
 FnOk Try.prog 41 lgeC ∧
 true = true ∧
 ∃ (x_2 : MvX),
 [agg { toList := (chS x.fst.c x.fst.w) }, agg { toList := [slice x.fst.g.a x.fst.g.n x.fst.g.cap, slice x.fst.s.a x.fst.s.n x.fst.s.cap, slice x.fst.m.a x.fst.m.n x.fst.m.cap, string x.fst.name, bool x.fst.ev, slice x.fst.hs.a x.fst.hs.n x.fst.hs.cap] }] =
 [agg { toList := (chS x_2.c x_2.w) }, agg { toList := [slice x_2.g.a x_2.g.n x_2.g.cap, slice x_2.s.a x_2.s.n x_2.s.cap, slice x_2.m.a x_2.m.n x_2.m.cap, string x_2.name, bool x_2.ev, slice x_2.hs.a x_2.hs.n x_2.hs.cap] }] ∧
 ([] : List Atom) = [] ∧
 True ∧
 MvIn (Atom.pred (rest [(0, F), (1000, Atom.cells b (chS x.fst.c x.fst.w) 28), (1010, Atom.cells b_1 [slice x.fst.g.a x.fst.g.n x.fst.g.cap, slice x.fst.s.a x.fst.s.n x.fst.s.cap, slice x.fst.m.a x.fst.m.n x.fst.m.cap, string x.fst.name, bool x.fst.ev, slice x.fst.hs.a x.fst.hs.n x.fst.hs.cap] 68)] [])) x_2 ∧
 ∀ (y : Bool),
 True →
 Br y (Done (oneC fun (c : ChD) => newB c = false) x F (Ending.returned (bool true)) [(0, F), (1000, Atom.cells b (chS x.fst.c x.fst.w) 28), (1010, Atom.cells b_1 [slice x.fst.g.a x.fst.g.n x.fst.g.cap, slice x.fst.s.a x.fst.s.n x.fst.s.cap, slice x.fst.m.a x.fst.m.n x.fst.m.cap, string x.fst.name, bool x.fst.ev, slice x.fst.hs.a x.fst.hs.n x.fst.hs.cap] 68)])
 (Same ⟨b, 0, none⟩ b ∧
 Same ⟨b, 1, none⟩ b ∧
 Same ⟨b, 2, none⟩ b ∧
 Same ⟨b, 3, none⟩ b ∧
 Same ⟨b, 4, none⟩ b ∧
 Same ⟨b, 5, none⟩ b ∧
 Same ⟨b, 6, none⟩ b ∧
 Same ⟨b, 7, none⟩ b ∧
 FnOk Try.prog 14 newNC ∧
 true = true ∧
 ∃ (x_3 : ClnCX),
 [agg { toList := (chS x.fst.c x.fst.w) }] = [agg { toList := (chS x_3.c x_3.w) }] ∧
 ([] : List Atom) = [] ∧
 newB x_3.c = false ∧
 ChIn (Atom.pred (rest [(0, F), (1000, Atom.cells b (chS x.fst.c x.fst.w) 28), (1010, Atom.cells b_1 [slice x.fst.g.a x.fst.g.n x.fst.g.cap, slice x.fst.s.a x.fst.s.n x.fst.s.cap, slice x.fst.m.a x.fst.m.n x.fst.m.cap, string x.fst.name, bool x.fst.ev, slice x.fst.hs.a x.fst.hs.n x.fst.hs.cap] 68)] [])) x_3.w.v x_3.c ∧
 ∀ (y : Unit), True → Done (oneC fun (c : ChD) => newB c = false) x F (Ending.returned (bool true)) [(0, F), (1000, Atom.cells b (chS x.fst.c x.fst.w) 28), (1010, Atom.cells b_1 [slice x.fst.g.a x.fst.g.n x.fst.g.cap, slice x.fst.s.a x.fst.s.n x.fst.s.cap, slice x.fst.m.a x.fst.m.n x.fst.m.cap, string x.fst.name, bool x.fst.ev, slice x.fst.hs.a x.fst.hs.n x.fst.hs.cap] 68)]) := by
  obtain ⟨hnew, -⟩ := hc
  replace hr : MvIn F x.1 := hr
  intro b b3
  refine ⟨aw15_ok, rfl, (), rfl, rfl, trivial, trivial, fun _ _ => ?_⟩
  iterate 14 refine ⟨⟨rfl, rfl⟩, ?_⟩
  refine ⟨lge_ok, rfl, x.1, rfl, rfl, trivial, hr.sub (sub_rest 0 (by simp) rfl), fun y _ => br_intro (fun _ => ⟨(), trivial, rfl, Ent.pick [0] rfl rfl⟩) (fun _ => ?_)⟩
  iterate 8 refine ⟨⟨rfl, rfl⟩, ?_⟩
  exact ⟨newN_ok, rfl, ⟨x.1.c, x.1.w⟩, rfl, rfl, hnew, hr.ch.sub (sub_rest 0 (by simp) rfl), fun _ _ => ⟨(), trivial, rfl, Ent.pick [0] rfl rfl⟩⟩
set_option maxRecDepth 100000 in
theorem onN_ok : FnOk Try.prog 9 (oneC fun c => newB c = false) :=
  fnOk (N := 55) (by kernel_rfl) Try.func9 rfl (by kernel_rfl) (fun _ => Nat.le_of_ble_eq_true rfl) onN_H [] fun x F hc hr => Eq.mpr (by kernel_rfl) (onN_vc x F hc hr)
structure OnI where
  b : Nat
  b3 : Nat
  lb : Nat
  G : Atom
  r : Row
def onCut (x : MvX × Int) (F : Atom) : Nat → Option Inv := fun
  | 11 => some { X := OnI, P := fun i => LatIn i.G i.lb x.1.c ∧ IsRow 3 1 (ints (bif isT x.1.c x.2 then [x.2] else [])) i.r, mu := fun _ => 0, lv := fun i => [(2, .int .i64 x.2), (4, .pointer (some ⟨i.b3, 0, none⟩)), (7, .pointer (some ⟨i.lb, 0, none⟩)), (9, .slice i.r.a i.r.n i.r.cap)], st := fun i => [.cells i.b (chS x.1.c x.1.w) 28, .cells i.b3 (moS x.1) 68, i.G, i.r.A, F] }
  | _ => none
def onOv (_x : MvX × Int) (_F : Atom) : List (Nat × Nat × OH) := [(0, 0, .n 1000), (0, 1, .n 1010), (1, 0, .c awC [] []), (3, 0, .q (at8 1000)), (3, 1, .q (at6 1010)), (3, 2, .c lgeC [] []), (5, 0, .q (at8 1000)), (5, 1, .c newYC [] [6010]), (9, 5, .q [.atj 1000]), (10, 1, .n 11010), (11, 2, .q [.atj 1]), (11, 4, .q [.atj 1]), (11, 8, .n 12080), (11, 9, .c resC [] [12090]), (11, 11, .c siC [] []), (11, 15, .q [.atj 1]), (11, 17, .q [.atj 1]), (11, 18, .c resC [] [12180])]
noncomputable def onY_H (x : Con.X (oneC fun c => newB c = true)) (F : Atom) : Hints where
  op := hk ((onOv x F) ++ [])
  inv := (fun _ _ _ => none) x F
  cut := onCut x F
  ord := (fun _ => [])
open Go.Value (int slice string bool pointer agg tuple func) in
open Go.IntKind (i64) in
set_option maxRecDepth 100000 in
theorem onY_vc (x : MvX × Int) (F : Atom) (hc : Con.cond (oneC fun c => newB c = true) x) (hr : Con.rdc (oneC fun c => newB c = true) x F) :
  ∀ (b b_1 : Nat),
 FnOk Try.prog 38 awC ∧
 true = true ∧
 ∃ (x_1 : Unit),
 ([] : List Value) = [] ∧
 ([] : List Atom) = [] ∧
 True ∧
 True ∧
 ∀ (y : Unit),
 True →
 Same ⟨b, 0, none⟩ b ∧
 Same ⟨b, 1, none⟩ b ∧
 Same ⟨b, 2, none⟩ b ∧
 Same ⟨b, 3, none⟩ b ∧
 Same ⟨b, 4, none⟩ b ∧
 Same ⟨b, 5, none⟩ b ∧
 Same ⟨b, 6, none⟩ b ∧
 Same ⟨b, 7, none⟩ b ∧
 Same ⟨b_1, 0, none⟩ b_1 ∧
 Same ⟨b_1, 1, none⟩ b_1 ∧
 Same ⟨b_1, 2, none⟩ b_1 ∧
 Same ⟨b_1, 3, none⟩ b_1 ∧
 Same ⟨b_1, 4, none⟩ b_1 ∧
 Same ⟨b_1, 5, none⟩ b_1 ∧
 FnOk Try.prog 41 lgeC ∧
 true = true ∧
 ∃ (x_2 : MvX),
 [agg { toList := (chS x.fst.c x.fst.w) }, agg { toList := [slice x.fst.g.a x.fst.g.n x.fst.g.cap, slice x.fst.s.a x.fst.s.n x.fst.s.cap, slice x.fst.m.a x.fst.m.n x.fst.m.cap, string x.fst.name, bool x.fst.ev, slice x.fst.hs.a x.fst.hs.n x.fst.hs.cap] }] =
 [agg { toList := (chS x_2.c x_2.w) }, agg { toList := [slice x_2.g.a x_2.g.n x_2.g.cap, slice x_2.s.a x_2.s.n x_2.s.cap, slice x_2.m.a x_2.m.n x_2.m.cap, string x_2.name, bool x_2.ev, slice x_2.hs.a x_2.hs.n x_2.hs.cap] }] ∧
 ([] : List Atom) = [] ∧
 True ∧
 MvIn (Atom.pred (rest [(0, F), (1000, Atom.cells b (chS x.fst.c x.fst.w) 28), (1010, Atom.cells b_1 [slice x.fst.g.a x.fst.g.n x.fst.g.cap, slice x.fst.s.a x.fst.s.n x.fst.s.cap, slice x.fst.m.a x.fst.m.n x.fst.m.cap, string x.fst.name, bool x.fst.ev, slice x.fst.hs.a x.fst.hs.n x.fst.hs.cap] 68)] [])) x_2 ∧
 ∀ (y : Bool),
 True →
 Br y (Done (oneC fun (c : ChD) => newB c = true) x F (Ending.returned (bool true)) [(0, F), (1000, Atom.cells b (chS x.fst.c x.fst.w) 28), (1010, Atom.cells b_1 [slice x.fst.g.a x.fst.g.n x.fst.g.cap, slice x.fst.s.a x.fst.s.n x.fst.s.cap, slice x.fst.m.a x.fst.m.n x.fst.m.cap, string x.fst.name, bool x.fst.ev, slice x.fst.hs.a x.fst.hs.n x.fst.hs.cap] 68)])
 (Same ⟨b, 0, none⟩ b ∧
 Same ⟨b, 1, none⟩ b ∧
 Same ⟨b, 2, none⟩ b ∧
 Same ⟨b, 3, none⟩ b ∧
 Same ⟨b, 4, none⟩ b ∧
 Same ⟨b, 5, none⟩ b ∧
 Same ⟨b, 6, none⟩ b ∧
 Same ⟨b, 7, none⟩ b ∧
 FnOk Try.prog 14 newYC ∧
 true = true ∧
 ∃ (x_3 : ClnCX),
 [agg { toList := (chS x.fst.c x.fst.w) }] = [agg { toList := (chS x_3.c x_3.w) }] ∧
 ([] : List Atom) = [] ∧
 newB x_3.c = true ∧
 ChIn (Atom.pred (rest [(0, F), (1000, Atom.cells b (chS x.fst.c x.fst.w) 28), (1010, Atom.cells b_1 [slice x.fst.g.a x.fst.g.n x.fst.g.cap, slice x.fst.s.a x.fst.s.n x.fst.s.cap, slice x.fst.m.a x.fst.m.n x.fst.m.cap, string x.fst.name, bool x.fst.ev, slice x.fst.hs.a x.fst.hs.n x.fst.hs.cap] 68)] [])) x_3.w.v x_3.c ∧
 ∀ (y : NewY),
 LatIn y.G y.b x_3.c →
 Br (decide (x.snd ≥ (0 : Int)))
 (Same ⟨b, 4, none⟩ b ∧
 Br (decide (x.snd < (↑x.fst.w.vt.n : Int)))
 (∀ (b_2 : Nat),
 ∃ (x_4 : OnI),
 (LatIn x_4.G x_4.lb x.fst.c ∧ IsRow 3 1 (ints (bif isT x.fst.c x.snd then [x.snd] else [])) x_4.r) ∧
 (int i64 x.snd = int i64 x.snd ∧ pointer (some ⟨b_1, 0, none⟩) = pointer (some ⟨x_4.b3, 0, none⟩) ∧ pointer (some ⟨y.b, 0, none⟩) = pointer (some ⟨x_4.lb, 0, none⟩) ∧ slice (some ⟨b_2, 0, none⟩) 1 1 = slice x_4.r.a x_4.r.n x_4.r.cap ∧ True) ∧
 Ent [(0, F), (1000, Atom.cells b (chS x.fst.c x.fst.w) 28), (1010, Atom.cells b_1 [slice x.fst.g.a x.fst.g.n x.fst.g.cap, slice x.fst.s.a x.fst.s.n x.fst.s.cap, slice x.fst.m.a x.fst.m.n x.fst.m.cap, string x.fst.name, bool x.fst.ev, slice x.fst.hs.a x.fst.hs.n x.fst.hs.cap] 68), (6010, y.G), (11010, Atom.cells b_2 [int i64 x.snd] 3)]
 [(0, Atom.cells x_4.b (chS x.fst.c x.fst.w) 28), (1, Atom.cells x_4.b3 [slice x.fst.g.a x.fst.g.n x.fst.g.cap, slice x.fst.s.a x.fst.s.n x.fst.s.cap, slice x.fst.m.a x.fst.m.n x.fst.m.cap, string x.fst.name, bool x.fst.ev, slice x.fst.hs.a x.fst.hs.n x.fst.hs.cap] 68), (2, x_4.G), (3, x_4.r.A), (4, F)])
 (∃ (x_4 : OnI),
 (LatIn x_4.G x_4.lb x.fst.c ∧ IsRow 3 1 (ints (bif isT x.fst.c x.snd then [x.snd] else [])) x_4.r) ∧
 (int i64 x.snd = int i64 x.snd ∧ pointer (some ⟨b_1, 0, none⟩) = pointer (some ⟨x_4.b3, 0, none⟩) ∧ pointer (some ⟨y.b, 0, none⟩) = pointer (some ⟨x_4.lb, 0, none⟩) ∧ slice none 0 0 = slice x_4.r.a x_4.r.n x_4.r.cap ∧ True) ∧
 Ent [(0, F), (1000, Atom.cells b (chS x.fst.c x.fst.w) 28), (1010, Atom.cells b_1 [slice x.fst.g.a x.fst.g.n x.fst.g.cap, slice x.fst.s.a x.fst.s.n x.fst.s.cap, slice x.fst.m.a x.fst.m.n x.fst.m.cap, string x.fst.name, bool x.fst.ev, slice x.fst.hs.a x.fst.hs.n x.fst.hs.cap] 68), (6010, y.G)]
 [(0, Atom.cells x_4.b (chS x.fst.c x.fst.w) 28), (1, Atom.cells x_4.b3 [slice x.fst.g.a x.fst.g.n x.fst.g.cap, slice x.fst.s.a x.fst.s.n x.fst.s.cap, slice x.fst.m.a x.fst.m.n x.fst.m.cap, string x.fst.name, bool x.fst.ev, slice x.fst.hs.a x.fst.hs.n x.fst.hs.cap] 68), (2, x_4.G), (3, x_4.r.A), (4, F)]))
 (∃ (x_4 : OnI),
 (LatIn x_4.G x_4.lb x.fst.c ∧ IsRow 3 1 (ints (bif isT x.fst.c x.snd then [x.snd] else [])) x_4.r) ∧
 (int i64 x.snd = int i64 x.snd ∧ pointer (some ⟨b_1, 0, none⟩) = pointer (some ⟨x_4.b3, 0, none⟩) ∧ pointer (some ⟨y.b, 0, none⟩) = pointer (some ⟨x_4.lb, 0, none⟩) ∧ slice none 0 0 = slice x_4.r.a x_4.r.n x_4.r.cap ∧ True) ∧
 Ent [(0, F), (1000, Atom.cells b (chS x.fst.c x.fst.w) 28), (1010, Atom.cells b_1 [slice x.fst.g.a x.fst.g.n x.fst.g.cap, slice x.fst.s.a x.fst.s.n x.fst.s.cap, slice x.fst.m.a x.fst.m.n x.fst.m.cap, string x.fst.name, bool x.fst.ev, slice x.fst.hs.a x.fst.hs.n x.fst.hs.cap] 68), (6010, y.G)]
 [(0, Atom.cells x_4.b (chS x.fst.c x.fst.w) 28), (1, Atom.cells x_4.b3 [slice x.fst.g.a x.fst.g.n x.fst.g.cap, slice x.fst.s.a x.fst.s.n x.fst.s.cap, slice x.fst.m.a x.fst.m.n x.fst.m.cap, string x.fst.name, bool x.fst.ev, slice x.fst.hs.a x.fst.hs.n x.fst.hs.cap] 68), (2, x_4.G), (3, x_4.r.A), (4, F)]) ∧
 ∀ (x_4 : OnI) (js : Nat → Value),
 LatIn x_4.G x_4.lb x.fst.c ∧ IsRow 3 1 (ints (bif isT x.fst.c x.snd then [x.snd] else [])) x_4.r →
 Same ⟨x_4.b3, 0, none⟩ x_4.b3 ∧
 Same ⟨x_4.b3, 2, none⟩ x_4.b3 ∧
 ∀ (b : Nat),
 FnOk Try.prog 42 resC ∧
 true = true ∧
 ∃ (x_5 : ExX),
 [pointer (some ⟨x_4.lb, 0, none⟩), slice x.fst.g.a x.fst.g.n x.fst.g.cap, slice x.fst.m.a x.fst.m.n x.fst.m.cap, slice (some ⟨b, 0, none⟩) 4 4] = [pointer (some ⟨x_5.b, 0, none⟩), slice x_5.g.a x_5.g.n x_5.g.cap, slice x_5.m.a x_5.m.n x_5.m.cap, slice x_5.s.a x_5.s.n x_5.s.cap] ∧
 ([] : List Atom) = [] ∧
 (newB x_5.c = true ∧ (IsSrc 1 (ints x_5.cf) x_5.g.a x_5.g.n ∧ x_5.g.n * 8 ≤ 140737488351232) ∧ IsSrc 1 (ints x_5.ts) x_5.s.a x_5.s.n ∧ x_5.s.n * 8 ≤ 140737488351232) ∧
 (LatIn
 (Atom.pred
 (rest
 [(0, Atom.cells x_4.b (chS x.fst.c x.fst.w) 28), (1, Atom.cells x_4.b3 [slice x.fst.g.a x.fst.g.n x.fst.g.cap, slice x.fst.s.a x.fst.s.n x.fst.s.cap, slice x.fst.m.a x.fst.m.n x.fst.m.cap, string x.fst.name, bool x.fst.ev, slice x.fst.hs.a x.fst.hs.n x.fst.hs.cap] 68), (2, x_4.G), (3, x_4.r.A), (4, F),
 (12080, Atom.cells b [int i64 x.snd, int i64 x.snd, int i64 (-1 : Int), int i64 x.snd] 3)]
 []))
 x_5.b x_5.c ∧
 Srcd
 (Atom.pred
 (rest
 [(0, Atom.cells x_4.b (chS x.fst.c x.fst.w) 28), (1, Atom.cells x_4.b3 [slice x.fst.g.a x.fst.g.n x.fst.g.cap, slice x.fst.s.a x.fst.s.n x.fst.s.cap, slice x.fst.m.a x.fst.m.n x.fst.m.cap, string x.fst.name, bool x.fst.ev, slice x.fst.hs.a x.fst.hs.n x.fst.hs.cap] 68), (2, x_4.G), (3, x_4.r.A), (4, F),
 (12080, Atom.cells b [int i64 x.snd, int i64 x.snd, int i64 (-1 : Int), int i64 x.snd] 3)]
 []))
 x_5.g.a (ints x_5.cf) ∧
 MemIn
 (Atom.pred
 (rest
 [(0, Atom.cells x_4.b (chS x.fst.c x.fst.w) 28), (1, Atom.cells x_4.b3 [slice x.fst.g.a x.fst.g.n x.fst.g.cap, slice x.fst.s.a x.fst.s.n x.fst.s.cap, slice x.fst.m.a x.fst.m.n x.fst.m.cap, string x.fst.name, bool x.fst.ev, slice x.fst.hs.a x.fst.hs.n x.fst.hs.cap] 68), (2, x_4.G), (3, x_4.r.A), (4, F),
 (12080, Atom.cells b [int i64 x.snd, int i64 x.snd, int i64 (-1 : Int), int i64 x.snd] 3)]
 []))
 (slice x_5.m.a x_5.m.n x_5.m.cap) x_5.mem ∧
 Srcd
 (Atom.pred
 (rest
 [(0, Atom.cells x_4.b (chS x.fst.c x.fst.w) 28), (1, Atom.cells x_4.b3 [slice x.fst.g.a x.fst.g.n x.fst.g.cap, slice x.fst.s.a x.fst.s.n x.fst.s.cap, slice x.fst.m.a x.fst.m.n x.fst.m.cap, string x.fst.name, bool x.fst.ev, slice x.fst.hs.a x.fst.hs.n x.fst.hs.cap] 68), (2, x_4.G), (3, x_4.r.A), (4, F),
 (12080, Atom.cells b [int i64 x.snd, int i64 x.snd, int i64 (-1 : Int), int i64 x.snd] 3)]
 []))
 x_5.s.a (ints x_5.ts)) ∧
 ∀ (y : Row),
 IsRow 3 1 (ints (resV x_5.c x_5.mem x_5.cf x_5.ts)) y →
 FnOk Try.prog 30 siC ∧
 true = true ∧
 ∃ (x_6 : SiX),
 [slice y.a y.n y.cap, slice x_4.r.a x_4.r.n x_4.r.cap] = [slice x_6.s1.a x_6.s1.n x_6.s1.cap, slice x_6.s2.a x_6.s2.n x_6.s2.cap] ∧
 ([] : List Atom) = [] ∧
 True ∧
 (IntsIn
 (Atom.pred
 (rest
 [(0, Atom.cells x_4.b (chS x.fst.c x.fst.w) 28), (1, Atom.cells x_4.b3 [slice x.fst.g.a x.fst.g.n x.fst.g.cap, slice x.fst.s.a x.fst.s.n x.fst.s.cap, slice x.fst.m.a x.fst.m.n x.fst.m.cap, string x.fst.name, bool x.fst.ev, slice x.fst.hs.a x.fst.hs.n x.fst.hs.cap] 68), (2, x_4.G), (3, x_4.r.A), (4, F),
 (12080, Atom.cells b [int i64 x.snd, int i64 x.snd, int i64 (-1 : Int), int i64 x.snd] 3), (12090, y.A)]
 []))
 (slice x_6.s1.a x_6.s1.n x_6.s1.cap) x_6.xs ∧
 IntsIn
 (Atom.pred
 (rest
 [(0, Atom.cells x_4.b (chS x.fst.c x.fst.w) 28), (1, Atom.cells x_4.b3 [slice x.fst.g.a x.fst.g.n x.fst.g.cap, slice x.fst.s.a x.fst.s.n x.fst.s.cap, slice x.fst.m.a x.fst.m.n x.fst.m.cap, string x.fst.name, bool x.fst.ev, slice x.fst.hs.a x.fst.hs.n x.fst.hs.cap] 68), (2, x_4.G), (3, x_4.r.A), (4, F),
 (12080, Atom.cells b [int i64 x.snd, int i64 x.snd, int i64 (-1 : Int), int i64 x.snd] 3), (12090, y.A)]
 []))
 (slice x_6.s2.a x_6.s2.n x_6.s2.cap) x_6.xs) ∧
 ∀ (y_1 : Unit),
 True →
 Same ⟨x_4.b3, 0, none⟩ x_4.b3 ∧
 Same ⟨x_4.b3, 2, none⟩ x_4.b3 ∧
 FnOk Try.prog 42 resC ∧
 true = true ∧
 ∃ (x_7 : ExX),
 [pointer (some ⟨x_4.lb, 0, none⟩), slice x.fst.g.a x.fst.g.n x.fst.g.cap, slice x.fst.m.a x.fst.m.n x.fst.m.cap, slice none 0 0] = [pointer (some ⟨x_7.b, 0, none⟩), slice x_7.g.a x_7.g.n x_7.g.cap, slice x_7.m.a x_7.m.n x_7.m.cap, slice x_7.s.a x_7.s.n x_7.s.cap] ∧
 ([] : List Atom) = [] ∧
 (newB x_7.c = true ∧ (IsSrc 1 (ints x_7.cf) x_7.g.a x_7.g.n ∧ x_7.g.n * 8 ≤ 140737488351232) ∧ IsSrc 1 (ints x_7.ts) x_7.s.a x_7.s.n ∧ x_7.s.n * 8 ≤ 140737488351232) ∧
 (LatIn
 (Atom.pred
 (rest
 [(0, Atom.cells x_4.b (chS x.fst.c x.fst.w) 28), (1, Atom.cells x_4.b3 [slice x.fst.g.a x.fst.g.n x.fst.g.cap, slice x.fst.s.a x.fst.s.n x.fst.s.cap, slice x.fst.m.a x.fst.m.n x.fst.m.cap, string x.fst.name, bool x.fst.ev, slice x.fst.hs.a x.fst.hs.n x.fst.hs.cap] 68), (2, x_4.G), (3, x_4.r.A), (4, F),
 (12080, Atom.cells b [int i64 x.snd, int i64 x.snd, int i64 (-1 : Int), int i64 x.snd] 3), (12090, y.A)]
 []))
 x_7.b x_7.c ∧
 Srcd
 (Atom.pred
 (rest
 [(0, Atom.cells x_4.b (chS x.fst.c x.fst.w) 28), (1, Atom.cells x_4.b3 [slice x.fst.g.a x.fst.g.n x.fst.g.cap, slice x.fst.s.a x.fst.s.n x.fst.s.cap, slice x.fst.m.a x.fst.m.n x.fst.m.cap, string x.fst.name, bool x.fst.ev, slice x.fst.hs.a x.fst.hs.n x.fst.hs.cap] 68), (2, x_4.G), (3, x_4.r.A), (4, F),
 (12080, Atom.cells b [int i64 x.snd, int i64 x.snd, int i64 (-1 : Int), int i64 x.snd] 3), (12090, y.A)]
 []))
 x_7.g.a (ints x_7.cf) ∧
 MemIn
 (Atom.pred
 (rest
 [(0, Atom.cells x_4.b (chS x.fst.c x.fst.w) 28), (1, Atom.cells x_4.b3 [slice x.fst.g.a x.fst.g.n x.fst.g.cap, slice x.fst.s.a x.fst.s.n x.fst.s.cap, slice x.fst.m.a x.fst.m.n x.fst.m.cap, string x.fst.name, bool x.fst.ev, slice x.fst.hs.a x.fst.hs.n x.fst.hs.cap] 68), (2, x_4.G), (3, x_4.r.A), (4, F),
 (12080, Atom.cells b [int i64 x.snd, int i64 x.snd, int i64 (-1 : Int), int i64 x.snd] 3), (12090, y.A)]
 []))
 (slice x_7.m.a x_7.m.n x_7.m.cap) x_7.mem ∧
 Srcd
 (Atom.pred
 (rest
 [(0, Atom.cells x_4.b (chS x.fst.c x.fst.w) 28), (1, Atom.cells x_4.b3 [slice x.fst.g.a x.fst.g.n x.fst.g.cap, slice x.fst.s.a x.fst.s.n x.fst.s.cap, slice x.fst.m.a x.fst.m.n x.fst.m.cap, string x.fst.name, bool x.fst.ev, slice x.fst.hs.a x.fst.hs.n x.fst.hs.cap] 68), (2, x_4.G), (3, x_4.r.A), (4, F),
 (12080, Atom.cells b [int i64 x.snd, int i64 x.snd, int i64 (-1 : Int), int i64 x.snd] 3), (12090, y.A)]
 []))
 x_7.s.a (ints x_7.ts)) ∧
 ∀ (y_2 : Row),
 IsRow 3 1 (ints (resV x_7.c x_7.mem x_7.cf x_7.ts)) y_2 →
 Done (oneC fun (c : ChD) => newB c = true) x F (Ending.returned (bool ((↑y_2.n : Int) == (0 : Int))))
 [(0, Atom.cells x_4.b (chS x.fst.c x.fst.w) 28), (1, Atom.cells x_4.b3 [slice x.fst.g.a x.fst.g.n x.fst.g.cap, slice x.fst.s.a x.fst.s.n x.fst.s.cap, slice x.fst.m.a x.fst.m.n x.fst.m.cap, string x.fst.name, bool x.fst.ev, slice x.fst.hs.a x.fst.hs.n x.fst.hs.cap] 68), (2, x_4.G), (3, x_4.r.A), (4, F),
 (12080, Atom.cells b [int i64 x.snd, int i64 x.snd, int i64 (-1 : Int), int i64 x.snd] 3), (12090, y.A), (12180, y_2.A)]) := by
  obtain ⟨⟨c, w, ⟨ga, gn, gc⟩, cf, ⟨sa, sn, sc⟩, ts, ⟨ma, mn, mc⟩, mem, name, ev, hs⟩, t⟩ := x
  obtain ⟨hnew, hok⟩ := hc
  replace hr : MvIn F _ := hr
  obtain ⟨g1, g2, s1, s2⟩ := hok
  dsimp only at hnew g1 g2 s1 s2 ⊢
  obtain ⟨hch, hcf, hts, hm⟩ := id hr
  dsimp only at hch hcf hts hm
  have htn : w.vt.n = c.trs.length := by
    have h2 : SlIn F (TrIn F) 6 88 (.slice w.vt.a w.vt.n w.vt.cap) c.trs := hch.trs
    exact h2.num.1
  intro b b3
  refine ⟨aw15_ok, rfl, (), rfl, rfl, trivial, trivial, fun _ _ => ?_⟩
  iterate 14 refine ⟨⟨rfl, rfl⟩, ?_⟩
  refine ⟨lge_ok, rfl, ⟨c, w, ⟨ga, gn, gc⟩, cf, ⟨sa, sn, sc⟩, ts, ⟨ma, mn, mc⟩, mem, name, ev, hs⟩, rfl, rfl, trivial, hr.sub (sub_rest 0 (by simp) rfl), fun y _ => br_intro (fun _ => ⟨(), trivial, rfl, Ent.pick [0] rfl rfl⟩) (fun _ => ?_)⟩
  iterate 8 refine ⟨⟨rfl, rfl⟩, ?_⟩
  refine ⟨newY_ok, rfl, ⟨c, w⟩, rfl, rfl, hnew, hch.sub (sub_rest 0 (by simp) rfl), fun z hz => ?_⟩
  replace hz : LatIn z.G z.b c := hz
  have wants : ∀ B : Bool, isT c t = B → (bif isT c t then [t] else []) = (bif B then [t] else []) := fun B h => by rw [h]
  refine ⟨br_decide (fun h1 => ⟨⟨rfl, rfl⟩, br_decide (fun h2 b4 => ?_) (fun h2 => ?_)⟩) (fun h1 => ?_), ?_⟩
  · have hT : isT c t = true := by unfold isT; rw [decide_eq_true h1, decide_eq_true (show t < (c.trs.length : Int) by omega)]; rfl
    refine ⟨⟨b, b3, z.b, z.G, ⟨some ⟨b4, 0, none⟩, 1, 1, .cells b4 [.int .i64 t] 3⟩⟩, ⟨hz, ?_⟩, ⟨rfl, rfl, rfl, rfl, trivial⟩, Ent.pick [1000, 1010, 6010, 11010, 0] rfl rfl⟩
    dsimp only
    rw [wants true hT]
    exact .blk b4 1 1 [] rfl rfl (Nat.le_refl _)
  · refine ⟨⟨b, b3, z.b, z.G, nilRow⟩, ⟨hz, ?_⟩, ⟨rfl, rfl, rfl, rfl, trivial⟩, Ent.pick [1000, 1010, 6010, 77, 0] rfl rfl⟩
    dsimp only
    rw [wants false (by unfold isT; rw [decide_eq_false (show ¬ t < (c.trs.length : Int) by omega), Bool.and_false])]
    exact .nil rfl
  · refine ⟨⟨b, b3, z.b, z.G, nilRow⟩, ⟨hz, ?_⟩, ⟨rfl, rfl, rfl, rfl, trivial⟩, Ent.pick [1000, 1010, 6010, 77, 0] rfl rfl⟩
    dsimp only
    rw [wants false (by unfold isT; rw [decide_eq_false h1, Bool.false_and])]
    exact .nil rfl
  clear hz z b b3
  rintro ⟨b, b3, lb, G, r⟩ js ⟨hz, hrow⟩
  dsimp only at hz hrow ⊢
  have hrl : r.n * 8 ≤ 140737488351232 := by
    have := hrow.len
    rw [ints_length] at this
    cases hT : isT c t with
    | true => rw [hT] at this; simp at this; omega
    | false => rw [hT] at this; simp at this; omega
  iterate 2 refine ⟨⟨rfl, rfl⟩, ?_⟩
  refine fun b5 => ⟨rs_ok, rfl, ⟨lb, c, ⟨ga, gn, gc⟩, cf, ⟨ma, mn, mc⟩, mem, ⟨some ⟨b5, 0, none⟩, 4, 4⟩, [t, t, -1, t]⟩, rfl, rfl, ⟨hnew, ⟨g1, g2⟩, .blk b5 0 4 rfl, by dsimp only; omega⟩, ⟨hz.sub (sub_rest 2 (by simp) rfl), Srcd.sub (A := F) (sub_rest 4 (by simp) rfl) hcf, hm.sub (sub_rest 4 (by simp) rfl), lit_srcd 12080 (by simp) rfl⟩, fun y hy => ?_⟩
  replace hy : IsRow 3 1 (ints (resV c mem cf [t, t, -1, t])) y := hy
  rw [res_one] at hy
  have hyl : y.n * 8 ≤ 140737488351232 := by
    have h1 := hy.len
    have h2 := hrow.len
    omega
  refine ⟨si_ok, rfl, ⟨⟨y.a, y.n, y.cap⟩, ⟨r.a, r.n, r.cap⟩, bif isT c t then [t] else []⟩, rfl, rfl, trivial, ⟨hy.intsIn (sub_rest 12090 (by simp) rfl) hyl, hrow.intsIn (sub_rest 3 (by simp) rfl) hrl⟩, fun _ _ => ?_⟩
  iterate 2 refine ⟨⟨rfl, rfl⟩, ?_⟩
  refine ⟨rs_ok, rfl, ⟨lb, c, ⟨ga, gn, gc⟩, cf, ⟨ma, mn, mc⟩, mem, ⟨none, 0, 0⟩, []⟩, rfl, rfl, ⟨hnew, ⟨g1, g2⟩, .nil rfl, Nat.zero_le _⟩, ⟨hz.sub (sub_rest 2 (by simp) rfl), Srcd.sub (A := F) (sub_rest 4 (by simp) rfl) hcf, hm.sub (sub_rest 4 (by simp) rfl), (fun _ e => nomatch e)⟩, fun u hu => ⟨(), trivial, ?_, Ent.pick [4] rfl rfl⟩⟩
  replace hu : IsRow 3 1 (ints (resV c mem cf [])) u := hu
  have hul : u.n = 0 := by
    have := hu.len
    have e : (ints (resV c mem cf [])).length = 0 := rfl
    omega
  show Ending.returned (.bool ((u.n : Int) == 0)) = .returned (.bool true)
  rw [hul]; rfl
set_option maxRecDepth 100000 in
theorem onY_ok : FnOk Try.prog 9 (oneC fun c => newB c = true) :=
  fnOk (N := 55) (by kernel_rfl) Try.func9 rfl (by kernel_rfl) (fun _ => Nat.le_of_ble_eq_true rfl) onY_H [] fun x F hc hr => Eq.mpr (by kernel_rfl) (onY_vc x F hc hr)
end Go.Proofs.Ytkmdgnbfojkcnaa
