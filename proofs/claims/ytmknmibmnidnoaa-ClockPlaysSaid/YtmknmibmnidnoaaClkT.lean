/- The reference's clock: its other methods. -/
import Derived.Test.YtmknmibmnidnoaaClkS
import Derived.Test.YtmknmibmnidnoaaClkQ
set_option linter.all false
namespace Go.Proofs.Ytmknmibmnidnoaa
open Go
def goneG (now how ow : Int) (id : ByteArray) (t : Tmr) : Bool := bif how == 2 then decide (t.due ≤ now) else bif t.ow == ow then (bif how == 1 then true else t.id.toList == id.toList) else false
structure GoneX where
  b : Nat
  now : Int
  row : Row
  t : Tmr
  how : Int
  ow : Int
  id : ByteArray
def goneC : Con where
  X := GoneX
  Y := Unit
  args x := [.pointer (some ⟨x.b, 0, none⟩), .agg #[.int .i64 x.t.ow, .string x.t.id, .int .i64 x.t.due, .int .i64 x.t.n], .int .i64 x.how, .int .i64 x.ow, .string x.id]
  pre x := [clkR x.b x.now x.row]
  cond _ := True
  rdc _ _ := True
  rel _ _ := True
  val x _ := .returned (.bool (goneG x.now x.how x.ow x.id x.t))
  post x _ := [clkR x.b x.now x.row]
noncomputable def gone_H (x : Con.X goneC) (F : Atom) : Hints where
  op := hk (((fun _ _ => []) x F) ++ [(0, 0, OH.n (1000 : Nat)),   (2, 1, OH.q [LH.atj (1000 : Nat)]),   (3, 1, OH.q [LH.atj (1000 : Nat)]),   (2, 5, OH.q [LH.atj (0 : Nat)]),   (3, 9, OH.q [LH.atj (1000 : Nat)])])
  inv := (fun _ _ _ => none) x F
  cut := (fun _ _ _ => none) x F
  ord := (fun _ => [])
set_option maxRecDepth 100000 in
theorem gone_vc (x : GoneX) (F : Atom) (hc : Con.cond goneC x) (hr : Con.rdc goneC x F) :
  ∀ (b : Nat),
    Br (x.how == (2 : Int)) (true = true ∧ Same { block := b, off := (2 : Nat) } b ∧ Same { block := x.b, off := (0 : Nat) } x.b ∧ Done goneC x F (Ending.returned (Value.bool (decide (x.t.due ≤ x.now)))) [((0 : Nat), Atom.cells x.b [Value.int IntKind.i64 x.now, Value.slice x.row.a x.row.n x.row.cap] (29 : Nat)), ((1 : Nat), F), ((1000 : Nat), Atom.cells b [Value.int IntKind.i64 x.t.ow, Value.string x.t.id, Value.int IntKind.i64 x.t.due, Value.int IntKind.i64 x.t.n] (44 : Nat))])
      (Same { block := b, off := (0 : Nat) } b ∧
        Br (x.t.ow == x.ow) (Br (x.how == (1 : Int)) (Done goneC x F (Ending.returned (Value.bool true)) [((0 : Nat), Atom.cells x.b [Value.int IntKind.i64 x.now, Value.slice x.row.a x.row.n x.row.cap] (29 : Nat)), ((1 : Nat), F), ((1000 : Nat), Atom.cells b [Value.int IntKind.i64 x.t.ow, Value.string x.t.id, Value.int IntKind.i64 x.t.due, Value.int IntKind.i64 x.t.n] (44 : Nat))]) (Same { block := b, off := (1 : Nat) } b ∧ Done goneC x F (Ending.returned (Value.bool (x.t.id.toList == x.id.toList))) [((0 : Nat), Atom.cells x.b [Value.int IntKind.i64 x.now, Value.slice x.row.a x.row.n x.row.cap] (29 : Nat)), ((1 : Nat), F), ((1000 : Nat), Atom.cells b [Value.int IntKind.i64 x.t.ow, Value.string x.t.id, Value.int IntKind.i64 x.t.due, Value.int IntKind.i64 x.t.n] (44 : Nat))]))
          (Done goneC x F (Ending.returned (Value.bool false)) [((0 : Nat), Atom.cells x.b [Value.int IntKind.i64 x.now, Value.slice x.row.a x.row.n x.row.cap] (29 : Nat)), ((1 : Nat), F), ((1000 : Nat), Atom.cells b [Value.int IntKind.i64 x.t.ow, Value.string x.t.id, Value.int IntKind.i64 x.t.due, Value.int IntKind.i64 x.t.n] (44 : Nat))])) := by
  obtain ⟨b, now, row, t, how, ow, id⟩ := x
  intro b2
  refine br_intro (fun h => ⟨rfl, ⟨rfl, rfl⟩, ⟨rfl, rfl⟩, (), trivial, ?_, Ent.pick [0, 1] rfl rfl⟩) (fun h => ⟨⟨rfl, rfl⟩, br_intro (fun h2 => br_intro (fun h3 => ⟨(), trivial, ?_, Ent.pick [0, 1] rfl rfl⟩) (fun h3 => ⟨⟨rfl, rfl⟩, (), trivial, ?_, Ent.pick [0, 1] rfl rfl⟩)) (fun h2 => ⟨(), trivial, ?_, Ent.pick [0, 1] rfl rfl⟩)⟩)
  · have : goneG now how ow id t = decide (t.due ≤ now) := by unfold goneG; rw [h]; rfl
    exact congrArg (fun q => Ending.returned (Value.bool q)) this.symm
  · have : goneG now how ow id t = true := by unfold goneG; rw [h, h2, h3]; rfl
    exact congrArg (fun q => Ending.returned (Value.bool q)) this.symm
  · have : goneG now how ow id t = (t.id.toList == id.toList) := by unfold goneG; rw [h, h2, h3]; rfl
    exact congrArg (fun q => Ending.returned (Value.bool q)) this.symm
  · have : goneG now how ow id t = false := by unfold goneG; rw [h, h2]; rfl
    exact congrArg (fun q => Ending.returned (Value.bool q)) this.symm
set_option maxRecDepth 100000 in
theorem gone_ok : FnOk Try.prog 31 goneC :=
  fnOk (N := 34) (by kernel_rfl) Try.func31 rfl (by kernel_rfl) (fun _ => Nat.le_of_ble_eq_true rfl) gone_H [] fun x F hc hr => Eq.mpr (by kernel_rfl) (gone_vc x F hc hr)
structure TakeX where
  b : Nat
  now : Int
  us : List Tmr
  row : Row
  how : Int
  ow : Int
  id : ByteArray
def TakeX.g (x : TakeX) : Tmr → Bool := goneG x.now x.how x.ow x.id
def takeC : Con where
  X := TakeX
  Y := DfY
  args x := [.pointer (some ⟨x.b, 0, none⟩), .int .i64 x.how, .int .i64 x.ow, .string x.id]
  pre x := [clkR x.b x.now x.row, x.row.A]
  cond x := isUs x.us x.row
  rdc _ _ := True
  rel x y := isUs (stay x.g x.us) y.row ∧ isNs (nts x.g (srt x.us)) y.r
  val _ y := .returned (.slice y.r.a y.r.n y.r.cap)
  post x y := [clkR x.b x.now y.row, y.row.A, y.r.A]
structure TakeI where
  k : Nat
  l : Row
  r : Row
def takeInv (x : TakeX) (F : Atom) : Nat → Option Inv := fun
  | 0 => some { X := TakeI, P := fun i => i.k ≤ x.us.length ∧ IsRow 44 4 (encT (srt x.us)) i.l ∧ i.l.n = x.us.length ∧ isNs (nts x.g ((srt x.us).take i.k)) i.r, mu := fun i => x.us.length - i.k, lv := fun i => [(0, .pointer (some ⟨x.b, 0, none⟩)), (1, .int .i64 x.how), (2, .int .i64 x.ow), (3, .string x.id), (9, .slice i.r.a i.r.n i.r.cap), (10, .slice i.l.a i.l.n i.l.cap), (11, .int .i64 i.k)], st := fun i => [clkR x.b x.now x.row, x.row.A, i.l.A, i.r.A, F] }
  | 2 => some { X := TakeI, P := fun i => i.k ≤ x.us.length ∧ isNs (nts x.g (srt x.us)) i.r ∧ IsRow 44 4 (encT (stay x.g (x.us.take i.k))) i.l ∧ i.l.n = (stay x.g (x.us.take i.k)).length, mu := fun i => x.us.length - i.k, lv := fun i => [(0, .pointer (some ⟨x.b, 0, none⟩)), (1, .int .i64 x.how), (2, .int .i64 x.ow), (3, .string x.id), (9, .slice i.r.a i.r.n i.r.cap), (12, .slice i.l.a i.l.n i.l.cap), (13, .int .i64 i.k)], st := fun i => [clkR x.b x.now x.row, x.row.A, i.r.A, i.l.A, F] }
  | _ => none
def takeOv (_x : TakeX) (_F : Atom) : List (Nat × Nat × OH) := [(2, 1, .c sortedC [0, 1] [0, 1, 71]), (6, 3, .qo (ixQ 4)), (6, 4, .q [.ex 2 (.int .i64), .ex 2 .str, .ex 2 (.int .i64), .ex 2 (.int .i64)]), (6, 8, .c goneC [0] [0]), (7, 3, .qo (ixQ 4)), (7, 5, .q [.ex 2 (.int .i64)]), (7, 7, .o (apC 3 1 8) [3] [3]),
  (12, 6, .qo (ixQ 4)), (12, 7, .q [.ex 1 (.int .i64), .ex 1 .str, .ex 1 (.int .i64), .ex 1 (.int .i64)]), (12, 11, .c goneC [0] [0]), (13, 4, .q [.atj 0]), (13, 6, .qo (ixQ 4)), (13, 7, .q [.ex 1 (.int .i64), .ex 1 .str, .ex 1 (.int .i64), .ex 1 (.int .i64)]), (13, 9, .o (apC 44 4 40) [3] [3])]
noncomputable def take_H (x : Con.X takeC) (F : Atom) : Hints where
  op := hk ((takeOv x F) ++ [(7, 6, OH.n (8060 : Nat)),   (10, 4, OH.q [LH.atj (0 : Nat)]),   (12, 4, OH.q [LH.atj (0 : Nat)]),   (14, 4, OH.w [LH.atj (0 : Nat)]),   (13, 8, OH.n (14080 : Nat))])
  inv := takeInv x F
  cut := (fun _ _ _ => none) x F
  ord := (fun _ => [])
set_option maxRecDepth 100000 in
theorem take_vc (x : TakeX) (F : Atom) (hc : Con.cond takeC x) (hr : Con.rdc takeC x F) :
  FnOk Try.prog (17 : Nat) sortedC ∧
    true = true ∧
      ∃ (x_1 : RefX),
        [Value.pointer (some { block := x.b, off := (0 : Nat) })] = [Value.pointer (some { block := x_1.b, off := (0 : Nat) })] ∧
          [Atom.cells x.b [Value.int IntKind.i64 x.now, Value.slice x.row.a x.row.n x.row.cap] (29 : Nat), x.row.A] = [Atom.cells x_1.b [Value.int IntKind.i64 x_1.now, Value.slice x_1.row.a x_1.row.n x_1.row.cap] (29 : Nat), x_1.row.A] ∧
            isUs x_1.us x_1.row ∧
              True ∧
                ∀ (y : Row),
                  IsRow (44 : Nat) (4 : Nat) (encT (srt x_1.us)) y ∧ y.n = x_1.us.length →
                    (∃ (x_2 : TakeI),
                        (x_2.k ≤ x.us.length ∧ IsRow (44 : Nat) (4 : Nat) (encT (srt x.us)) x_2.l ∧ x_2.l.n = x.us.length ∧ isNs (nts x.g (List.take x_2.k (srt x.us))) x_2.r) ∧
                          (Value.pointer (some { block := x.b, off := (0 : Nat) }) = Value.pointer (some { block := x.b, off := (0 : Nat) }) ∧ Value.int IntKind.i64 x.how = Value.int IntKind.i64 x.how ∧ Value.int IntKind.i64 x.ow = Value.int IntKind.i64 x.ow ∧ Value.string x.id = Value.string x.id ∧ Value.slice none (0 : Nat) (0 : Nat) = Value.slice x_2.r.a x_2.r.n x_2.r.cap ∧ Value.slice y.a y.n y.cap = Value.slice x_2.l.a x_2.l.n x_2.l.cap ∧ Value.int IntKind.i64 (0 : Int) = Value.int IntKind.i64 (↑x_2.k : Int) ∧ True) ∧ Ent [((0 : Nat), Atom.cells x_1.b [Value.int IntKind.i64 x_1.now, Value.slice x_1.row.a x_1.row.n x_1.row.cap] (29 : Nat)), ((1 : Nat), x_1.row.A), ((2 : Nat), F), ((71 : Nat), y.A)] [((0 : Nat), Atom.cells x.b [Value.int IntKind.i64 x.now, Value.slice x.row.a x.row.n x.row.cap] (29 : Nat)), ((1 : Nat), x.row.A), ((2 : Nat), x_2.l.A), ((3 : Nat), x_2.r.A), ((4 : Nat), F)]) ∧
                      ∀ (x_2 : TakeI) (js : Nat → Value),
                        x_2.k ≤ x.us.length ∧ IsRow (44 : Nat) (4 : Nat) (encT (srt x.us)) x_2.l ∧ x_2.l.n = x.us.length ∧ isNs (nts x.g (List.take x_2.k (srt x.us))) x_2.r →
                          Br (decide ((↑x_2.k : Int) < (↑x_2.l.n : Int)))
                            (QOpOk Try.prog (opIn Try.f23 (6 : Nat) (3 : Nat)) (ixQ (4 : Nat)) ∧
                              ∃ (x_3 : IxQX),
                                [Value.slice x_2.l.a x_2.l.n x_2.l.cap, Value.int IntKind.i64 (↑x_2.k : Int)] = [Value.slice (some { block := x_3.b, off := x_3.o }) x_3.len x_3.cap, Value.int IntKind.i64 x_3.n] ∧
                                  ((0 : Int) ≤ x_3.n ∧ x_3.n < (↑x_3.len : Int)) ∧
                                    ∃ (n : Int),
                                      Look x_2.l.A { block := x_3.b, off := x_3.o + x_3.n.toNat * (4 : Nat) } (Value.int IntKind.i64 n) ∧
                                        ∃ (s : ByteArray),
                                          Look x_2.l.A { block := x_3.b, off := x_3.o + x_3.n.toNat * (4 : Nat) + (1 : Nat) } (Value.string s) ∧
                                            ∃ (n_1 : Int),
                                              Look x_2.l.A { block := x_3.b, off := x_3.o + x_3.n.toNat * (4 : Nat) + (2 : Nat) } (Value.int IntKind.i64 n_1) ∧
                                                ∃ (n_2 : Int),
                                                  Look x_2.l.A { block := x_3.b, off := x_3.o + x_3.n.toNat * (4 : Nat) + (3 : Nat) } (Value.int IntKind.i64 n_2) ∧
                                                    FnOk Try.prog (31 : Nat) goneC ∧
                                                      true = true ∧
                                                        ∃ (x_4 : GoneX),
                                                          [Value.pointer (some { block := x.b, off := (0 : Nat) }), Value.agg { toList := [Value.int IntKind.i64 n, Value.string s, Value.int IntKind.i64 n_1, Value.int IntKind.i64 n_2] }, Value.int IntKind.i64 x.how, Value.int IntKind.i64 x.ow, Value.string x.id] = [Value.pointer (some { block := x_4.b, off := (0 : Nat) }), Value.agg { toList := [Value.int IntKind.i64 x_4.t.ow, Value.string x_4.t.id, Value.int IntKind.i64 x_4.t.due, Value.int IntKind.i64 x_4.t.n] }, Value.int IntKind.i64 x_4.how, Value.int IntKind.i64 x_4.ow, Value.string x_4.id] ∧
                                                            [Atom.cells x.b [Value.int IntKind.i64 x.now, Value.slice x.row.a x.row.n x.row.cap] (29 : Nat)] = [Atom.cells x_4.b [Value.int IntKind.i64 x_4.now, Value.slice x_4.row.a x_4.row.n x_4.row.cap] (29 : Nat)] ∧
                                                              True ∧
                                                                True ∧
                                                                  ∀ (y : Unit),
                                                                    True →
                                                                      Br (goneG x_4.now x_4.how x_4.ow x_4.id x_4.t)
                                                                        (QOpOk Try.prog (opIn Try.f23 (7 : Nat) (3 : Nat)) (ixQ (4 : Nat)) ∧
                                                                          ∃ (x_5 : IxQX),
                                                                            [Value.slice x_2.l.a x_2.l.n x_2.l.cap, Value.int IntKind.i64 (↑x_2.k : Int)] = [Value.slice (some { block := x_5.b, off := x_5.o }) x_5.len x_5.cap, Value.int IntKind.i64 x_5.n] ∧
                                                                              ((0 : Int) ≤ x_5.n ∧ x_5.n < (↑x_5.len : Int)) ∧
                                                                                ∃ (n : Int),
                                                                                  Look x_2.l.A { block := x_5.b, off := x_5.o + x_5.n.toNat * (4 : Nat) + (3 : Nat) } (Value.int IntKind.i64 n) ∧
                                                                                    ∀ (b : Nat),
                                                                                      OpOk Try.prog (opIn Try.f23 (7 : Nat) (7 : Nat)) (apC (3 : TypeId) (1 : Nat) (8 : Nat)) ∧
                                                                                        true = true ∧
                                                                                          ∃ (x_6 : ApX),
                                                                                            [Value.slice x_2.r.a x_2.r.n x_2.r.cap, Value.slice (some { block := b, off := (0 : Nat) }) (1 : Nat) (1 : Nat)] = [Value.slice x_6.r.a x_6.r.n x_6.r.cap, Value.slice x_6.a x_6.m x_6.c] ∧
                                                                                              [x_2.r.A] = [x_6.r.A] ∧
                                                                                                (IsRow (3 : Nat) (1 : Nat) x_6.cs x_6.r ∧ x_6.ys.length = x_6.m * (1 : Nat) ∧ (∀ (u : Value), u ∈ x_6.ys → u.oneCell' = true) ∧ (x_6.r.n + x_6.m) * (8 : Nat) ≤ (140737488355328 : Nat) ∧ x_6.r.n + x_6.m ≤ (9223372036854775807 : Nat) ∧ (x_6.a = none → x_6.m = (0 : Nat) ∧ x_6.c = (0 : Nat))) ∧
                                                                                                  (∀ (a : Addr), x_6.a = some a → Seg (Atom.pred (rest [((0 : Nat), Atom.cells x_4.b [Value.int IntKind.i64 x_4.now, Value.slice x_4.row.a x_4.row.n x_4.row.cap] (29 : Nat)), ((1 : Nat), x.row.A), ((2 : Nat), x_2.l.A), ((3 : Nat), x_2.r.A), ((4 : Nat), F), ((8060 : Nat), Atom.cells b [Value.int IntKind.i64 n] (3 : Nat))] [(3 : Nat)])) a x_6.ys) ∧
                                                                                                    ∀ (y : Row),
                                                                                                      IsRow (3 : Nat) (1 : Nat) (x_6.cs ++ x_6.ys) y ∧ y.n = x_6.r.n + x_6.m ∧ (x_6.m = (0 : Nat) → y = x_6.r) →
                                                                                                        ((-9223372036854775808 : Int) ≤ (↑x_2.k : Int) + (1 : Int) ∧ (↑x_2.k : Int) + (1 : Int) ≤ (9223372036854775807 : Int)) ∧
                                                                                                          ∃ (y_1 : TakeI),
                                                                                                            (y_1.k ≤ x.us.length ∧ IsRow (44 : Nat) (4 : Nat) (encT (srt x.us)) y_1.l ∧ y_1.l.n = x.us.length ∧ isNs (nts x.g (List.take y_1.k (srt x.us))) y_1.r) ∧
                                                                                                              (Value.pointer (some { block := x.b, off := (0 : Nat) }) = Value.pointer (some { block := x.b, off := (0 : Nat) }) ∧ Value.int IntKind.i64 x.how = Value.int IntKind.i64 x.how ∧ Value.int IntKind.i64 x.ow = Value.int IntKind.i64 x.ow ∧ Value.string x.id = Value.string x.id ∧ Value.slice y.a y.n y.cap = Value.slice y_1.r.a y_1.r.n y_1.r.cap ∧ Value.slice x_2.l.a x_2.l.n x_2.l.cap = Value.slice y_1.l.a y_1.l.n y_1.l.cap ∧ Value.int IntKind.i64 ((↑x_2.k : Int) + (1 : Int)) = Value.int IntKind.i64 (↑y_1.k : Int) ∧ True) ∧
                                                                                                                Ent [((0 : Nat), Atom.cells x_4.b [Value.int IntKind.i64 x_4.now, Value.slice x_4.row.a x_4.row.n x_4.row.cap] (29 : Nat)), ((1 : Nat), x.row.A), ((2 : Nat), x_2.l.A), ((3 : Nat), y.A), ((4 : Nat), F), ((8060 : Nat), Atom.cells b [Value.int IntKind.i64 n] (3 : Nat))] [((0 : Nat), Atom.cells x.b [Value.int IntKind.i64 x.now, Value.slice x.row.a x.row.n x.row.cap] (29 : Nat)), ((1 : Nat), x.row.A), ((2 : Nat), y_1.l.A), ((3 : Nat), y_1.r.A), ((4 : Nat), F)] ∧ x.us.length - y_1.k < x.us.length - x_2.k)
                                                                        (((-9223372036854775808 : Int) ≤ (↑x_2.k : Int) + (1 : Int) ∧ (↑x_2.k : Int) + (1 : Int) ≤ (9223372036854775807 : Int)) ∧
                                                                          ∃ (y : TakeI),
                                                                            (y.k ≤ x.us.length ∧ IsRow (44 : Nat) (4 : Nat) (encT (srt x.us)) y.l ∧ y.l.n = x.us.length ∧ isNs (nts x.g (List.take y.k (srt x.us))) y.r) ∧
                                                                              (Value.pointer (some { block := x.b, off := (0 : Nat) }) = Value.pointer (some { block := x.b, off := (0 : Nat) }) ∧ Value.int IntKind.i64 x.how = Value.int IntKind.i64 x.how ∧ Value.int IntKind.i64 x.ow = Value.int IntKind.i64 x.ow ∧ Value.string x.id = Value.string x.id ∧ Value.slice x_2.r.a x_2.r.n x_2.r.cap = Value.slice y.r.a y.r.n y.r.cap ∧ Value.slice x_2.l.a x_2.l.n x_2.l.cap = Value.slice y.l.a y.l.n y.l.cap ∧ Value.int IntKind.i64 ((↑x_2.k : Int) + (1 : Int)) = Value.int IntKind.i64 (↑y.k : Int) ∧ True) ∧
                                                                                Ent [((0 : Nat), Atom.cells x_4.b [Value.int IntKind.i64 x_4.now, Value.slice x_4.row.a x_4.row.n x_4.row.cap] (29 : Nat)), ((1 : Nat), x.row.A), ((2 : Nat), x_2.l.A), ((3 : Nat), x_2.r.A), ((4 : Nat), F)] [((0 : Nat), Atom.cells x.b [Value.int IntKind.i64 x.now, Value.slice x.row.a x.row.n x.row.cap] (29 : Nat)), ((1 : Nat), x.row.A), ((2 : Nat), y.l.A), ((3 : Nat), y.r.A), ((4 : Nat), F)] ∧ x.us.length - y.k < x.us.length - x_2.k))
                            ((∃ (x_3 : TakeI),
                                (x_3.k ≤ x.us.length ∧ isNs (nts x.g (srt x.us)) x_3.r ∧ IsRow (44 : Nat) (4 : Nat) (encT (stay x.g (List.take x_3.k x.us))) x_3.l ∧ x_3.l.n = (stay x.g (List.take x_3.k x.us)).length) ∧
                                  (Value.pointer (some { block := x.b, off := (0 : Nat) }) = Value.pointer (some { block := x.b, off := (0 : Nat) }) ∧ Value.int IntKind.i64 x.how = Value.int IntKind.i64 x.how ∧ Value.int IntKind.i64 x.ow = Value.int IntKind.i64 x.ow ∧ Value.string x.id = Value.string x.id ∧ Value.slice x_2.r.a x_2.r.n x_2.r.cap = Value.slice x_3.r.a x_3.r.n x_3.r.cap ∧ Value.slice none (0 : Nat) (0 : Nat) = Value.slice x_3.l.a x_3.l.n x_3.l.cap ∧ Value.int IntKind.i64 (0 : Int) = Value.int IntKind.i64 (↑x_3.k : Int) ∧ True) ∧ Ent [((0 : Nat), Atom.cells x.b [Value.int IntKind.i64 x.now, Value.slice x.row.a x.row.n x.row.cap] (29 : Nat)), ((1 : Nat), x.row.A), ((2 : Nat), x_2.l.A), ((3 : Nat), x_2.r.A), ((4 : Nat), F)] [((0 : Nat), Atom.cells x.b [Value.int IntKind.i64 x.now, Value.slice x.row.a x.row.n x.row.cap] (29 : Nat)), ((1 : Nat), x.row.A), ((2 : Nat), x_3.r.A), ((3 : Nat), x_3.l.A), ((4 : Nat), F)]) ∧
                              ∀ (x_3 : TakeI) (js : Nat → Value),
                                x_3.k ≤ x.us.length ∧ isNs (nts x.g (srt x.us)) x_3.r ∧ IsRow (44 : Nat) (4 : Nat) (encT (stay x.g (List.take x_3.k x.us))) x_3.l ∧ x_3.l.n = (stay x.g (List.take x_3.k x.us)).length →
                                  Same { block := x.b, off := (1 : Nat) } x.b ∧
                                    Br (decide ((↑x_3.k : Int) < (↑x.row.n : Int)))
                                      (Same { block := x.b, off := (1 : Nat) } x.b ∧
                                        QOpOk Try.prog (opIn Try.f23 (12 : Nat) (6 : Nat)) (ixQ (4 : Nat)) ∧
                                          ∃ (x_4 : IxQX),
                                            [Value.slice x.row.a x.row.n x.row.cap, Value.int IntKind.i64 (↑x_3.k : Int)] = [Value.slice (some { block := x_4.b, off := x_4.o }) x_4.len x_4.cap, Value.int IntKind.i64 x_4.n] ∧
                                              ((0 : Int) ≤ x_4.n ∧ x_4.n < (↑x_4.len : Int)) ∧
                                                ∃ (n : Int),
                                                  Look x.row.A { block := x_4.b, off := x_4.o + x_4.n.toNat * (4 : Nat) } (Value.int IntKind.i64 n) ∧
                                                    ∃ (s : ByteArray),
                                                      Look x.row.A { block := x_4.b, off := x_4.o + x_4.n.toNat * (4 : Nat) + (1 : Nat) } (Value.string s) ∧
                                                        ∃ (n_1 : Int),
                                                          Look x.row.A { block := x_4.b, off := x_4.o + x_4.n.toNat * (4 : Nat) + (2 : Nat) } (Value.int IntKind.i64 n_1) ∧
                                                            ∃ (n_2 : Int),
                                                              Look x.row.A { block := x_4.b, off := x_4.o + x_4.n.toNat * (4 : Nat) + (3 : Nat) } (Value.int IntKind.i64 n_2) ∧
                                                                FnOk Try.prog (31 : Nat) goneC ∧
                                                                  true = true ∧
                                                                    ∃ (x_5 : GoneX),
                                                                      [Value.pointer (some { block := x.b, off := (0 : Nat) }), Value.agg { toList := [Value.int IntKind.i64 n, Value.string s, Value.int IntKind.i64 n_1, Value.int IntKind.i64 n_2] }, Value.int IntKind.i64 x.how, Value.int IntKind.i64 x.ow, Value.string x.id] = [Value.pointer (some { block := x_5.b, off := (0 : Nat) }), Value.agg { toList := [Value.int IntKind.i64 x_5.t.ow, Value.string x_5.t.id, Value.int IntKind.i64 x_5.t.due, Value.int IntKind.i64 x_5.t.n] }, Value.int IntKind.i64 x_5.how, Value.int IntKind.i64 x_5.ow, Value.string x_5.id] ∧
                                                                        [Atom.cells x.b [Value.int IntKind.i64 x.now, Value.slice x.row.a x.row.n x.row.cap] (29 : Nat)] = [Atom.cells x_5.b [Value.int IntKind.i64 x_5.now, Value.slice x_5.row.a x_5.row.n x_5.row.cap] (29 : Nat)] ∧
                                                                          True ∧
                                                                            True ∧
                                                                              ∀ (y : Unit),
                                                                                True →
                                                                                  Br (!goneG x_5.now x_5.how x_5.ow x_5.id x_5.t)
                                                                                    (Same { block := x.b, off := (1 : Nat) } x_5.b ∧
                                                                                      QOpOk Try.prog (opIn Try.f23 (13 : Nat) (6 : Nat)) (ixQ (4 : Nat)) ∧
                                                                                        ∃ (x_6 : IxQX),
                                                                                          [Value.slice x_5.row.a x_5.row.n x_5.row.cap, Value.int IntKind.i64 (↑x_3.k : Int)] = [Value.slice (some { block := x_6.b, off := x_6.o }) x_6.len x_6.cap, Value.int IntKind.i64 x_6.n] ∧
                                                                                            ((0 : Int) ≤ x_6.n ∧ x_6.n < (↑x_6.len : Int)) ∧
                                                                                              ∃ (n : Int),
                                                                                                Look x.row.A { block := x_6.b, off := x_6.o + x_6.n.toNat * (4 : Nat) } (Value.int IntKind.i64 n) ∧
                                                                                                  ∃ (s : ByteArray),
                                                                                                    Look x.row.A { block := x_6.b, off := x_6.o + x_6.n.toNat * (4 : Nat) + (1 : Nat) } (Value.string s) ∧
                                                                                                      ∃ (n_3 : Int),
                                                                                                        Look x.row.A { block := x_6.b, off := x_6.o + x_6.n.toNat * (4 : Nat) + (2 : Nat) } (Value.int IntKind.i64 n_3) ∧
                                                                                                          ∃ (n_4 : Int),
                                                                                                            Look x.row.A { block := x_6.b, off := x_6.o + x_6.n.toNat * (4 : Nat) + (3 : Nat) } (Value.int IntKind.i64 n_4) ∧
                                                                                                              ∀ (b : Nat),
                                                                                                                OpOk Try.prog (opIn Try.f23 (13 : Nat) (9 : Nat)) (apC (44 : TypeId) (4 : Nat) (40 : Nat)) ∧
                                                                                                                  true = true ∧
                                                                                                                    ∃ (x_7 : ApX),
                                                                                                                      [Value.slice x_3.l.a x_3.l.n x_3.l.cap, Value.slice (some { block := b, off := (0 : Nat) }) (1 : Nat) (1 : Nat)] = [Value.slice x_7.r.a x_7.r.n x_7.r.cap, Value.slice x_7.a x_7.m x_7.c] ∧
                                                                                                                        [x_3.l.A] = [x_7.r.A] ∧
                                                                                                                          (IsRow (44 : Nat) (4 : Nat) x_7.cs x_7.r ∧ x_7.ys.length = x_7.m * (4 : Nat) ∧ (∀ (u : Value), u ∈ x_7.ys → u.oneCell' = true) ∧ (x_7.r.n + x_7.m) * (40 : Nat) ≤ (140737488355328 : Nat) ∧ x_7.r.n + x_7.m ≤ (9223372036854775807 : Nat) ∧ (x_7.a = none → x_7.m = (0 : Nat) ∧ x_7.c = (0 : Nat))) ∧
                                                                                                                            (∀ (a : Addr), x_7.a = some a → Seg (Atom.pred (rest [((0 : Nat), Atom.cells x_5.b [Value.int IntKind.i64 x_5.now, Value.slice x_5.row.a x_5.row.n x_5.row.cap] (29 : Nat)), ((1 : Nat), x.row.A), ((2 : Nat), x_3.r.A), ((3 : Nat), x_3.l.A), ((4 : Nat), F), ((14080 : Nat), Atom.cells b [Value.int IntKind.i64 n, Value.string s, Value.int IntKind.i64 n_3, Value.int IntKind.i64 n_4] (44 : Nat))] [(3 : Nat)])) a x_7.ys) ∧
                                                                                                                              ∀ (y : Row),
                                                                                                                                IsRow (44 : Nat) (4 : Nat) (x_7.cs ++ x_7.ys) y ∧ y.n = x_7.r.n + x_7.m ∧ (x_7.m = (0 : Nat) → y = x_7.r) →
                                                                                                                                  ((-9223372036854775808 : Int) ≤ (↑x_3.k : Int) + (1 : Int) ∧ (↑x_3.k : Int) + (1 : Int) ≤ (9223372036854775807 : Int)) ∧
                                                                                                                                    ∃ (y_1 : TakeI),
                                                                                                                                      (y_1.k ≤ x.us.length ∧ isNs (nts x.g (srt x.us)) y_1.r ∧ IsRow (44 : Nat) (4 : Nat) (encT (stay x.g (List.take y_1.k x.us))) y_1.l ∧ y_1.l.n = (stay x.g (List.take y_1.k x.us)).length) ∧
                                                                                                                                        (Value.pointer (some { block := x.b, off := (0 : Nat) }) = Value.pointer (some { block := x.b, off := (0 : Nat) }) ∧ Value.int IntKind.i64 x.how = Value.int IntKind.i64 x.how ∧ Value.int IntKind.i64 x.ow = Value.int IntKind.i64 x.ow ∧ Value.string x.id = Value.string x.id ∧ Value.slice x_3.r.a x_3.r.n x_3.r.cap = Value.slice y_1.r.a y_1.r.n y_1.r.cap ∧ Value.slice y.a y.n y.cap = Value.slice y_1.l.a y_1.l.n y_1.l.cap ∧ Value.int IntKind.i64 ((↑x_3.k : Int) + (1 : Int)) = Value.int IntKind.i64 (↑y_1.k : Int) ∧ True) ∧
                                                                                                                                          Ent [((0 : Nat), Atom.cells x_5.b [Value.int IntKind.i64 x_5.now, Value.slice x_5.row.a x_5.row.n x_5.row.cap] (29 : Nat)), ((1 : Nat), x.row.A), ((2 : Nat), x_3.r.A), ((3 : Nat), y.A), ((4 : Nat), F), ((14080 : Nat), Atom.cells b [Value.int IntKind.i64 n, Value.string s, Value.int IntKind.i64 n_3, Value.int IntKind.i64 n_4] (44 : Nat))] [((0 : Nat), Atom.cells x.b [Value.int IntKind.i64 x.now, Value.slice x.row.a x.row.n x.row.cap] (29 : Nat)), ((1 : Nat), x.row.A), ((2 : Nat), y_1.r.A), ((3 : Nat), y_1.l.A), ((4 : Nat), F)] ∧ x.us.length - y_1.k < x.us.length - x_3.k)
                                                                                    (((-9223372036854775808 : Int) ≤ (↑x_3.k : Int) + (1 : Int) ∧ (↑x_3.k : Int) + (1 : Int) ≤ (9223372036854775807 : Int)) ∧
                                                                                      ∃ (y : TakeI),
                                                                                        (y.k ≤ x.us.length ∧ isNs (nts x.g (srt x.us)) y.r ∧ IsRow (44 : Nat) (4 : Nat) (encT (stay x.g (List.take y.k x.us))) y.l ∧ y.l.n = (stay x.g (List.take y.k x.us)).length) ∧
                                                                                          (Value.pointer (some { block := x.b, off := (0 : Nat) }) = Value.pointer (some { block := x.b, off := (0 : Nat) }) ∧ Value.int IntKind.i64 x.how = Value.int IntKind.i64 x.how ∧ Value.int IntKind.i64 x.ow = Value.int IntKind.i64 x.ow ∧ Value.string x.id = Value.string x.id ∧ Value.slice x_3.r.a x_3.r.n x_3.r.cap = Value.slice y.r.a y.r.n y.r.cap ∧ Value.slice x_3.l.a x_3.l.n x_3.l.cap = Value.slice y.l.a y.l.n y.l.cap ∧ Value.int IntKind.i64 ((↑x_3.k : Int) + (1 : Int)) = Value.int IntKind.i64 (↑y.k : Int) ∧ True) ∧
                                                                                            Ent [((0 : Nat), Atom.cells x_5.b [Value.int IntKind.i64 x_5.now, Value.slice x_5.row.a x_5.row.n x_5.row.cap] (29 : Nat)), ((1 : Nat), x.row.A), ((2 : Nat), x_3.r.A), ((3 : Nat), x_3.l.A), ((4 : Nat), F)] [((0 : Nat), Atom.cells x.b [Value.int IntKind.i64 x.now, Value.slice x.row.a x.row.n x.row.cap] (29 : Nat)), ((1 : Nat), x.row.A), ((2 : Nat), y.r.A), ((3 : Nat), y.l.A), ((4 : Nat), F)] ∧ x.us.length - y.k < x.us.length - x_3.k))
                                      (Same { block := x.b, off := (1 : Nat) } x.b ∧ Done takeC x F (Ending.returned (Value.slice x_3.r.a x_3.r.n x_3.r.cap)) [((0 : Nat), Atom.cells x.b [Value.int IntKind.i64 x.now, Value.slice x_3.l.a x_3.l.n x_3.l.cap] (29 : Nat)), ((1 : Nat), x.row.A), ((2 : Nat), x_3.r.A), ((3 : Nat), x_3.l.A), ((4 : Nat), F)])) := by
  obtain ⟨b, now, us, row, how, ow, id⟩ := x
  have hus : isUs us row := hc
  obtain ⟨hrow, hn, h128⟩ := hus
  dsimp only [TakeX.g] at ⊢
  generalize hg : goneG now how ow id = g
  have hsl : (srt us).length = us.length := srt_length us
  have hnl : ∀ k, (nts g ((srt us).take k)).length ≤ 128 := fun k => Nat.le_trans (nts_le _ _) (by rw [List.length_take]; omega)
  have hcl : ∀ k, (stay g (us.take k)).length ≤ 128 := fun k => Nat.le_trans (List.length_filter_le _ _) (by rw [List.length_take]; omega)
  refine ⟨sorted_ok, rfl, ⟨b, now, us, row⟩, rfl, rfl, hc, trivial, fun y hy => ⟨⟨⟨0, y, ⟨none, 0, 0, .emp⟩⟩, ⟨Nat.zero_le _, hy.1, hy.2, .nil rfl, rfl⟩, ⟨rfl, rfl, rfl, rfl, rfl, rfl, rfl, trivial⟩, Ent.pick [0, 1, 71, 77, 2] rfl rfl⟩, ?_⟩⟩
  rintro ⟨k, l, r⟩ js ⟨p1, p2, p3, p4⟩
  dsimp only at p1 p2 p3 p4 ⊢
  refine br_decide (fun hlt => ?_) (fun hge => ?_)
  · obtain ⟨b1, o1, ea⟩ := p2.src.some (show 0 < l.n by omega)
    have hsr := p2.srcd
    rw [ea] at hsr
    obtain ⟨t, ht⟩ : ∃ t, (srt us)[k]? = some t := ⟨_, List.getElem?_eq_getElem (by omega)⟩
    have htk : (srt us).take (k + 1) = (srt us).take k ++ [t] := by rw [List.take_add_one, ht]; rfl
    refine ⟨ixq_ok 4 rfl rfl rfl rfl, ⟨b1, o1, l.n, l.cap, k⟩, by rw [ea], by dsimp only; omega, t.ow, srcd_enc (j := k) (c := 0) hsr ht (by decide) rfl, t.id, srcd_enc (j := k) (c := 1) hsr ht (by decide) rfl, t.due, srcd_enc (j := k) (c := 2) hsr ht (by decide) rfl, t.n, srcd_enc (j := k) (c := 3) hsr ht (by decide) rfl, gone_ok, rfl, ⟨b, now, row, t, how, ow, id⟩, rfl, rfl, trivial, trivial, fun _ _ => ?_⟩
    dsimp only
    rw [hg]
    refine br_intro (fun hgt => ?_) (fun hgt => ?_)
    · have hnt : nts g ((srt us).take (k + 1)) = nts g ((srt us).take k) ++ [t.n] := by
        unfold nts; rw [htk, List.filter_append, List.map_append, List.filter_cons_of_pos hgt]; rfl
      have hpl := hnl k
      have hp4 := p4.2
      refine ⟨ixq_ok 4 rfl rfl rfl rfl, ⟨b1, o1, l.n, l.cap, k⟩, by rw [ea], by dsimp only; omega, t.n, srcd_enc (j := k) (c := 3) hsr ht (by decide) rfl, fun b3 => ⟨append_ok (P := Try.prog) 1 8 rfl rfl rfl rfl rfl rfl rfl (by decide), rfl, ⟨r, _, some ⟨b3, 0, none⟩, 1, 1, [.int .i64 t.n]⟩, rfl, rfl, ⟨p4.1, rfl, by simp [Value.oneCell'], by dsimp only; omega, by dsimp only; omega, by simp⟩, ?_, fun z hz => ⟨by omega, ⟨k + 1, l, z⟩, ⟨by dsimp only; omega, p2, p3, ?_, ?_⟩, ⟨rfl, rfl, rfl, rfl, rfl, rfl, rfl, trivial⟩, Ent.pick [0, 1, 2, 3, 4] rfl rfl, by dsimp only; omega⟩⟩⟩
      · intro ad e
        cases e
        exact Seg.rest (j := 8060) (by simp) (Seg.cells fun j u h => by rw [Nat.zero_add]; exact h)
      · dsimp only; rw [hnt, ints_append]; exact hz.1
      · dsimp only; rw [hnt, List.length_append, ← p4.2]; exact hz.2.1
    · have hnt : nts g ((srt us).take (k + 1)) = nts g ((srt us).take k) := by
        unfold nts; rw [htk, List.filter_append, List.filter_cons_of_neg (by rw [hgt]; simp)]; simp
      exact ⟨by omega, ⟨k + 1, l, r⟩, ⟨by dsimp only; omega, p2, p3, by dsimp only; rw [hnt]; exact p4⟩, ⟨rfl, rfl, rfl, rfl, rfl, rfl, rfl, trivial⟩, Ent.pick [0, 1, 2, 3, 4] rfl rfl, by dsimp only; omega⟩
  · have hk : k = us.length := by omega
    subst hk
    rw [List.take_of_length_le (by omega)] at p4
    refine ⟨⟨⟨0, ⟨none, 0, 0, .emp⟩, r⟩, ⟨Nat.zero_le _, p4, .nil rfl, rfl⟩, ⟨rfl, rfl, rfl, rfl, rfl, rfl, rfl, trivial⟩, Ent.pick [0, 1, 3, 77, 4] rfl rfl⟩, ?_⟩
    rintro ⟨k, l2, r2⟩ js2 ⟨q1, q2, q3, q4⟩
    dsimp only at q1 q2 q3 q4 ⊢
    refine ⟨⟨rfl, rfl⟩, br_decide (fun hlt => ?_) (fun hge => ?_)⟩
    · obtain ⟨b1, o1, ea⟩ := hrow.src.some (show 0 < row.n by omega)
      have hsr := hrow.srcd
      rw [ea] at hsr
      obtain ⟨t, ht⟩ : ∃ t, us[k]? = some t := ⟨_, List.getElem?_eq_getElem (by omega)⟩
      have htk : us.take (k + 1) = us.take k ++ [t] := by rw [List.take_add_one, ht]; rfl
      have one : ∀ u ∈ t.enc, u.oneCell' = true := by
        intro u h
        simp only [Tmr.enc, List.mem_cons, List.not_mem_nil, or_false] at h
        rcases h with rfl | rfl | rfl | rfl <;> rfl
      refine ⟨⟨rfl, rfl⟩, ixq_ok 4 rfl rfl rfl rfl, ⟨b1, o1, row.n, row.cap, k⟩, by rw [ea], by dsimp only; omega, t.ow, srcd_enc (j := k) (c := 0) hsr ht (by decide) rfl, t.id, srcd_enc (j := k) (c := 1) hsr ht (by decide) rfl, t.due, srcd_enc (j := k) (c := 2) hsr ht (by decide) rfl, t.n, srcd_enc (j := k) (c := 3) hsr ht (by decide) rfl, gone_ok, rfl, ⟨b, now, row, t, how, ow, id⟩, rfl, rfl, trivial, trivial, fun _ _ => ?_⟩
      dsimp only
      rw [hg]
      have hpl := hcl k
      refine br_intro (fun hgt => ?_) (fun hgt => ?_)
      · have hst : stay g (us.take (k + 1)) = stay g (us.take k) ++ [t] := by
          have hgf : g t = false := by simpa using hgt
          unfold stay; rw [htk, List.filter_append]; simp [hgf]
        refine ⟨⟨rfl, rfl⟩, ixq_ok 4 rfl rfl rfl rfl, ⟨b1, o1, row.n, row.cap, k⟩, by rw [ea], by dsimp only; omega, t.ow, srcd_enc (j := k) (c := 0) hsr ht (by decide) rfl, t.id, srcd_enc (j := k) (c := 1) hsr ht (by decide) rfl, t.due, srcd_enc (j := k) (c := 2) hsr ht (by decide) rfl, t.n, srcd_enc (j := k) (c := 3) hsr ht (by decide) rfl, fun b3 => ⟨append_ok (P := Try.prog) 4 40 rfl rfl rfl rfl rfl rfl rfl (by decide), rfl, ⟨l2, _, some ⟨b3, 0, none⟩, 1, 1, t.enc⟩, rfl, rfl, ⟨q3, rfl, one, by dsimp only; omega, by dsimp only; omega, by simp⟩, ?_, fun z hz => ⟨by omega, ⟨k + 1, z, r2⟩, ⟨by dsimp only; omega, q2, ?_, ?_⟩, ⟨rfl, rfl, rfl, rfl, rfl, rfl, rfl, trivial⟩, Ent.pick [0, 1, 2, 3, 4] rfl rfl, by dsimp only; omega⟩⟩⟩
        · intro ad e
          cases e
          exact Seg.rest (j := 14080) (by simp) (Seg.cells fun j u h => by rw [Nat.zero_add]; exact h)
        · dsimp only
          rw [hst, encT_append]
          have : encT [t] = t.enc := by simp [encT]
          rw [this]; exact hz.1
        · dsimp only; rw [hst, List.length_append, ← q4]; exact hz.2.1
      · have hst : stay g (us.take (k + 1)) = stay g (us.take k) := by
          unfold stay; rw [htk, List.filter_append, List.filter_cons_of_neg (by rw [hgt]; simp)]; simp
        exact ⟨by omega, ⟨k + 1, l2, r2⟩, ⟨by dsimp only; omega, q2, by dsimp only; rw [hst]; exact q3, by dsimp only; rw [hst]; exact q4⟩, ⟨rfl, rfl, rfl, rfl, rfl, rfl, rfl, trivial⟩, Ent.pick [0, 1, 2, 3, 4] rfl rfl, by dsimp only; omega⟩
    · have hk : k = us.length := by omega
      subst hk
      rw [List.take_of_length_le (Nat.le_refl _)] at q3 q4
      refine ⟨⟨rfl, rfl⟩, ⟨l2, r2⟩, ⟨⟨?_, ?_, ?_⟩, ?_⟩, rfl, Ent.pick [0, 3, 2, 4] rfl rfl⟩
      · dsimp only [TakeX.g]; rw [hg]; exact q3
      · dsimp only [TakeX.g]; rw [hg]; exact q4
      · dsimp only [TakeX.g]; rw [hg]; exact Nat.le_trans (List.length_filter_le _ _) h128
      · dsimp only [TakeX.g]; rw [hg]; exact q2
set_option maxRecDepth 100000 in
theorem take_ok : FnOk Try.prog 23 takeC :=
  fnOk (N := 76) (by kernel_rfl) Try.func23 rfl (by kernel_rfl) (fun _ => Nat.le_of_ble_eq_true rfl) take_H [] fun x F hc hr => Eq.mpr (by kernel_rfl) (take_vc x F hc hr)
structure RtX where
  b : Nat
  now : Int
  us : List Tmr
  row : Row
  by' : Int
def rtickC : Con where
  X := RtX
  Y := DfY
  args x := [.pointer (some ⟨x.b, 0, none⟩), .int .i64 x.by']
  pre x := [clkR x.b x.now x.row, x.row.A]
  cond x := isUs x.us x.row ∧ 0 ≤ x.now ∧ x.now ≤ 9007199254740992
  rdc _ _ := True
  rel x y := isUs (stay (tickG x.now x.by') x.us) y.row ∧ isNs (nts (tickG x.now x.by') (srt x.us)) y.r
  val x y := .returned (.tuple #[.slice y.r.a y.r.n y.r.cap, .int .i64 (tickE x.now x.by')])
  post x y := [clkR x.b (tickNow x.now x.by') y.row, y.row.A, y.r.A]
def rtickOv (_x : RtX) (_F : Atom) : List (Nat × Nat × OH) := [(4, 1, .c takeC [0, 1] [0, 1, 71])]
noncomputable def rtick_H (x : Con.X rtickC) (F : Atom) : Hints where
  op := hk ((rtickOv x F) ++ [(1, 10, OH.q [LH.atj (0 : Nat)]),   (3, 4, OH.q [LH.atj (0 : Nat)]),   (3, 9, OH.w [LH.atj (0 : Nat)])])
  inv := (fun _ _ _ => none) x F
  cut := (fun _ _ _ => none) x F
  ord := (fun _ => [])
set_option maxRecDepth 100000 in
theorem rtick_vc (x : RtX) (F : Atom) (hc : Con.cond rtickC x) (hr : Con.rdc rtickC x F) :
  Br (decide (x.by' < (0 : Int))) (Done rtickC x F (Ending.returned (Value.tuple { toList := [Value.slice none (0 : Nat) (0 : Nat), Value.int IntKind.i64 (1 : Int)] })) [((0 : Nat), Atom.cells x.b [Value.int IntKind.i64 x.now, Value.slice x.row.a x.row.n x.row.cap] (29 : Nat)), ((1 : Nat), x.row.A), ((2 : Nat), F)])
    (Br (decide (x.by' > (9007199254740992 : Int))) (Done rtickC x F (Ending.returned (Value.tuple { toList := [Value.slice none (0 : Nat) (0 : Nat), Value.int IntKind.i64 (1 : Int)] })) [((0 : Nat), Atom.cells x.b [Value.int IntKind.i64 x.now, Value.slice x.row.a x.row.n x.row.cap] (29 : Nat)), ((1 : Nat), x.row.A), ((2 : Nat), F)])
      (Same { block := x.b, off := (0 : Nat) } x.b ∧
        ((-9223372036854775808 : Int) ≤ x.now + x.by' ∧ x.now + x.by' ≤ (9223372036854775807 : Int)) ∧
          Br (decide (x.now + x.by' > (9007199254740992 : Int))) (Done rtickC x F (Ending.returned (Value.tuple { toList := [Value.slice none (0 : Nat) (0 : Nat), Value.int IntKind.i64 (1 : Int)] })) [((0 : Nat), Atom.cells x.b [Value.int IntKind.i64 x.now, Value.slice x.row.a x.row.n x.row.cap] (29 : Nat)), ((1 : Nat), x.row.A), ((2 : Nat), F)])
            (Same { block := x.b, off := (0 : Nat) } x.b ∧
              ((-9223372036854775808 : Int) ≤ x.now + x.by' ∧ x.now + x.by' ≤ (9223372036854775807 : Int)) ∧
                Same { block := x.b, off := (0 : Nat) } x.b ∧
                  FnOk Try.prog (23 : Nat) takeC ∧
                    true = true ∧
                      ∃ (x_1 : TakeX), [Value.pointer (some { block := x.b, off := (0 : Nat) }), Value.int IntKind.i64 (2 : Int), Value.int IntKind.i64 (0 : Int), Value.string { data := #[] }] = [Value.pointer (some { block := x_1.b, off := (0 : Nat) }), Value.int IntKind.i64 x_1.how, Value.int IntKind.i64 x_1.ow, Value.string x_1.id] ∧ [Atom.cells x.b [Value.int IntKind.i64 (x.now + x.by'), Value.slice x.row.a x.row.n x.row.cap] (29 : Nat), x.row.A] = [Atom.cells x_1.b [Value.int IntKind.i64 x_1.now, Value.slice x_1.row.a x_1.row.n x_1.row.cap] (29 : Nat), x_1.row.A] ∧ isUs x_1.us x_1.row ∧ True ∧ ∀ (y : DfY), isUs (stay x_1.g x_1.us) y.row ∧ isNs (nts x_1.g (srt x_1.us)) y.r → Done rtickC x F (Ending.returned (Value.tuple { toList := [Value.slice y.r.a y.r.n y.r.cap, Value.int IntKind.i64 (0 : Int)] })) [((0 : Nat), Atom.cells x_1.b [Value.int IntKind.i64 x_1.now, Value.slice y.row.a y.row.n y.row.cap] (29 : Nat)), ((1 : Nat), y.row.A), ((2 : Nat), F), ((71 : Nat), y.r.A)]))) := by
  obtain ⟨b, now, us, row, by'⟩ := x
  obtain ⟨hus, h0, h1⟩ := hc
  dsimp only at hus h0 h1 ⊢
  have bad : (by' < 0 ∨ by' > 9007199254740992 - now) → Done rtickC ⟨b, now, us, row, by'⟩ F (.returned (.tuple #[.slice none 0 0, .int .i64 1])) [(0, .cells b [.int .i64 now, .slice row.a row.n row.cap] 29), (1, row.A), (2, F)] := by
    intro h
    have he := tickE_bad h
    have hg : ∀ t, tickG now by' t = false := fun t => by unfold tickG; rw [he]; rfl
    refine ⟨⟨row, ⟨none, 0, 0, .emp⟩⟩, ⟨?_, ?_⟩, by simp only [rtickC, he], ?_⟩
    · dsimp only; rw [stay_false us hg]; exact hus
    · dsimp only; rw [nts_false (srt us) hg]; exact ⟨.nil rfl, rfl⟩
    · have : tickNow now by' = now := by unfold tickNow; rw [he]; rfl
      simp only [rtickC, this]
      exact Ent.pick [0, 1, 77, 2] rfl rfl
  refine br_decide (fun h => bad (.inl h)) (fun h => br_decide (fun h2 => bad (.inr (by omega))) (fun h2 => ⟨⟨rfl, rfl⟩, by omega, br_decide (fun h3 => bad (.inr (by omega))) (fun h3 => ⟨⟨rfl, rfl⟩, by omega, ⟨rfl, rfl⟩, take_ok, rfl, ⟨b, now + by', us, row, 2, 0, ⟨#[]⟩⟩, rfl, rfl, hus, trivial, fun y hy => ?_⟩)⟩))
  have he := tickE_ok (now := now) (by' := by') h (by omega)
  have hn : tickNow now by' = now + by' := by unfold tickNow; rw [he]; rfl
  have hg : tickG now by' = goneG (now + by') 2 0 ⟨#[]⟩ := by rw [tickG_ok he]; rfl
  refine ⟨y, ?_, by simp only [rtickC, he], ?_⟩
  · simp only [rtickC, hg]; exact hy
  · simp only [rtickC, hn]; exact Ent.pick [0, 1, 71, 2] rfl rfl
set_option maxRecDepth 100000 in
theorem rtick_ok : FnOk Try.prog 24 rtickC :=
  fnOk (N := 32) (by kernel_rfl) Try.func24 rfl (by kernel_rfl) (fun _ => Nat.le_of_ble_eq_true rfl) rtick_H [] fun x F hc hr => Eq.mpr (by kernel_rfl) (rtick_vc x F hc hr)
structure RsX where
  b : Nat
  now : Int
  us : List Tmr
  row : Row
  ow : Int
  id : ByteArray
  dl : Int
  n : Int
def setU (us : List Tmr) (t : Tmr) (dl : Int) : List Tmr := bif decide (setE us dl = 0) then us ++ [t] else us
def rsetC : Con where
  X := RsX
  Y := Row
  args x := [.pointer (some ⟨x.b, 0, none⟩), .int .i64 x.ow, .string x.id, .int .i64 x.dl, .int .i64 x.n]
  pre x := [clkR x.b x.now x.row, x.row.A]
  cond x := isUs x.us x.row ∧ 0 ≤ x.now ∧ x.now ≤ 9007199254740992
  rdc _ _ := True
  rel x r := isUs (setU x.us ⟨x.ow, x.id, x.now + x.dl, x.n⟩ x.dl) r
  val x _ := .returned (.int .i64 (setE x.us x.dl))
  post x r := [clkR x.b x.now r, r.A]
def rsetOv (_x : RsX) (_F : Atom) : List (Nat × Nat × OH) := [(5, 16, .o (apC 44 4 40) [1] [1])]
noncomputable def rset_H (x : Con.X rsetC) (F : Atom) : Hints where
  op := hk ((rsetOv x F) ++ [(3, 3, OH.q [LH.atj (0 : Nat)]),   (5, 4, OH.q [LH.atj (0 : Nat)]),   (5, 10, OH.q [LH.atj (0 : Nat)]),   (5, 15, OH.n (6150 : Nat)),   (5, 19, OH.w [LH.atj (0 : Nat)])])
  inv := (fun _ _ _ => none) x F
  cut := (fun _ _ _ => none) x F
  ord := (fun _ => [])
set_option maxRecDepth 100000 in
theorem rset_vc (x : RsX) (F : Atom) (hc : Con.cond rsetC x) (hr : Con.rdc rsetC x F) :
  Br (decide (x.dl < (0 : Int))) (Done rsetC x F (Ending.returned (Value.int IntKind.i64 (1 : Int))) [((0 : Nat), Atom.cells x.b [Value.int IntKind.i64 x.now, Value.slice x.row.a x.row.n x.row.cap] (29 : Nat)), ((1 : Nat), x.row.A), ((2 : Nat), F)])
    (Br (decide (x.dl > (1000000000 : Int))) (Done rsetC x F (Ending.returned (Value.int IntKind.i64 (1 : Int))) [((0 : Nat), Atom.cells x.b [Value.int IntKind.i64 x.now, Value.slice x.row.a x.row.n x.row.cap] (29 : Nat)), ((1 : Nat), x.row.A), ((2 : Nat), F)])
      (Same { block := x.b, off := (1 : Nat) } x.b ∧
        Br ((↑x.row.n : Int) == (128 : Int)) (Done rsetC x F (Ending.returned (Value.int IntKind.i64 (4 : Int))) [((0 : Nat), Atom.cells x.b [Value.int IntKind.i64 x.now, Value.slice x.row.a x.row.n x.row.cap] (29 : Nat)), ((1 : Nat), x.row.A), ((2 : Nat), F)])
          (true = true ∧
            Same { block := x.b, off := (1 : Nat) } x.b ∧
              Same { block := x.b, off := (0 : Nat) } x.b ∧
                ((-9223372036854775808 : Int) ≤ x.now + x.dl ∧ x.now + x.dl ≤ (9223372036854775807 : Int)) ∧
                  ∀ (b : Nat),
                    OpOk Try.prog (opIn Try.f22 (5 : Nat) (16 : Nat)) (apC (44 : TypeId) (4 : Nat) (40 : Nat)) ∧
                      true = true ∧
                        ∃ (x_1 : ApX),
                          [Value.slice x.row.a x.row.n x.row.cap, Value.slice (some { block := b, off := (0 : Nat) }) (1 : Nat) (1 : Nat)] = [Value.slice x_1.r.a x_1.r.n x_1.r.cap, Value.slice x_1.a x_1.m x_1.c] ∧
                            [x.row.A] = [x_1.r.A] ∧
                              (IsRow (44 : Nat) (4 : Nat) x_1.cs x_1.r ∧ x_1.ys.length = x_1.m * (4 : Nat) ∧ (∀ (u : Value), u ∈ x_1.ys → u.oneCell' = true) ∧ (x_1.r.n + x_1.m) * (40 : Nat) ≤ (140737488355328 : Nat) ∧ x_1.r.n + x_1.m ≤ (9223372036854775807 : Nat) ∧ (x_1.a = none → x_1.m = (0 : Nat) ∧ x_1.c = (0 : Nat))) ∧
                                (∀ (a : Addr), x_1.a = some a → Seg (Atom.pred (rest [((0 : Nat), Atom.cells x.b [Value.int IntKind.i64 x.now, Value.slice x.row.a x.row.n x.row.cap] (29 : Nat)), ((1 : Nat), x.row.A), ((2 : Nat), F), ((6150 : Nat), Atom.cells b [Value.int IntKind.i64 x.ow, Value.string x.id, Value.int IntKind.i64 (x.now + x.dl), Value.int IntKind.i64 x.n] (44 : Nat))] [(1 : Nat)])) a x_1.ys) ∧ ∀ (y : Row), IsRow (44 : Nat) (4 : Nat) (x_1.cs ++ x_1.ys) y ∧ y.n = x_1.r.n + x_1.m ∧ (x_1.m = (0 : Nat) → y = x_1.r) → Same { block := x.b, off := (1 : Nat) } x.b ∧ Done rsetC x F (Ending.returned (Value.int IntKind.i64 (0 : Int))) [((0 : Nat), Atom.cells x.b [Value.int IntKind.i64 x.now, Value.slice y.a y.n y.cap] (29 : Nat)), ((1 : Nat), y.A), ((2 : Nat), F), ((6150 : Nat), Atom.cells b [Value.int IntKind.i64 x.ow, Value.string x.id, Value.int IntKind.i64 (x.now + x.dl), Value.int IntKind.i64 x.n] (44 : Nat))]))) := by
  obtain ⟨b, now, us, row, ow, id, dl, n⟩ := x
  obtain ⟨hus, h0, h1⟩ := hc
  dsimp only at hus h0 h1 ⊢
  have hus' := hus
  obtain ⟨hrow, hn, h128⟩ := hus'
  have bad : ∀ e : Int, setE us dl = e → e ≠ 0 → Done rsetC ⟨b, now, us, row, ow, id, dl, n⟩ F (.returned (.int .i64 e)) [(0, .cells b [.int .i64 now, .slice row.a row.n row.cap] 29), (1, row.A), (2, F)] := by
    intro e he h
    subst he
    refine ⟨row, ?_, rfl, Ent.pick [0, 1, 2] rfl rfl⟩
    have : setU us ⟨ow, id, now + dl, n⟩ dl = us := by unfold setU; rw [decide_eq_false h]; rfl
    dsimp only [rsetC]
    rw [this]; exact hus
  refine br_decide (fun h => bad 1 (setE_arg us (.inl h)) (by decide)) (fun h => br_decide (fun h2 => bad 1 (setE_arg us (.inr h2)) (by decide)) (fun h2 => ⟨⟨rfl, rfl⟩, br_intro (fun h3 => bad 4 (setE_full h h2 (by have := beq_iff_eq.1 h3; omega)) (by decide)) (fun h3 => ?_)⟩))
  have hlt : us.length < 128 := by
    have : ¬ (row.n : Int) = 128 := fun e => by rw [e] at h3; simp at h3
    omega
  have he : setE us dl = 0 := setE_ok h h2 (by omega)
  have hU : setU us ⟨ow, id, now + dl, n⟩ dl = us ++ [⟨ow, id, now + dl, n⟩] := by unfold setU; rw [he]; rfl
  refine ⟨rfl, ⟨rfl, rfl⟩, ⟨rfl, rfl⟩, by omega, fun b3 => ⟨append_ok (P := Try.prog) 4 40 rfl rfl rfl rfl rfl rfl rfl (by decide), rfl, ⟨row, _, some ⟨b3, 0, none⟩, 1, 1, Tmr.enc ⟨ow, id, now + dl, n⟩⟩, rfl, rfl, ⟨hrow, rfl, ?_, by dsimp only; omega, by dsimp only; omega, by simp⟩, ?_, fun z hz => ?_⟩⟩
  · intro u h
    simp only [Tmr.enc, List.mem_cons, List.not_mem_nil, or_false] at h
    rcases h with rfl | rfl | rfl | rfl <;> rfl
  · intro ad e
    cases e
    exact Seg.rest (j := 6150) (by simp) (Seg.cells fun j u h => by rw [Nat.zero_add]; exact h)
  · obtain ⟨hz1, hz2, -⟩ := hz
    dsimp only at hz1 hz2 ⊢
    refine ⟨⟨rfl, rfl⟩, z, ?_, by simp only [rsetC, he], Ent.pick [0, 1, 2] rfl rfl⟩
    dsimp only [rsetC]
    rw [hU]
    refine ⟨?_, by rw [List.length_append]; simp; omega, by rw [List.length_append]; simp; omega⟩
    rw [encT_append]
    have : encT [⟨ow, id, now + dl, n⟩] = Tmr.enc ⟨ow, id, now + dl, n⟩ := by simp [encT]
    rw [this]; exact hz1
set_option maxRecDepth 100000 in
theorem rset_ok : FnOk Try.prog 22 rsetC :=
  fnOk (N := 42) (by kernel_rfl) Try.func22 rfl (by kernel_rfl) (fun _ => Nat.le_of_ble_eq_true rfl) rset_H [] fun x F hc hr => Eq.mpr (by kernel_rfl) (rset_vc x F hc hr)
def refN (now : Int) : List Tmr → Int
  | [] => -1
  | t :: _ => max 0 (t.due - now)
def rnextC : Con where
  X := RefX
  Y := Unit
  args x := [.pointer (some ⟨x.b, 0, none⟩)]
  pre x := [clkR x.b x.now x.row, x.row.A]
  cond x := isUs x.us x.row ∧ Bnd (srt x.us) ∧ 0 ≤ x.now ∧ x.now ≤ 9007199254740992
  rdc _ _ := True
  rel _ _ := True
  val x _ := .returned (.int .i64 (refN x.now (srt x.us)))
  post x _ := [clkR x.b x.now x.row, x.row.A]
def rnextOv (_x : RefX) (_F : Atom) : List (Nat × Nat × OH) := [(1, 1, .c sortedC [0, 1] [0, 1, 71]), (4, 1, .qo (ixQ 4)), (4, 3, .q [.ex 71 (.int .i64)]), (4, 7, .q [.atj 0])]
noncomputable def rnext_H (x : Con.X rnextC) (F : Atom) : Hints where
  op := hk ((rnextOv x F) ++ [])
  inv := (fun _ _ _ => none) x F
  cut := (fun _ _ _ => none) x F
  ord := (fun _ => [])
set_option maxRecDepth 100000 in
theorem rnext_vc (x : RefX) (F : Atom) (hc : Con.cond rnextC x) (hr : Con.rdc rnextC x F) :
  FnOk Try.prog (17 : Nat) sortedC ∧
    true = true ∧
      ∃ (x_1 : RefX),
        [Value.pointer (some { block := x.b, off := (0 : Nat) })] = [Value.pointer (some { block := x_1.b, off := (0 : Nat) })] ∧
          [Atom.cells x.b [Value.int IntKind.i64 x.now, Value.slice x.row.a x.row.n x.row.cap] (29 : Nat), x.row.A] = [Atom.cells x_1.b [Value.int IntKind.i64 x_1.now, Value.slice x_1.row.a x_1.row.n x_1.row.cap] (29 : Nat), x_1.row.A] ∧
            isUs x_1.us x_1.row ∧
              True ∧
                ∀ (y : Row),
                  IsRow (44 : Nat) (4 : Nat) (encT (srt x_1.us)) y ∧ y.n = x_1.us.length →
                    Br ((↑y.n : Int) == (0 : Int)) (Done rnextC x F (Ending.returned (Value.int IntKind.i64 (-1 : Int))) [((0 : Nat), Atom.cells x_1.b [Value.int IntKind.i64 x_1.now, Value.slice x_1.row.a x_1.row.n x_1.row.cap] (29 : Nat)), ((1 : Nat), x_1.row.A), ((2 : Nat), F), ((71 : Nat), y.A)])
                      (true = true ∧ QOpOk Try.prog (opIn Try.f13 (4 : Nat) (1 : Nat)) (ixQ (4 : Nat)) ∧ ∃ (x_2 : IxQX), [Value.slice y.a y.n y.cap, Value.int IntKind.i64 (0 : Int)] = [Value.slice (some { block := x_2.b, off := x_2.o }) x_2.len x_2.cap, Value.int IntKind.i64 x_2.n] ∧ ((0 : Int) ≤ x_2.n ∧ x_2.n < (↑x_2.len : Int)) ∧ ∃ (n : Int), Look y.A { block := x_2.b, off := x_2.o + x_2.n.toNat * (4 : Nat) + (2 : Nat) } (Value.int IntKind.i64 n) ∧ Same { block := x.b, off := (0 : Nat) } x_1.b ∧ ((-9223372036854775808 : Int) ≤ n - x_1.now ∧ n - x_1.now ≤ (9223372036854775807 : Int)) ∧ Done rnextC x F (Ending.returned (Value.int IntKind.i64 (if n - x_1.now > (0 : Int) then n - x_1.now else (0 : Int)))) [((0 : Nat), Atom.cells x_1.b [Value.int IntKind.i64 x_1.now, Value.slice x_1.row.a x_1.row.n x_1.row.cap] (29 : Nat)), ((1 : Nat), x_1.row.A), ((2 : Nat), F), ((71 : Nat), y.A)]) := by
  obtain ⟨b, now, us, row⟩ := x
  obtain ⟨hus, hbnd, h0, h1⟩ := hc
  dsimp only at hus hbnd h0 h1 ⊢
  refine ⟨sorted_ok, rfl, ⟨b, now, us, row⟩, rfl, rfl, hus, trivial, fun y hy => ?_⟩
  obtain ⟨hy, hyn⟩ := hy
  dsimp only at hy hyn ⊢
  have hsl : (srt us).length = us.length := srt_length us
  refine br_intro (fun he => ⟨(), trivial, ?_, Ent.pick [0, 1, 2] rfl rfl⟩) (fun he => ?_)
  · have : srt us = [] := List.eq_nil_of_length_eq_zero (by have := beq_iff_eq.1 he; omega)
    simp only [rnextC, this, refN]
  · have hpos : 0 < y.n := by
      rcases Nat.eq_zero_or_pos y.n with h | h
      · rw [h] at he; simp at he
      · exact h
    obtain ⟨t, r, hs⟩ : ∃ t r, srt us = t :: r := by
      cases h : srt us with
      | nil => rw [h] at hsl; simp at hsl; omega
      | cons t r => exact ⟨t, r, rfl⟩
    rw [hs] at hy hbnd
    obtain ⟨ht0, ht1⟩ := hbnd t (by simp)
    obtain ⟨b1, o1, ea⟩ := hy.src.some hpos
    have hsr := hy.srcd
    rw [ea] at hsr
    refine ⟨rfl, ixq_ok 4 rfl rfl rfl rfl, ⟨b1, o1, y.n, y.cap, 0⟩, by rw [ea], by dsimp only; omega, t.due, srcd_enc (j := 0) (c := 2) hsr rfl (by decide) rfl, ⟨rfl, rfl⟩, by omega, (), trivial, ?_, Ent.pick [0, 1, 2] rfl rfl⟩
    have e : (if t.due - now > 0 then t.due - now else 0) = max 0 (t.due - now) := by split <;> omega
    simp only [rnextC, hs, refN, e]
set_option maxRecDepth 100000 in
theorem rnext_ok : FnOk Try.prog 13 rnextC :=
  fnOk (N := 19) (by kernel_rfl) Try.func13 rfl (by kernel_rfl) (fun _ => Nat.le_of_ble_eq_true rfl) rnext_H [] fun x F hc hr => Eq.mpr (by kernel_rfl) (rnext_vc x F hc hr)
structure WantX where
  b : Nat
  now : Int
  us : List Tmr
  row : Row
  c : CallD
def WantX.s (x : WantX) : Clk := ⟨x.now, srt x.us⟩
def stepU (now : Int) (us : List Tmr) (c : CallD) : List Tmr := bif k5 c == 0 then setU us ⟨c.ow, c.id, now + c.dl, c.n⟩ c.dl else stay (kG ⟨now, srt us⟩ c) us
def wantC : Con where
  X := WantX
  Y := DfY
  args x := [.pointer (some ⟨x.b, 0, none⟩), .agg #[.int .u8 x.c.kind, .int .i64 x.c.ow, .string x.c.id, .int .i64 x.c.dl, .int .i64 x.c.n, .int .i64 x.c.by']]
  pre x := [clkR x.b x.now x.row, x.row.A]
  cond x := isUs x.us x.row ∧ 0 ≤ x.now ∧ x.now ≤ 9007199254740992
  rdc _ _ := True
  rel x y := isUs (stepU x.now x.us x.c) y.row ∧ isNs (stepO x.s x.c) y.r
  val x y := .returned (.agg #[.slice y.r.a y.r.n y.r.cap, .int .i64 (stepE x.s x.c)])
  post x y := [clkR x.b (stepN x.s x.c) y.row, y.row.A, y.r.A]
def wantOv (_x : WantX) (_F : Atom) : List (Nat × Nat × OH) := [(4, 9, .c rsetC [0, 1] [0, 1]), (6, 5, .c takeC [0, 1] [0, 1, 7777]), (8, 3, .c takeC [0, 1] [0, 1, 7777]), (10, 3, .c rtickC [0, 1] [0, 1, 7777])]
noncomputable def want_H (x : Con.X wantC) (F : Atom) : Hints where
  op := hk ((wantOv x F) ++ [(0, 0, OH.n (1000 : Nat)),   (0, 1, OH.n (1010 : Nat)),   (1, 0, OH.n (2000 : Nat)),   (2, 1, OH.q [LH.atj (1000 : Nat)]),   (4, 2, OH.q [LH.atj (1000 : Nat)]),   (6, 2, OH.q [LH.atj (1000 : Nat)]),   (8, 2, OH.q [LH.atj (1000 : Nat)]),   (10, 2, OH.q [LH.atj (1000 : Nat)]),   (11, 0, OH.q [LH.atj (2000 : Nat), LH.atj (2000 : Nat)]),   (4, 4, OH.q [LH.atj (1000 : Nat)]),   (6, 4, OH.q [LH.atj (1000 : Nat)]),   (8, 5, OH.w [LH.atj (2000 : Nat)]),   (10, 8, OH.w [LH.atj (2000 : Nat)]),   (11, 1, OH.w [LH.atj (1010 : Nat), LH.atj (1010 : Nat)]),   (4, 6, OH.q [LH.atj (1000 : Nat)]),   (6, 7, OH.w [LH.atj (2000 : Nat)]),   (10, 10, OH.w [LH.atj (2000 : Nat)]),   (4, 8, OH.q [LH.atj (1000 : Nat)]),   (4, 11, OH.w [LH.atj (2000 : Nat)])])
  inv := (fun _ _ _ => none) x F
  cut := (fun _ _ _ => none) x F
  ord := (fun _ => [])
set_option maxRecDepth 100000 in
theorem want_vc (x : WantX) (F : Atom) (hc : Con.cond wantC x) (hr : Con.rdc wantC x F) :
  ∀ (b b_1 b_2 : Nat),
    Same { block := b, off := (0 : Nat) } b ∧
      (5 : Int) ≠ (0 : Int) ∧
        Br (x.c.kind.tmod (5 : Int) == (0 : Int))
          (Same { block := b, off := (1 : Nat) } b ∧
            Same { block := b, off := (2 : Nat) } b ∧
              Same { block := b, off := (3 : Nat) } b ∧
                Same { block := b, off := (4 : Nat) } b ∧
                  FnOk Try.prog (22 : Nat) rsetC ∧
                    true = true ∧
                      ∃ (x_1 : RsX),
                        [Value.pointer (some { block := x.b, off := (0 : Nat) }), Value.int IntKind.i64 x.c.ow, Value.string x.c.id, Value.int IntKind.i64 x.c.dl, Value.int IntKind.i64 x.c.n] = [Value.pointer (some { block := x_1.b, off := (0 : Nat) }), Value.int IntKind.i64 x_1.ow, Value.string x_1.id, Value.int IntKind.i64 x_1.dl, Value.int IntKind.i64 x_1.n] ∧
                          [Atom.cells x.b [Value.int IntKind.i64 x.now, Value.slice x.row.a x.row.n x.row.cap] (29 : Nat), x.row.A] = [Atom.cells x_1.b [Value.int IntKind.i64 x_1.now, Value.slice x_1.row.a x_1.row.n x_1.row.cap] (29 : Nat), x_1.row.A] ∧
                            (isUs x_1.us x_1.row ∧ (0 : Int) ≤ x_1.now ∧ x_1.now ≤ (9007199254740992 : Int)) ∧
                              True ∧
                                ∀ (y : Row),
                                  isUs (setU x_1.us { ow := x_1.ow, id := x_1.id, due := x_1.now + x_1.dl, n := x_1.n } x_1.dl) y →
                                    Same { block := b_2, off := (1 : Nat) } b_2 ∧
                                      Same { block := b_2, off := (0 : Nat) } b_2 ∧
                                        Same { block := b_2, off := (1 : Nat) } b_2 ∧
                                          Same { block := b_1, off := (0 : Nat) } b_1 ∧ Same { block := b_1, off := (1 : Nat) } b_1 ∧ Same { block := b_1, off := (0 : Nat) } b_1 ∧ Same { block := b_1, off := (1 : Nat) } b_1 ∧ Done wantC x F (Ending.returned (Value.agg { toList := [Value.slice none (0 : Nat) (0 : Nat), Value.int IntKind.i64 (setE x_1.us x_1.dl)] })) [((0 : Nat), Atom.cells x_1.b [Value.int IntKind.i64 x_1.now, Value.slice y.a y.n y.cap] (29 : Nat)), ((1 : Nat), y.A), ((2 : Nat), F), ((1000 : Nat), Atom.cells b [Value.int IntKind.u8 x.c.kind, Value.int IntKind.i64 x.c.ow, Value.string x.c.id, Value.int IntKind.i64 x.c.dl, Value.int IntKind.i64 x.c.n, Value.int IntKind.i64 x.c.by'] (31 : Nat)), ((1010 : Nat), Atom.cells b_1 [Value.slice none (0 : Nat) (0 : Nat), Value.int IntKind.i64 (setE x_1.us x_1.dl)] (34 : Nat)), ((2000 : Nat), Atom.cells b_2 [Value.slice none (0 : Nat) (0 : Nat), Value.int IntKind.i64 (setE x_1.us x_1.dl)] (34 : Nat))])
          (Br (x.c.kind.tmod (5 : Int) == (1 : Int))
            (Same { block := b, off := (1 : Nat) } b ∧
              Same { block := b, off := (2 : Nat) } b ∧
                FnOk Try.prog (23 : Nat) takeC ∧
                  true = true ∧
                    ∃ (x_1 : TakeX),
                      [Value.pointer (some { block := x.b, off := (0 : Nat) }), Value.int IntKind.i64 (0 : Int), Value.int IntKind.i64 x.c.ow, Value.string x.c.id] = [Value.pointer (some { block := x_1.b, off := (0 : Nat) }), Value.int IntKind.i64 x_1.how, Value.int IntKind.i64 x_1.ow, Value.string x_1.id] ∧
                        [Atom.cells x.b [Value.int IntKind.i64 x.now, Value.slice x.row.a x.row.n x.row.cap] (29 : Nat), x.row.A] = [Atom.cells x_1.b [Value.int IntKind.i64 x_1.now, Value.slice x_1.row.a x_1.row.n x_1.row.cap] (29 : Nat), x_1.row.A] ∧
                          isUs x_1.us x_1.row ∧
                            True ∧
                              ∀ (y : DfY),
                                isUs (stay x_1.g x_1.us) y.row ∧ isNs (nts x_1.g (srt x_1.us)) y.r →
                                  Same { block := b_2, off := (0 : Nat) } b_2 ∧
                                    Same { block := b_2, off := (0 : Nat) } b_2 ∧
                                      Same { block := b_2, off := (1 : Nat) } b_2 ∧
                                        Same { block := b_1, off := (0 : Nat) } b_1 ∧ Same { block := b_1, off := (1 : Nat) } b_1 ∧ Same { block := b_1, off := (0 : Nat) } b_1 ∧ Same { block := b_1, off := (1 : Nat) } b_1 ∧ Done wantC x F (Ending.returned (Value.agg { toList := [Value.slice y.r.a y.r.n y.r.cap, Value.int IntKind.i64 (0 : Int)] })) [((0 : Nat), Atom.cells x_1.b [Value.int IntKind.i64 x_1.now, Value.slice y.row.a y.row.n y.row.cap] (29 : Nat)), ((1 : Nat), y.row.A), ((2 : Nat), F), ((1000 : Nat), Atom.cells b [Value.int IntKind.u8 x.c.kind, Value.int IntKind.i64 x.c.ow, Value.string x.c.id, Value.int IntKind.i64 x.c.dl, Value.int IntKind.i64 x.c.n, Value.int IntKind.i64 x.c.by'] (31 : Nat)), ((1010 : Nat), Atom.cells b_1 [Value.slice y.r.a y.r.n y.r.cap, Value.int IntKind.i64 (0 : Int)] (34 : Nat)), ((2000 : Nat), Atom.cells b_2 [Value.slice y.r.a y.r.n y.r.cap, Value.int IntKind.i64 (0 : Int)] (34 : Nat)), ((7777 : Nat), y.r.A)])
            (Br (x.c.kind.tmod (5 : Int) == (2 : Int))
              (Same { block := b, off := (1 : Nat) } b ∧
                FnOk Try.prog (23 : Nat) takeC ∧
                  true = true ∧
                    ∃ (x_1 : TakeX),
                      [Value.pointer (some { block := x.b, off := (0 : Nat) }), Value.int IntKind.i64 (1 : Int), Value.int IntKind.i64 x.c.ow, Value.string { data := #[] }] = [Value.pointer (some { block := x_1.b, off := (0 : Nat) }), Value.int IntKind.i64 x_1.how, Value.int IntKind.i64 x_1.ow, Value.string x_1.id] ∧
                        [Atom.cells x.b [Value.int IntKind.i64 x.now, Value.slice x.row.a x.row.n x.row.cap] (29 : Nat), x.row.A] = [Atom.cells x_1.b [Value.int IntKind.i64 x_1.now, Value.slice x_1.row.a x_1.row.n x_1.row.cap] (29 : Nat), x_1.row.A] ∧
                          isUs x_1.us x_1.row ∧
                            True ∧
                              ∀ (y : DfY),
                                isUs (stay x_1.g x_1.us) y.row ∧ isNs (nts x_1.g (srt x_1.us)) y.r →
                                  Same { block := b_2, off := (0 : Nat) } b_2 ∧
                                    Same { block := b_2, off := (0 : Nat) } b_2 ∧
                                      Same { block := b_2, off := (1 : Nat) } b_2 ∧
                                        Same { block := b_1, off := (0 : Nat) } b_1 ∧ Same { block := b_1, off := (1 : Nat) } b_1 ∧ Same { block := b_1, off := (0 : Nat) } b_1 ∧ Same { block := b_1, off := (1 : Nat) } b_1 ∧ Done wantC x F (Ending.returned (Value.agg { toList := [Value.slice y.r.a y.r.n y.r.cap, Value.int IntKind.i64 (0 : Int)] })) [((0 : Nat), Atom.cells x_1.b [Value.int IntKind.i64 x_1.now, Value.slice y.row.a y.row.n y.row.cap] (29 : Nat)), ((1 : Nat), y.row.A), ((2 : Nat), F), ((1000 : Nat), Atom.cells b [Value.int IntKind.u8 x.c.kind, Value.int IntKind.i64 x.c.ow, Value.string x.c.id, Value.int IntKind.i64 x.c.dl, Value.int IntKind.i64 x.c.n, Value.int IntKind.i64 x.c.by'] (31 : Nat)), ((1010 : Nat), Atom.cells b_1 [Value.slice y.r.a y.r.n y.r.cap, Value.int IntKind.i64 (0 : Int)] (34 : Nat)), ((2000 : Nat), Atom.cells b_2 [Value.slice y.r.a y.r.n y.r.cap, Value.int IntKind.i64 (0 : Int)] (34 : Nat)), ((7777 : Nat), y.r.A)])
              (Br (x.c.kind.tmod (5 : Int) == (3 : Int))
                (Same { block := b, off := (5 : Nat) } b ∧
                  FnOk Try.prog (24 : Nat) rtickC ∧
                    true = true ∧
                      ∃ (x_1 : RtX),
                        [Value.pointer (some { block := x.b, off := (0 : Nat) }), Value.int IntKind.i64 x.c.by'] = [Value.pointer (some { block := x_1.b, off := (0 : Nat) }), Value.int IntKind.i64 x_1.by'] ∧
                          [Atom.cells x.b [Value.int IntKind.i64 x.now, Value.slice x.row.a x.row.n x.row.cap] (29 : Nat), x.row.A] = [Atom.cells x_1.b [Value.int IntKind.i64 x_1.now, Value.slice x_1.row.a x_1.row.n x_1.row.cap] (29 : Nat), x_1.row.A] ∧
                            (isUs x_1.us x_1.row ∧ (0 : Int) ≤ x_1.now ∧ x_1.now ≤ (9007199254740992 : Int)) ∧
                              True ∧
                                ∀ (y : DfY),
                                  isUs (stay (tickG x_1.now x_1.by') x_1.us) y.row ∧ isNs (nts (tickG x_1.now x_1.by') (srt x_1.us)) y.r →
                                    Same { block := b_2, off := (0 : Nat) } b_2 ∧
                                      Same { block := b_2, off := (1 : Nat) } b_2 ∧
                                        Same { block := b_2, off := (0 : Nat) } b_2 ∧
                                          Same { block := b_2, off := (1 : Nat) } b_2 ∧
                                            Same { block := b_1, off := (0 : Nat) } b_1 ∧
                                              Same { block := b_1, off := (1 : Nat) } b_1 ∧ Same { block := b_1, off := (0 : Nat) } b_1 ∧ Same { block := b_1, off := (1 : Nat) } b_1 ∧ Done wantC x F (Ending.returned (Value.agg { toList := [Value.slice y.r.a y.r.n y.r.cap, Value.int IntKind.i64 (tickE x_1.now x_1.by')] })) [((0 : Nat), Atom.cells x_1.b [Value.int IntKind.i64 (tickNow x_1.now x_1.by'), Value.slice y.row.a y.row.n y.row.cap] (29 : Nat)), ((1 : Nat), y.row.A), ((2 : Nat), F), ((1000 : Nat), Atom.cells b [Value.int IntKind.u8 x.c.kind, Value.int IntKind.i64 x.c.ow, Value.string x.c.id, Value.int IntKind.i64 x.c.dl, Value.int IntKind.i64 x.c.n, Value.int IntKind.i64 x.c.by'] (31 : Nat)), ((1010 : Nat), Atom.cells b_1 [Value.slice y.r.a y.r.n y.r.cap, Value.int IntKind.i64 (tickE x_1.now x_1.by')] (34 : Nat)), ((2000 : Nat), Atom.cells b_2 [Value.slice y.r.a y.r.n y.r.cap, Value.int IntKind.i64 (tickE x_1.now x_1.by')] (34 : Nat)), ((7777 : Nat), y.r.A)])
                (Same { block := b_2, off := (0 : Nat) } b_2 ∧
                  Same { block := b_2, off := (1 : Nat) } b_2 ∧ Same { block := b_1, off := (0 : Nat) } b_1 ∧ Same { block := b_1, off := (1 : Nat) } b_1 ∧ Same { block := b_1, off := (0 : Nat) } b_1 ∧ Same { block := b_1, off := (1 : Nat) } b_1 ∧ Done wantC x F (Ending.returned (Value.agg { toList := [Value.slice none (0 : Nat) (0 : Nat), Value.int IntKind.i64 (0 : Int)] })) [((0 : Nat), Atom.cells x.b [Value.int IntKind.i64 x.now, Value.slice x.row.a x.row.n x.row.cap] (29 : Nat)), ((1 : Nat), x.row.A), ((2 : Nat), F), ((1000 : Nat), Atom.cells b [Value.int IntKind.u8 x.c.kind, Value.int IntKind.i64 x.c.ow, Value.string x.c.id, Value.int IntKind.i64 x.c.dl, Value.int IntKind.i64 x.c.n, Value.int IntKind.i64 x.c.by'] (31 : Nat)), ((1010 : Nat), Atom.cells b_1 [Value.slice none (0 : Nat) (0 : Nat), Value.int IntKind.i64 (0 : Int)] (34 : Nat)), ((2000 : Nat), Atom.cells b_2 [Value.slice none (0 : Nat) (0 : Nat), Value.int IntKind.i64 (0 : Int)] (34 : Nat))])))) := by
  obtain ⟨cb, now, us, row, ⟨kind, ow, id, dl, n, by'⟩⟩ := x
  obtain ⟨hus, hn0, hn1⟩ := hc
  dsimp only at hus hn0 hn1
  have hE : setE (srt us) dl = setE us dl := by unfold setE; rw [srt_length]
  intro b b1 b2
  simp only [same_refl, true_and]
  refine ⟨by omega, br_intro (fun h0 => ?_) (fun h0 => br_intro (fun h1 => ?_) (fun h1 => br_intro (fun h2 => ?_) (fun h2 => br_intro (fun h3 => ?_) (fun h3 => ?_))))⟩
  · have e0 : k5 ⟨kind, ow, id, dl, n, by'⟩ == 0 := h0
    have e3 : (k5 ⟨kind, ow, id, dl, n, by'⟩ == 3) = false := by simp only [beq_iff_eq] at e0; simp [e0]
    refine ⟨rset_ok, ⟨cb, now, us, row, ow, id, dl, n⟩, rfl, rfl, ⟨hus, hn0, hn1⟩, fun y hy => ⟨⟨y, ⟨none, 0, 0, .emp⟩⟩, ⟨?_, ?_⟩, ?_, ?_⟩⟩
    · dsimp only; unfold stepU; rw [e0]; exact hy
    · dsimp only [WantX.s]; unfold stepO; rw [e0]; exact ⟨.nil rfl, rfl⟩
    · simp only [wantC, WantX.s, stepE, e0, cond_true, hE]
    · simp only [wantC, WantX.s, stepN, e3, cond_false]; exact Ent.pick [0, 1, 7777, 2] rfl rfl
  · have e0 : (k5 ⟨kind, ow, id, dl, n, by'⟩ == 0) = false := h0
    have e1 : k5 ⟨kind, ow, id, dl, n, by'⟩ == 1 := h1
    have e3 : (k5 ⟨kind, ow, id, dl, n, by'⟩ == 3) = false := by simp only [beq_iff_eq] at e1; simp [e1]
    have eg : kG ⟨now, srt us⟩ ⟨kind, ow, id, dl, n, by'⟩ = goneG now 0 ow id := by funext t; unfold kG; rw [e1]; rfl
    refine ⟨take_ok, ⟨cb, now, us, row, 0, ow, id⟩, rfl, rfl, hus, fun y hy => ⟨y, ⟨?_, ?_⟩, ?_, ?_⟩⟩
    · dsimp only; unfold stepU; rw [e0, eg]; exact hy.1
    · dsimp only [WantX.s]; unfold stepO; rw [e0, eg]; exact hy.2
    · simp only [wantC, WantX.s, stepE, e0, e3, cond_false]
    · simp only [wantC, WantX.s, stepN, e3, cond_false]; exact Ent.pick [0, 1, 7777, 2] rfl rfl
  · have e0 : (k5 ⟨kind, ow, id, dl, n, by'⟩ == 0) = false := h0
    have e1 : (k5 ⟨kind, ow, id, dl, n, by'⟩ == 1) = false := h1
    have e2 : k5 ⟨kind, ow, id, dl, n, by'⟩ == 2 := h2
    have e3 : (k5 ⟨kind, ow, id, dl, n, by'⟩ == 3) = false := by simp only [beq_iff_eq] at e2; simp [e2]
    have eg : kG ⟨now, srt us⟩ ⟨kind, ow, id, dl, n, by'⟩ = goneG now 1 ow ⟨#[]⟩ := by
      funext t; unfold kG; rw [e1, e2]; show (t.ow == ow) = goneG now 1 ow ⟨#[]⟩ t
      unfold goneG
      show (t.ow == ow) = bif t.ow == ow then true else false
      cases t.ow == ow <;> rfl
    refine ⟨take_ok, ⟨cb, now, us, row, 1, ow, ⟨#[]⟩⟩, rfl, rfl, hus, fun y hy => ⟨y, ⟨?_, ?_⟩, ?_, ?_⟩⟩
    · dsimp only; unfold stepU; rw [e0, eg]; exact hy.1
    · dsimp only [WantX.s]; unfold stepO; rw [e0, eg]; exact hy.2
    · simp only [wantC, WantX.s, stepE, e0, e3, cond_false]
    · simp only [wantC, WantX.s, stepN, e3, cond_false]; exact Ent.pick [0, 1, 7777, 2] rfl rfl
  · have e0 : (k5 ⟨kind, ow, id, dl, n, by'⟩ == 0) = false := h0
    have e1 : (k5 ⟨kind, ow, id, dl, n, by'⟩ == 1) = false := h1
    have e2 : (k5 ⟨kind, ow, id, dl, n, by'⟩ == 2) = false := h2
    have e3 : k5 ⟨kind, ow, id, dl, n, by'⟩ == 3 := h3
    have eg : kG ⟨now, srt us⟩ ⟨kind, ow, id, dl, n, by'⟩ = tickG now by' := by funext t; unfold kG; rw [e1, e2, e3]; rfl
    refine ⟨rtick_ok, ⟨cb, now, us, row, by'⟩, rfl, rfl, ⟨hus, hn0, hn1⟩, fun y hy => ⟨y, ⟨?_, ?_⟩, ?_, ?_⟩⟩
    · dsimp only; unfold stepU; rw [e0, eg]; exact hy.1
    · dsimp only [WantX.s]; unfold stepO; rw [e0, eg]; exact hy.2
    · simp only [wantC, WantX.s, stepE, e0, e3, cond_false, cond_true]
    · simp only [wantC, WantX.s, stepN, e3, cond_true]; exact Ent.pick [0, 1, 7777, 2] rfl rfl
  · have e0 : (k5 ⟨kind, ow, id, dl, n, by'⟩ == 0) = false := h0
    have e1 : (k5 ⟨kind, ow, id, dl, n, by'⟩ == 1) = false := h1
    have e2 : (k5 ⟨kind, ow, id, dl, n, by'⟩ == 2) = false := h2
    have e3 : (k5 ⟨kind, ow, id, dl, n, by'⟩ == 3) = false := h3
    have eg : ∀ t, kG ⟨now, srt us⟩ ⟨kind, ow, id, dl, n, by'⟩ t = false := by intro t; unfold kG; rw [e1, e2, e3]; rfl
    refine ⟨⟨row, ⟨none, 0, 0, .emp⟩⟩, ⟨?_, ?_⟩, ?_, ?_⟩
    · dsimp only; unfold stepU; rw [e0]; dsimp only [cond_false]; rw [stay_false us eg]; exact hus
    · dsimp only [WantX.s]; unfold stepO; rw [e0]; dsimp only [cond_false]; rw [nts_false (srt us) eg]; exact ⟨.nil rfl, rfl⟩
    · simp only [wantC, WantX.s, stepE, e0, e3, cond_false]
    · simp only [wantC, WantX.s, stepN, e3, cond_false]; exact Ent.pick [0, 1, 7777, 2] rfl rfl
set_option maxRecDepth 100000 in
theorem want_ok : FnOk Try.prog 10 wantC :=
  fnOk (N := 50) (by kernel_rfl) Try.func10 rfl (by kernel_rfl) (fun _ => Nat.le_of_ble_eq_true rfl) want_H [LH.atj 1010, LH.atj 1010] fun x F hc hr => Eq.mpr (by kernel_rfl) (want_vc x F hc hr)
end Go.Proofs.Ytmknmibmnidnoaa
